/- ReadContainer: contract of the program's. -/
import Derived.Test.YtpjjadmjdafkeaaDoorRe
import Derived.Test.YtpjjadmjdafkeaaDoorRf
import Derived.Test.YtpjjadmjdafkeaaDoorIs
import Derived.Test.YtpjjadmjdafkeaaDoorW1
namespace Go.Proofs.YtpjjadmjdafkeaaDoor
open Go.RowKit
set_option maxHeartbeats 1000000
/-- What ReadContainer returns. -/
def RcR (w : World) (d : List Int) (e : Ending) (w' : World) : Prop :=
  ∃ a' c', e = .returned (.tuple #[.slice a' (rcL d).length c', .bool (decide (rcOk d))]) ∧ SE w' w.heap.size (.slice a' (rcL d).length c') (rcL d) ∧ Ext w w'
/-- The same, and no two entries share a block. -/
def RcI (w : World) (d : List Int) (e : Ending) (w' : World) : Prop :=
  ∃ a' c', e = .returned (.tuple #[.slice a' (rcL d).length c', .bool (decide (rcOk d))]) ∧ SEd w' w.heap.size (.slice a' (rcL d).length c') (rcL d) ∧ Ext w w'
theorem RcI.no {w w' : World} {d : List Int} (h : ¬ rcOk d) (e : Ext w w') : RcI w d (.returned (.tuple #[.slice none 0 0, .bool false])) w' := by
  unfold RcI rcL
  rw [if_neg h, decide_eq_false h]
  exact ⟨none, 0, rfl, ⟨[], World.ownsRow_nil _ _ _ _, fun i hi => by simp at hi, fun i j _ hj => by simp at hj⟩, e⟩
theorem RcR.no {w w' : World} {d : List Int} (h : ¬ rcOk d) (e : Ext w w') : RcR w d (.returned (.tuple #[.slice none 0 0, .bool false])) w' := by
  unfold RcR rcL
  rw [if_neg h, decide_eq_false h]
  exact ⟨none, 0, rfl, ⟨[], World.ownsRow_nil _ _ _ _, fun i hi => by simp at hi⟩, e⟩
set_option maxRecDepth 100000 in
theorem impl_ReadContainer_ex (b : Addr) (a : Option Addr) (c n : Nat) (d : List Int) (w : World) (h0 : w.cell? ⟨0, 0, none⟩ = some (.iface 82 (.pointer (some b)))) (hc : n ≤ c ∧ c ≤ 9223372036854775807) (r : Sl w a n (d.map (Value.int .u8))) (hb : bys d) (hblk : ∀ y, a = some y → y.block < w.heap.size)
    (hcv : ∀ w', Ext w w' → (convert 22 9 (.slice a n c)).run Tryd.prog w' = .ok (.string (strOfNums d)) w') :
    Calls Tryd.prog 11 #[.slice a n c] w (RcI w d) := by
  have Hb := Lib.hid hb
  have Hcv := Lib.hid hcv
  have hrc := readContainer_any a c n d w hc r hb hblk
  clear hb hcv hc r hblk
  go_enter Tryd.func11, Tryd.ntmps11
  go_wp2_with fail
  refine hrc.mono ?_
  rintro e w1 (⟨hf, a1, c1, rfl, S1, E1⟩ | ⟨hf, v, s, rfl, E1⟩)
  · have HF := Lib.hid hf
    have k0 := cell_ext E1 h0
    have hL := cL_len d
    have sp := S1.toSE.toSP
    obtain ⟨L, hLL⟩ : ∃ L, L = cL d := ⟨_, rfl⟩
    rw [← hLL] at S1 sp
    have HL := Lib.hid hLL
    have hN255 : cNum d ≤ 255 := by have := tk1_le Hb.out false; rw [tk1_num d Hb.out] at this; omega
    obtain ⟨N, hN⟩ : ∃ N, N = cNum d := ⟨_, rfl⟩
    rw [← hN] at sp S1 hN255 ⊢
    have HN := Lib.hid hN
    clear hrc hf hL hLL hN h0
    go_wp2_with fail
    refine (is_nil b w1).mono ?_
    rintro e w2 ⟨rfl, rfl⟩
    go_wp2_with fail
    refine (impl_WriteContainer_any a1 c1 N L _ (by omega) sp).mono ?_
    rintro e w3 ⟨a3, c3, rfl, own3, e3⟩
    have hcw : bys (wcont L) := by rw [HL.out]; exact wcont_bys Hb.out HF.out
    have h1 := conv_own w3 _ a3 _ c3 _ own3
    have h2 := Hcv.out w3 (E1.trans e3)
    obtain ⟨B, hB⟩ : ∃ B, B = wcont L := ⟨_, rfl⟩
    rw [← hB] at h1 hcw ⊢
    have HB := Lib.hid hB
    have S3 := S1.ext e3
    have E3 := E1.trans e3
    clear own3 hB S1 sp e3 E1
    go_wp2_with fail
    refine (bytes_Equal_any _ _ B d w3 hcw Hb.out h1 h2).mono ?_
    rintro e w4 ⟨rfl, rfl⟩
    have hiff := rc_iff Hb.out HF.out
    rw [← HL.out, ← HB.out] at hiff
    by_cases hE : B = d
    · rw [decide_eq_true hE]
      have hok := hiff.1 hE
      have HOK := Lib.hid hok
      clear hE hok hiff
      go_wp2
      go_ret2
      unfold RcI rcL
      rw [if_pos HOK.out, decide_eq_true HOK.out, ← HL.out]
      obtain ⟨aa, cc, hv⟩ := S3.toSE.form
      simp only [Value.slice.injEq] at hv
      obtain ⟨rfl, hNL, rfl⟩ := hv
      rw [← hNL]
      exact ⟨_, _, rfl, S3, E3⟩
    · rw [decide_eq_false hE]
      have hok : ¬ rcOk d := fun h => hE (hiff.2 h)
      have HOK := Lib.hid hok
      clear hE hok hiff
      go_wp2
      go_ret2
      exact RcI.no HOK.out E3
  · have hok : ¬ rcOk d := fun h => hf h.1
    have HOK := Lib.hid hok
    have k0 := cell_ext E1 h0
    clear hok hf hrc h0
    go_wp2_with fail
    refine (is_read s b w1 k0).mono ?_
    rintro e w2 ⟨rfl, e2⟩
    have E2 := E1.trans e2
    clear E1 e2 k0
    go_wp2
    go_ret2
    exact RcI.no HOK.out E2
theorem impl_ReadContainer_any (b : Addr) (a : Option Addr) (c n : Nat) (d : List Int) (w : World) (h0 : w.cell? ⟨0, 0, none⟩ = some (.iface 82 (.pointer (some b)))) (hc : n ≤ c ∧ c ≤ 9223372036854775807) (r : Sl w a n (d.map (Value.int .u8))) (hb : bys d) (hblk : ∀ y, a = some y → y.block < w.heap.size)
    (hcv : ∀ w', Ext w w' → (convert 22 9 (.slice a n c)).run Tryd.prog w' = .ok (.string (strOfNums d)) w') :
    Calls Tryd.prog 11 #[.slice a n c] w (RcR w d) :=
  (impl_ReadContainer_ex b a c n d w h0 hc r hb hblk hcv).mono fun _ _ ⟨a', c', h1, h2, h3⟩ => ⟨a', c', h1, h2.toSE, h3⟩
end Go.Proofs.YtpjjadmjdafkeaaDoor
