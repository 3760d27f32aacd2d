/- RowsRead. -/
import Derived.Test.YtlmoeabchiddnaaDoorMd
import Derived.Test.YtlmoeabchiddnaaDoorMe
import Derived.Test.YtlmoeabchiddnaaDoorCl
import Derived.Test.YtlmoeabchiddnaaDoorC1
import Derived.Test.YtlmoeabchiddnaaDoorMu
namespace Go.Proofs.YtlmoeabchiddnaaDoor
open Go.RowKit
set_option maxHeartbeats 400000
/-- The row of macroblocks of a row of samples, moved inside. -/
def rowAt (k h : Int) : Nat := (clipI k 0 (h - 1) / 8).toNat
/-- The arguments of RowsRead are in range. -/
def placed (y h : Int) : Prop := 0 ≤ y ∧ y % 8 = 0 ∧ h % 8 = 0 ∧ h ≤ 32 ∧ y ≤ h - 8
instance (y h : Int) : Decidable (placed y h) := by unfold placed; infer_instance
/-- The rows from a to b. -/
def upto (a b : Nat) : List Int := (List.range (b + 1 - a)).map fun i : Nat => ((a + i : Nat) : Int)
theorem upto_snoc {a c : Nat} (h : a ≤ c) : upto a c = (if c = a then [] else upto a (c - 1)) ++ [(c : Int)] := by
  unfold upto
  rw [show c + 1 - a = (c - a) + 1 by omega, List.range_succ, List.map_append]
  by_cases hca : c = a
  · subst hca; simp
  · rw [if_neg hca, show c - 1 + 1 - a = c - a by omega]
    simp
    omega
noncomputable def rowsL (m : Mac) (y h : Int) : List Int := if m.valid ∧ placed y h ∧ m.kind ≠ 2 then upto (rowAt ((2 * y + m.y) / 2) h) (rowAt ((2 * (y + 8 - 1) + m.y + 1) / 2) h) else []
theorem upto_len (a b : Nat) : (upto a b).length = b + 1 - a := by simp [upto]
theorem nth_upto {a b j : Nat} (h : j < b + 1 - a) : nth (upto a b) j = ((a + j : Nat) : Int) := by simp [nth, upto, h]
theorem upto_take {a b j : Nat} (h : j < b + 1 - a) : ((upto a b).take (j + 1)).map (Value.int .i64) = ((upto a b).take j).map (Value.int .i64) ++ [.int .i64 ((a : Int) + (j : Int))] := by
  rw [take_snoc_nth _ j (by rw [upto_len]; exact h), nth_upto h]; simp
theorem rowAt_eq (k h : Int) (h0 : 8 ≤ h) : clipI k 0 (h - 1) / 8 = (rowAt k h : Int) := by
  unfold rowAt
  have := clipI_lo (n := k) (lo := 0) (hi := h - 1) (by omega)
  omega
theorem rowAt_mono {k l h : Int} (hk : k ≤ l) : rowAt k h ≤ rowAt l h := by
  unfold rowAt clipI; omega
theorem rowAt_le {k h : Int} (h0 : 8 ≤ h) (h1 : h ≤ 32) : rowAt k h ≤ 3 := by
  unfold rowAt clipI; omega
set_option maxRecDepth 100000 in
theorem spec_RowsRead_yes (m : Mac) (y h : Int) (w : World) (hm : m.ok) (hv : m.valid) (hp : placed y h) (hk : m.kind ≠ 2) :
    Calls Tryd.prog 11 #[.agg (ic m.zs), .int .i64 y, .int .i64 h] w fun e w' => ∃ v, e = .returned v ∧ w'.ownsRow w.heap.size 3 1 v (upto (rowAt ((2 * y + m.y) / 2) h) (rowAt ((2 * (y + 8 - 1) + m.y + 1) / 2) h)).length ((upto (rowAt ((2 * y + m.y) / 2) h) (rowAt ((2 * (y + 8 - 1) + m.y + 1) / 2) h)).map (Value.int .i64)) ∧ Ext w w' := by
  have H := IB.new w 33 m.zs
  have Hl := Lib.hid (Mac.zs_len hm)
  have Hm := Lib.hid hm
  have Hv := Lib.hid hv
  have hy := hv.2.1
  obtain ⟨p1, p2, p3, p4, p5⟩ := hp
  have hkd : (m.kind == 2) = false := by simpa using hk
  clear hm hv hk
  have hd8 : (h % 8 != 0) = false := by simpa using p3
  have hd8y : (y % 8 != 0) = false := by simpa using p2
  have P2 := Lib.hid p2
  have P3 := Lib.hid p3
  clear p2 p3
  go_enter Tryd.func11, Tryd.ntmps11
  go_wp2_with (refine wpList_iload 33 _ rfl rfl (H.alloc _) 0 71 rfl _ Tryd.underlying33 rfl size_Macro (by rw [Hl.out]; omega) _ (by rw [sub_all _ _ Hl.out]) ?_)
  have hown := World.ownsRow_made (base := w.heap.size) (e := 3) (size := 1) (w.alloc (.cells (ic m.zs) 33)) #[] 0 (by simp) (by simp) rfl
  simp only [World.size_alloc] at hown
  refine (spec_MacroValid_any m _ Hm.out).mono ?_
  rw [decide_eq_true Hv.out]
  rintro e w1 ⟨rfl, e1⟩
  have H1 := (H.alloc (.cells #[] 3)).ext e1
  have own1 := owns_ext hown e1
  have E1 := ((Ext.alloc w (.cells (ic m.zs) 33)).trans (Ext.alloc _ (.cells #[] 3))).trans e1
  have k0 := H1.cell (i := 0) (by rw [Hl.out]; omega)
  have k2 := H1.cell (i := 2) (by rw [Hl.out]; omega)
  rw [Mac.zs_kind] at k0
  rw [Mac.zs_y] at k2
  clear H hown e1
  go_wp2_with fail
  refine (l1In_yes _ _ _ _ (by omega) p4).mono ?_
  rintro e w2 ⟨rfl, rfl⟩
  go_wp2_with fail
  refine (l1In_yes _ _ _ _ p1 p5).mono ?_
  rintro e w2 ⟨rfl, rfl⟩
  obtain ⟨-, -, y1, y2⟩ := hy
  go_wp2_with fail
  refine (l7Floor_any _ 2 _ (by omega) (by omega) (by omega) (by omega)).mono ?_
  rintro e w2 ⟨rfl, rfl⟩
  go_wp2_with fail
  refine (l1Clip_any _ _ _ _).mono ?_
  rintro e w2 ⟨rfl, rfl⟩
  obtain ⟨ca, hca⟩ : ∃ ca, ca = clipI ((2 * y + m.y) / 2) 0 (h - 1) := ⟨_, rfl⟩
  have hca1 := clipI_lo (n := (2 * y + m.y) / 2) (lo := 0) (hi := h - 1) (by omega)
  have hra := rowAt_eq ((2 * y + m.y) / 2) h (by omega)
  rw [← hca] at hca1 hra ⊢
  have Hca := Lib.hid hca
  have Hra := Lib.hid hra
  clear hca hra
  go_wp2_with fail
  refine (l7Floor_any _ 2 _ (by omega) (by omega) (by omega) (by omega)).mono ?_
  rintro e w2 ⟨rfl, rfl⟩
  go_wp2_with fail
  refine (l1Clip_any _ _ _ _).mono ?_
  rintro e w2 ⟨rfl, rfl⟩
  obtain ⟨cb, hcb⟩ : ∃ cb, cb = clipI ((2 * (y + 8 - 1) + m.y + 1) / 2) 0 (h - 1) := ⟨_, rfl⟩
  have hcb1 := clipI_lo (n := (2 * (y + 8 - 1) + m.y + 1) / 2) (lo := 0) (hi := h - 1) (by omega)
  have hrb := rowAt_eq ((2 * (y + 8 - 1) + m.y + 1) / 2) h (by omega)
  rw [← hcb] at hcb1 hrb ⊢
  have Hrb := Lib.hid hrb
  clear hcb hrb
  have hle := rowAt_mono (h := h) (show (2 * y + m.y) / 2 ≤ (2 * (y + 8 - 1) + m.y + 1) / 2 by omega)
  have hb3 := rowAt_le (k := (2 * (y + 8 - 1) + m.y + 1) / 2) (h := h) (by omega) p4
  go_wp2_with fail
  rw [Hra.out, Hrb.out]
  obtain ⟨A, hA⟩ : ∃ A, A = rowAt ((2 * y + m.y) / 2) h := ⟨_, rfl⟩
  obtain ⟨B, hB⟩ : ∃ B, B = rowAt ((2 * (y + 8 - 1) + m.y + 1) / 2) h := ⟨_, rfl⟩
  rw [← hA, ← hB] at hle
  rw [← hB] at hb3
  rw [← hA, ← hB]
  have HA := Lib.hid hA
  have HB := Lib.hid hB
  clear hA hB
  have hlen := upto_len A B
  obtain ⟨M, hM⟩ : ∃ M, M = B + 1 - A := ⟨_, rfl⟩
  rw [← hM] at hlen
  have Hlen := Lib.hid hlen
  have HM := Lib.hid hM
  clear hlen hM Hra Hrb k0 k2 H1 hca1 hcb1
  go_loopw [7, 10] (fun v i wr => ∃ j : Nat, j ≤ M ∧ i = .int .i64 ((A : Int) + (j : Int)) ∧ Ext w wr ∧ wr.ownsRow w.heap.size 3 1 v j (((upto A B).take j).map (Value.int .i64))) (fun _ i _ => (100 - intOf i).toNat)
  case atStart => exact ⟨0, by omega, by simp, E1, by simpa using own1⟩
  case round =>
    obtain ⟨j, hj, rfl, E2, own2⟩ := hrel
    clear own1 E1
    have hM2 := HM.out
    by_cases hlt : j < M
    · have hle2 : (A : Int) + (j : Int) ≤ (B : Int) := by omega
      have hsz := E2.size
      have Htk := Lib.hid (upto_take (a := A) (b := B) (j := j) (by omega))
      clear hM2
      go_wp2_with (at_builtin; refine wpList_app _ own2 hsz _ rfl _ _ 29 rfl (.int .i64 0) 8 Tryd.underlying29 info_int rfl rfl rfl rfl (by omega) (by omega) ?_; intro v2 w2 own3 gr2 _)
      go_roundw
      case rel =>
        rw [← Htk.out] at own3
        exact ⟨j + 1, by omega, by push_cast; first | rfl | (rw [Int.add_assoc]; done) | go_num, Ext.grown E2 gr2 (owns_ge own2), own3⟩
      case measure => simp [intOf]; omega
    · obtain rfl : j = M := by omega
      have hgt : (B : Int) < (A : Int) + (j : Int) := by omega
      rw [List.take_of_length_le (by rw [Hlen.out]; exact Nat.le_refl _)] at own2
      clear hM2
      go_wp2
      go_ret
      rw [← HA.out, ← HB.out, Hlen.out]
      exact ⟨_, rfl, own2, E2⟩
end Go.Proofs.YtlmoeabchiddnaaDoor
