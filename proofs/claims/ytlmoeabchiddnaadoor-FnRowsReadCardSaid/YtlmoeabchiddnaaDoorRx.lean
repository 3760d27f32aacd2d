/- RowsRead: the program's. -/
import Derived.Test.YtlmoeabchiddnaaDoorRw
namespace Go.Proofs.YtlmoeabchiddnaaDoor
open Go.RowKit
set_option maxHeartbeats 400000
/-- The rows from a to c as bits. -/
def msk (a c : Nat) : Nat := 2 ^ (c + 1) - 2 ^ a
/-- The bits of the first j rows of samples from LO on. -/
def sAt (LO h : Int) (j : Nat) : Nat := if j = 0 then 0 else msk (rowAt LO h) (rowAt (LO + j - 1) h)
theorem or_new : ∀ q, q ≤ 3 → bits BinOp.or IntKind.u64 ((0 : Nat) : Int) (IntKind.u64.wrap (2 ^ q)) = ((msk q q : Nat) : Int)
  | 0, _ => by decide +kernel
  | 1, _ => by decide +kernel
  | 2, _ => by decide +kernel
  | 3, _ => by decide +kernel
theorem or_more (a c q : Nat) (h1 : a ≤ c) (h2 : c ≤ q) (h3 : q ≤ c + 1) (h4 : q ≤ 3) : bits BinOp.or IntKind.u64 ((msk a c : Nat) : Int) (IntKind.u64.wrap (2 ^ q)) = ((msk a q : Nat) : Int) := by
  have key : ∀ a c q : Fin 4, (a.val ≤ c.val ∧ c.val ≤ q.val ∧ q.val ≤ c.val + 1) → bits BinOp.or IntKind.u64 ((msk a.val c.val : Nat) : Int) (IntKind.u64.wrap (2 ^ q.val)) = ((msk a.val q.val : Nat) : Int) := by decide +kernel
  exact key ⟨a, by omega⟩ ⟨c, by omega⟩ ⟨q, by omega⟩ ⟨h1, h2, h3⟩
theorem or_step (LO h : Int) (j : Nat) (hh : h ≤ 32) (h8 : 8 ≤ h) : bits BinOp.or IntKind.u64 ((sAt LO h j : Nat) : Int) (IntKind.u64.wrap (2 ^ rowAt (LO + j) h)) = ((sAt LO h (j + 1) : Nat) : Int) := by
  have hq := rowAt_le (k := LO + j) h8 hh
  have e1 : sAt LO h (j + 1) = msk (rowAt LO h) (rowAt (LO + j) h) := by
    unfold sAt
    rw [if_neg (by omega)]
    congr 2
    push_cast; omega
  rw [e1]
  cases j with
  | zero =>
    have e0 : sAt LO h 0 = 0 := rfl
    have e2 : LO + ((0 : Nat) : Int) = LO := by simp
    rw [e0, e2]
    rw [e2] at hq
    exact or_new _ hq
  | succ j =>
    have e0 : sAt LO h (j + 1) = msk (rowAt LO h) (rowAt (LO + j) h) := by
      unfold sAt
      rw [if_neg (by omega)]
      congr 2
      push_cast; omega
    rw [e0]
    refine or_more _ _ _ (rowAt_mono (by omega)) (rowAt_mono (by push_cast; omega)) ?_ hq
    unfold rowAt clipI
    push_cast
    omega
set_option maxRecDepth 100000 in
theorem impl_rowsRead_any (m : Mac) (y h : Int) (w : World) (hm : m.ok) (hv : m.valid) (hp : placed y h) (hk : m.kind ≠ 2) :
    Calls Tryd.prog 59 #[.agg (ic m.zs), .int .i64 y, .int .i64 h] w fun e w' => e = .returned (.int .u64 (msk (rowAt ((2 * y + m.y) / 2) h) (rowAt ((2 * (y + 8 - 1) + m.y + 1) / 2) h) : Nat)) ∧ Ext w w' := by
  have H := IB.new w 33 m.zs
  have Hl := Lib.hid (Mac.zs_len hm)
  have Hm := Lib.hid hm
  have Hv := Lib.hid hv
  obtain ⟨-, -, y1, y2⟩ := hv.2.1
  obtain ⟨p1, p2, p3, p4, p5⟩ := hp
  have hkd : (m.kind == 2) = false := by simpa using hk
  have k0 := H.cell (i := 0) (by rw [Hl.out]; omega)
  have k2 := H.cell (i := 2) (by rw [Hl.out]; omega)
  rw [Mac.zs_kind] at k0
  rw [Mac.zs_y] at k2
  have P2 := Lib.hid p2
  have P3 := Lib.hid p3
  clear p2 p3 hm hv hk
  go_enter Tryd.func59, Tryd.ntmps59
  go_wp2_with fail
  have s1 : IntKind.i64.wrap (2 * y) = 2 * y := IntWalk.i64_in _ (by omega)
  have s2 : IntKind.i64.wrap (2 * y + m.y) = 2 * y + m.y := IntWalk.i64_in _ (by omega)
  have s3 : IntKind.i64.wrap (y + 8) = y + 8 := IntWalk.i64_in _ (by omega)
  have s4 : IntKind.i64.wrap (y + 8 - 1) = y + 8 - 1 := IntWalk.i64_in _ (by omega)
  have s5 : IntKind.i64.wrap (2 * (y + 8 - 1)) = 2 * (y + 8 - 1) := IntWalk.i64_in _ (by omega)
  have s6 : IntKind.i64.wrap (2 * (y + 8 - 1) + m.y) = 2 * (y + 8 - 1) + m.y := IntWalk.i64_in _ (by omega)
  have s7 : IntKind.i64.wrap (2 * (y + 8 - 1) + m.y + 1) = 2 * (y + 8 - 1) + m.y + 1 := IntWalk.i64_in _ (by omega)
  go_quiet (fail)
  clear s1 s2 s3 s4 s5 s6 s7
  go_wp2_with fail
  have hb1 : (2 * y + m.y) / 2 ≤ (2 * (y + 8 - 1) + m.y + 1) / 2 := by omega
  have hb2 : (2 * (y + 8 - 1) + m.y + 1) / 2 ≤ (2 * y + m.y) / 2 + 8 := by omega
  have hb3 : -100 ≤ (2 * y + m.y) / 2 ∧ (2 * y + m.y) / 2 ≤ 100 := by omega
  obtain ⟨LO, hLO⟩ : ∃ LO, LO = (2 * y + m.y) / 2 := ⟨_, rfl⟩
  obtain ⟨HI, hHI⟩ : ∃ HI, HI = (2 * (y + 8 - 1) + m.y + 1) / 2 := ⟨_, rfl⟩
  rw [← hLO] at hb1 hb2 hb3 ⊢
  rw [← hHI] at hb1 hb2 ⊢
  have HLO := Lib.hid hLO
  have HHI := Lib.hid hHI
  clear hLO hHI k0 k2
  go_loopw [7, 10] (fun s k wr => ∃ j : Nat, (j : Int) ≤ HI - LO + 1 ∧ k = .int .i64 (LO + j) ∧ s = .int .u64 (sAt LO h j : Nat) ∧ Ext w wr) (fun _ k _ => (HI + 1 - intOf k).toNat)
  case atStart => exact ⟨0, by omega, by simp, rfl, below_drewN (Ext.alloc _ _) _⟩
  case round =>
    obtain ⟨j, hj, rfl, rfl, E2⟩ := hrel
    by_cases hlt : LO + (j : Int) ≤ HI
    · go_wp2_with fail
      refine (clamp_any _ _ _ _ (by omega)).mono ?_
      rintro e w1 ⟨rfl, rfl⟩
      have hq := rowAt_eq (LO + j) h (by omega)
      have hq3 := rowAt_le (k := LO + j) (h := h) (by omega) p4
      have hcl := clipI_lo (n := LO + j) (lo := 0) (hi := h - 1) (by omega)
      obtain ⟨z, hz⟩ : ∃ z, z = clipI (LO + j) 0 (h - 1) := ⟨_, rfl⟩
      rw [← hz] at hq hcl ⊢
      have Hz := Lib.hid hz
      clear hz
      have Hor := Lib.hid (or_step LO h j p4 (by omega))
      clear hq hcl
      have hq : z / 8 = (rowAt (LO + j) h : Int) := by rw [Hz.out]; exact rowAt_eq _ h (by omega)
      have hcl : 0 ≤ z ∧ z ≤ h - 1 := by rw [Hz.out]; exact clipI_lo (by omega)
      go_wp2
      refine ⟨⟨j + 1, by omega, by push_cast; rw [Int.add_assoc], by rw [Hor.out], E2⟩, ?_⟩
      simp [intOf]; omega
    · have hjl : ((2 * (y + 8 - 1) + m.y + 1) / 2 : Int) = LO + j - 1 := by rw [← HHI.out]; omega
      have hs : sAt LO h j = msk (rowAt LO h) (rowAt (LO + j - 1) h) := by unfold sAt; rw [if_neg (by omega)]
      have Hs := Lib.hid hs
      have Hjl := Lib.hid hjl
      clear hs hjl
      go_wp2
      go_ret
      exact ⟨ret_int (by rw [Hs.out, ← HLO.out, Hjl.out]), E2⟩
theorem ctz_msk (c b : Nat) (h1 : c ≤ b) (h2 : b ≤ 3) : Lib.ctz 64 (msk c b) = c := by
  have key : ∀ c b : Fin 4, c.val ≤ b.val → Lib.ctz 64 (msk c.val b.val) = c.val := by decide +kernel
  exact key ⟨c, by omega⟩ ⟨b, by omega⟩ h1
theorem msk_pos (c b : Nat) (h1 : c ≤ b) (h2 : b ≤ 3) : 1 ≤ msk c b ∧ msk c b ≤ 15 := by
  have key : ∀ c b : Fin 4, c.val ≤ b.val → 1 ≤ msk c.val b.val ∧ msk c.val b.val ≤ 15 := by decide +kernel
  exact key ⟨c, by omega⟩ ⟨b, by omega⟩ h1
theorem and_msk (c b : Nat) (h1 : c ≤ b) (h2 : b ≤ 3) : bits BinOp.and IntKind.u64 ((msk c b : Nat) : Int) (((msk c b : Nat) : Int) - 1) = ((msk (c + 1) b : Nat) : Int) := by
  have key : ∀ c b : Fin 4, c.val ≤ b.val → bits BinOp.and IntKind.u64 ((msk c.val b.val : Nat) : Int) (((msk c.val b.val : Nat) : Int) - 1) = ((msk (c.val + 1) b.val : Nat) : Int) := by decide +kernel
  exact key ⟨c, by omega⟩ ⟨b, by omega⟩ h1
theorem msk_end (b : Nat) : msk (b + 1) b = 0 := by simp [msk]
set_option maxRecDepth 100000 in
theorem list_any (A B : Nat) (w : World) (hT : Tab w) (h1 : A ≤ B) (h2 : B ≤ 3) :
    Calls Tryd.prog 60 #[.int .u64 (msk A B : Nat)] w fun e w' => ∃ v, e = .returned v ∧ w'.ownsRow w.heap.size 3 1 v (upto A B).length ((upto A B).map (Value.int .i64)) ∧ Ext w w' := by
  have hlen := upto_len A B
  obtain ⟨M, hM⟩ : ∃ M, M = B + 1 - A := ⟨_, rfl⟩
  rw [← hM] at hlen
  have Hlen := Lib.hid hlen
  have HM := Lib.hid hM
  clear hlen hM
  go_enter Tryd.func60, Tryd.ntmps60
  go_wp2_with fail
  go_loopw [0, 3] (fun s v wr => ∃ j : Nat, j ≤ M ∧ s = .int .u64 (msk (A + j) B : Nat) ∧ Ext w wr ∧ wr.ownsRow w.heap.size 3 1 v j (((upto A B).take j).map (Value.int .i64))) (fun s _ _ => (intOf s).toNat)
  case atStart => exact ⟨0, by omega, rfl, Below.refl _ _, World.ownsRow_nil _ _ _ _⟩
  case round =>
    obtain ⟨j, hj, rfl, E2, own2⟩ := hrel
    have hM2 := HM.out
    by_cases hlt : j < M
    · have hsz := E2.size
      have Htk := Lib.hid (upto_take (a := A) (b := B) (j := j) (by omega))
      have Hct := Lib.hid (ctz_msk (A + j) B (by omega) h2)
      have Han := Lib.hid (and_msk (A + j) B (by omega) h2)
      obtain ⟨m1, m2⟩ := msk_pos (A + j) B (by omega) h2
      have Hn := Lib.hid (show msk (A + j + 1) B < msk (A + j) B by
        have key : ∀ c b : Fin 4, c.val ≤ b.val → msk (c.val + 1) b.val < msk c.val b.val := by decide +kernel
        exact key ⟨A + j, by omega⟩ ⟨B, by omega⟩ (by show A + j ≤ B; omega))
      generalize hS : msk (A + j) B = S at *
      have HS := Lib.hid hS
      have hj4 : j ≤ 3 := by omega
      clear hM2 hS
      go_wp2_with fail
      refine (tz_any S (by omega) _ (hT.ext E2)).mono ?_
      rintro e w2 ⟨rfl, rfl⟩
      rw [Hct.out]
      go_wp2_with (at_builtin; refine wpList_app _ own2 hsz _ rfl _ _ 29 rfl (.int .i64 0) 8 Tryd.underlying29 info_int rfl rfl rfl rfl (by omega) (by omega) ?_; intro v2 w3 own3 gr2 _)
      go_roundw
      case rel =>
        rw [← Htk.out] at own3
        exact ⟨j + 1, by omega, by rw [Han.out, Nat.add_assoc], Ext.grown E2 gr2 (owns_ge own2), own3⟩
      case measure => simp only [intOf]; have := Hn.out; have := Han.out; omega
    · obtain rfl : j = M := by omega
      have he : A + j = B + 1 := by omega
      rw [he, msk_end]
      rw [List.take_of_length_le (by rw [Hlen.out]; exact Nat.le_refl _)] at own2
      clear hM2 he
      go_wp2
      go_ret
      rw [Hlen.out]
      exact ⟨_, rfl, own2, E2⟩
end Go.Proofs.YtlmoeabchiddnaaDoor
