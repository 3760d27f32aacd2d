/- Equality of macroblocks in the laws: of the same. -/
import Derived.Test.YtlmoeabchiddnaaDoorMu
import Derived.Test.YtlmoeabchiddnaaDoorRegion
namespace Go.Proofs.YtlmoeabchiddnaaDoor
open Go.RowKit
set_option maxHeartbeats 1000000
set_option maxRecDepth 100000 in
theorem eqIntA16_same (zs : List Int) (w : World) (hl : zs.length = 16) :
    Calls Tryd.prog 115 #[.agg (ic zs), .agg (ic zs)] w fun e w' => e = .returned (.bool true) ∧ Ext w w' := by
  have p0 := (IB.new w 25 zs).alloc (.cells (ic zs) 25)
  have q0 := IB.new (w.alloc (.cells (ic zs) 25)) 25 zs
  have E0 := (Ext.alloc w (.cells (ic zs) 25)).trans (Ext.alloc _ (.cells (ic zs) 25))
  simp only [World.size_alloc] at q0
  have Hl := Lib.hid hl
  clear hl
  go_enter Tryd.func115, Tryd.ntmps115
  go_wp2_with fail
  generalize (w.alloc (.cells (ic zs) 25)).alloc (.cells (ic zs) 25) = w1 at *
  go_loopw [5] (fun i wr => ∃ k : Nat, k ≤ 16 ∧ i = .int .i64 k ∧ ∃ u, wr = w1.drewN u) (fun i _ => 16 - (intOf i).toNat)
  case atStart => exact ⟨0, by omega, rfl, 0, rfl⟩
  case round =>
    obtain ⟨k, hk, rfl, u, rfl⟩ := hrel
    by_cases hlt : k < 16
    · have c1 := p0.cell (i := k) (by rw [Hl.out]; exact hlt)
      have c2 := q0.cell (i := k) (by rw [Hl.out]; exact hlt)
      have hd : decide ((k : Int) < 16) = true := by simp; omega
      generalize nth zs k = v at *
      go_wp2_with fail
      go_quiet (fail)
      go_wp2
      go_roundw
      case rel => exact ⟨k + 1, by omega, by go_num, _, (by first | rfl | exact World.drewN_drewN _ _ _)⟩
      case measure => simp [intOf]; omega
    · obtain rfl : k = 16 := by omega
      go_wp2
      go_ret
      exact ⟨rfl, below_drewN E0 _⟩
set_option maxRecDepth 100000 in
theorem eqIntA4_same (zs : List Int) (w : World) (hl : zs.length = 4) :
    Calls Tryd.prog 81 #[.agg (ic zs), .agg (ic zs)] w fun e w' => e = .returned (.bool true) ∧ Ext w w' := by
  have p0 := (IB.new w 24 zs).alloc (.cells (ic zs) 24)
  have q0 := IB.new (w.alloc (.cells (ic zs) 24)) 24 zs
  have E0 := (Ext.alloc w (.cells (ic zs) 24)).trans (Ext.alloc _ (.cells (ic zs) 24))
  simp only [World.size_alloc] at q0
  have Hl := Lib.hid hl
  clear hl
  go_enter Tryd.func81, Tryd.ntmps81
  go_wp2_with fail
  generalize (w.alloc (.cells (ic zs) 24)).alloc (.cells (ic zs) 24) = w1 at *
  go_loopw [5] (fun i wr => ∃ k : Nat, k ≤ 4 ∧ i = .int .i64 k ∧ ∃ u, wr = w1.drewN u) (fun i _ => 4 - (intOf i).toNat)
  case atStart => exact ⟨0, by omega, rfl, 0, rfl⟩
  case round =>
    obtain ⟨k, hk, rfl, u, rfl⟩ := hrel
    by_cases hlt : k < 4
    · have c1 := p0.cell (i := k) (by rw [Hl.out]; exact hlt)
      have c2 := q0.cell (i := k) (by rw [Hl.out]; exact hlt)
      have hd : decide ((k : Int) < 4) = true := by simp; omega
      generalize nth zs k = v at *
      go_wp2_with fail
      go_quiet (fail)
      go_wp2
      go_roundw
      case rel => exact ⟨k + 1, by omega, by go_num, _, (by first | rfl | exact World.drewN_drewN _ _ _)⟩
      case measure => simp [intOf]; omega
    · obtain rfl : k = 4 := by omega
      go_wp2
      go_ret
      exact ⟨rfl, below_drewN E0 _⟩
theorem eqVector_same (x y : Int) (w : World) :
    Calls Tryd.prog 80 #[.agg #[.int .i64 x, .int .i64 y], .agg #[.int .i64 x, .int .i64 y]] w fun e w' => e = .returned (.bool true) ∧ Ext w w' := by
  go_enter Tryd.func80, Tryd.ntmps80
  go_wp2
  go_ret
  exact ⟨rfl, (Ext.alloc _ _).trans (Ext.alloc _ _)⟩
set_option maxRecDepth 100000 in
theorem eqIntA16A4_same (zs : List Int) (w : World) (hl : zs.length = 64) :
    Calls Tryd.prog 82 #[.agg (ic zs), .agg (ic zs)] w fun e w' => e = .returned (.bool true) ∧ Ext w w' := by
  have p0 := (IB.new w 26 zs).alloc (.cells (ic zs) 26)
  have q0 := IB.new (w.alloc (.cells (ic zs) 26)) 26 zs
  have E0 := (Ext.alloc w (.cells (ic zs) 26)).trans (Ext.alloc _ (.cells (ic zs) 26))
  simp only [World.size_alloc] at q0
  have Hl := Lib.hid hl
  clear hl
  go_enter Tryd.func82, Tryd.ntmps82
  go_wp2_with fail
  generalize (w.alloc (.cells (ic zs) 26)).alloc (.cells (ic zs) 26) = w1 at *
  go_loopw [5] (fun i wr => ∃ k : Nat, k ≤ 4 ∧ i = .int .i64 k ∧ Ext w1 wr) (fun i _ => 4 - (intOf i).toNat)
  case atStart => exact ⟨0, by omega, rfl, Below.refl _ _⟩
  case round =>
    obtain ⟨k, hk, rfl, E1⟩ := hrel
    by_cases hlt : k < 4
    · have hd : decide ((k : Int) < 4) = true := by simp; omega
      have hsl : (sub zs (k * 16) 16).length = 16 := sub_len _ _ _ (by rw [Hl.out]; omega)
      have Hsl := Lib.hid hsl
      clear hsl
      go_wp2_with fail
      have hext : ∀ (i : Nat) (own : Value) (ys : Nat → Value) (wa wb : World), Ext wa wb → (match i with | 0 => own = .int .i64 k | 1 => own = .pointer (some ⟨w.heap.size, k * 16, none⟩) | 2 => own = .agg (ic (sub zs (k * 16) 16)) | 3 => own = .int .i64 k | 4 => own = .pointer (some ⟨w.heap.size + 1, k * 16, none⟩) | 5 => own = .agg (ic (sub zs (k * 16) 16)) | 6 => own = .bool true | 7 => own = .bool false | _ => True) → (match i with | 0 => own = .int .i64 k | 1 => own = .pointer (some ⟨w.heap.size, k * 16, none⟩) | 2 => own = .agg (ic (sub zs (k * 16) 16)) | 3 => own = .int .i64 k | 4 => own = .pointer (some ⟨w.heap.size + 1, k * 16, none⟩) | 5 => own = .agg (ic (sub zs (k * 16) 16)) | 6 => own = .bool true | 7 => own = .bool false | _ => True) := by
        intro i own ys wa wb e h
        match i, h with
        | 0, h => exact h
        | 1, h => exact h
        | 2, h => exact h
        | 3, h => exact h
        | 4, h => exact h
        | 5, h => exact h
        | 6, h => exact h
        | 7, h => exact h
        | _ + 8, _ => trivial
      have Hext := Lib.hid hext
      clear hext
      refine wp_region_inv2 (by kernel_rfl) [(10, 0), (11, 1), (12, 2), (13, 3), (14, 4), (15, 5), (16, 6), (17, 7)] [[], [0], [0, 1], [], [3], [3, 4], [0, 1, 2, 3, 4, 5], [0, 1, 2, 3, 4, 5, 6]] (fun i own ys wx => match i with | 0 => own = .int .i64 k | 1 => own = .pointer (some ⟨w.heap.size, k * 16, none⟩) | 2 => own = .agg (ic (sub zs (k * 16) 16)) | 3 => own = .int .i64 k | 4 => own = .pointer (some ⟨w.heap.size + 1, k * 16, none⟩) | 5 => own = .agg (ic (sub zs (k * 16) 16)) | 6 => own = .bool true | 7 => own = .bool false | _ => True) (fun kx wx => Ext w1 wx) (by kernel_rfl) (by kernel_rfl) (by kernel_rfl) ?g0_r4 ?gop_r4 ?gend_r4
      case g0_r4 => exact E1.trans (Ext.drewN _ 1)
      case gop_r4 =>
        refine ⟨?_, ?_, ?_, ?_, ?_, ?_, ?_, ?_, trivial⟩
        · intro kx xs wx hk hG hD hI Qo Kx hK hQo
          clear hD
          clear hI
          simp only [patchS, Nat.reduceAdd, Nat.reduceEqDiff, ↓reduceIte] at hQo ⊢
          go_wp2
          exact hK.out _ _ ⟨rfl, hG, fun _ _ _ _ _ _ h => h⟩
        · intro kx xs wx hk hG hD hI Qo Kx hK hQo
          have d0 : (xs 0) = .int .i64 k := hD 0 rfl
          clear hD
          clear hI
          simp only [patchS, Nat.reduceAdd, Nat.reduceEqDiff, ↓reduceIte] at hQo ⊢
          generalize xs 0 = y0 at *
          subst d0
          go_wp2
          exact hK.out _ _ ⟨rfl, hG, fun _ _ _ _ _ _ h => h⟩
        · intro kx xs wx hk hG hD hI Qo Kx hK hQo
          have d1 : (xs 1) = .pointer (some ⟨w.heap.size, k * 16, none⟩) := hD 1 rfl
          clear hD
          clear hI
          simp only [patchS, Nat.reduceAdd, Nat.reduceEqDiff, ↓reduceIte] at hQo ⊢
          generalize xs 1 = y1 at *
          subst d1
          go_wp2_with (refine wpList_iload 25 _ rfl rfl (p0.ext hG) (k * 16) 16 rfl _ Tryd.underlying25 rfl size_A16 (by rw [Hl.out]; omega) _ rfl ?_)
          exact hK.out _ _ ⟨rfl, hG, fun _ _ _ _ _ _ h => h⟩
        · intro kx xs wx hk hG hD hI Qo Kx hK hQo
          clear hD
          clear hI
          simp only [patchS, Nat.reduceAdd, Nat.reduceEqDiff, ↓reduceIte] at hQo ⊢
          go_wp2
          exact hK.out _ _ ⟨rfl, hG, fun _ _ _ _ _ _ h => h⟩
        · intro kx xs wx hk hG hD hI Qo Kx hK hQo
          have d3 : (xs 3) = .int .i64 k := hD 3 rfl
          clear hD
          clear hI
          simp only [patchS, Nat.reduceAdd, Nat.reduceEqDiff, ↓reduceIte] at hQo ⊢
          generalize xs 3 = y3 at *
          subst d3
          go_wp2
          exact hK.out _ _ ⟨rfl, hG, fun _ _ _ _ _ _ h => h⟩
        · intro kx xs wx hk hG hD hI Qo Kx hK hQo
          have d4 : (xs 4) = .pointer (some ⟨w.heap.size + 1, k * 16, none⟩) := hD 4 rfl
          clear hD
          clear hI
          simp only [patchS, Nat.reduceAdd, Nat.reduceEqDiff, ↓reduceIte] at hQo ⊢
          generalize xs 4 = y4 at *
          subst d4
          go_wp2_with (refine wpList_iload 25 _ rfl rfl (q0.ext hG) (k * 16) 16 rfl _ Tryd.underlying25 rfl size_A16 (by rw [Hl.out]; omega) _ rfl ?_)
          exact hK.out _ _ ⟨rfl, hG, fun _ _ _ _ _ _ h => h⟩
        · intro kx xs wx hk hG hD hI Qo Kx hK hQo
          have d2 : (xs 2) = .agg (ic (sub zs (k * 16) 16)) := hD 2 rfl
          have d5 : (xs 5) = .agg (ic (sub zs (k * 16) 16)) := hD 5 rfl
          clear hD
          clear hI
          simp only [patchS, Nat.reduceAdd, Nat.reduceEqDiff, ↓reduceIte] at hQo ⊢
          generalize xs 2 = y2 at *
          generalize xs 5 = y5 at *
          subst d2
          subst d5
          go_wp2_with fail
          refine (eqIntA16_same _ _ Hsl.out).mono ?_
          rintro e w4 ⟨rfl, e4⟩
          go_wp2
          exact hK.out _ _ ⟨rfl, hG.trans e4, fun i _ _ _ own ys h => Hext.out i own ys _ _ e4 h⟩
        · intro kx xs wx hk hG hD hI Qo Kx hK hQo
          have d6 : (xs 6) = .bool true := hD 6 rfl
          clear hD
          clear hI
          simp only [patchS, Nat.reduceAdd, Nat.reduceEqDiff, ↓reduceIte] at hQo ⊢
          generalize xs 6 = y6 at *
          subst d6
          go_wp2
          exact hK.out _ _ ⟨rfl, hG, fun _ _ _ _ _ _ h => h⟩
      clear Hext
      intro xs wx hV hG
      have d0 : (xs 0) = .int .i64 k := hV 0 (by decide)
      have d1 : (xs 1) = .pointer (some ⟨w.heap.size, k * 16, none⟩) := hV 1 (by decide)
      have d2 : (xs 2) = .agg (ic (sub zs (k * 16) 16)) := hV 2 (by decide)
      have d3 : (xs 3) = .int .i64 k := hV 3 (by decide)
      have d4 : (xs 4) = .pointer (some ⟨w.heap.size + 1, k * 16, none⟩) := hV 4 (by decide)
      have d5 : (xs 5) = .agg (ic (sub zs (k * 16) 16)) := hV 5 (by decide)
      have d6 : (xs 6) = .bool true := hV 6 (by decide)
      have d7 : (xs 7) = .bool false := hV 7 (by decide)
      clear hV
      simp only [patchS, Nat.reduceAdd, Nat.reduceEqDiff, ↓reduceIte]
      generalize xs 0 = y0 at *
      generalize xs 1 = y1 at *
      generalize xs 2 = y2 at *
      generalize xs 3 = y3 at *
      generalize xs 4 = y4 at *
      generalize xs 5 = y5 at *
      generalize xs 6 = y6 at *
      generalize xs 7 = y7 at *
      replace hG : Ext w1 wx := hG
      clear d0 d1 d2 d3 d4 d5 d6
      subst d7
      go_wp2
      go_roundw
      case rel => exact ⟨k + 1, by omega, by go_num, hG⟩
      case measure => simp [intOf]; omega
    · obtain rfl : k = 4 := by omega
      go_wp2
      go_ret
      exact ⟨rfl, E0.trans E1⟩
set_option maxRecDepth 100000 in
theorem eqMacro_same (m : Mac) (w : World) (hm : m.ok) :
    Calls Tryd.prog 34 #[.agg (ic m.zs), .agg (ic m.zs)] w fun e w' => e = .returned (.bool true) ∧ Ext w w' := by
  have p0 := (IB.new w 33 m.zs).alloc (.cells (ic m.zs) 33)
  have q0 := IB.new (w.alloc (.cells (ic m.zs) 33)) 33 m.zs
  have E0 := (Ext.alloc w (.cells (ic m.zs) 33)).trans (Ext.alloc _ (.cells (ic m.zs) 33))
  simp only [World.size_alloc] at q0
  have Hl := Lib.hid (Mac.zs_len hm)
  have Hm := Lib.hid hm
  have k0 := p0.cell (i := 0) (by rw [Hl.out]; omega)
  have j0 := q0.cell (i := 0) (by rw [Hl.out]; omega)
  rw [Mac.zs_kind] at k0 j0
  clear hm
  go_enter Tryd.func34, Tryd.ntmps34
  go_wp2_with (first | (refine wpList_iload 31 _ rfl rfl p0 1 2 rfl _ Tryd.underlying31 rfl size_Vector (by rw [Hl.out]; omega) _ Mac.zs_mv ?_) | (refine wpList_iload 31 _ rfl rfl q0 1 2 rfl _ Tryd.underlying31 rfl size_Vector (by rw [Hl.out]; omega) _ Mac.zs_mv ?_))
  refine (eqVector_same _ _ _).mono ?_
  rintro e w1 ⟨rfl, e1⟩
  have p1 := p0.ext e1
  have q1 := q0.ext e1
  have E1 := E0.trans e1
  clear p0 q0 E0 e1 k0 j0
  go_wp2_with (first | (refine wpList_iload 24 _ rfl rfl p1 3 4 rfl _ Tryd.underlying24 rfl size_A4 (by rw [Hl.out]; omega) _ (by rw [Mac.zs_modes Hm.out]) ?_) | (refine wpList_iload 24 _ rfl rfl q1 3 4 rfl _ Tryd.underlying24 rfl size_A4 (by rw [Hl.out]; omega) _ (by rw [Mac.zs_modes Hm.out]) ?_))
  refine (eqIntA4_same _ _ Hm.out.modes).mono ?_
  rintro e w2 ⟨rfl, e2⟩
  have p2 := p1.ext e2
  have q2 := q1.ext e2
  have E2 := E1.trans e2
  clear p1 q1 E1 e2
  go_wp2_with (first | (refine wpList_iload 26 _ rfl rfl p2 7 64 rfl _ Tryd.underlying26 rfl size_A16A4 (by rw [Hl.out]; omega) _ (by rw [Mac.zs_lv Hm.out]) ?_) | (refine wpList_iload 26 _ rfl rfl q2 7 64 rfl _ Tryd.underlying26 rfl size_A16A4 (by rw [Hl.out]; omega) _ (by rw [Mac.zs_lv Hm.out]) ?_))
  refine (eqIntA16A4_same _ _ Hm.out.lv).mono ?_
  rintro e w3 ⟨rfl, e3⟩
  go_wp2
  go_ret
  exact ⟨rfl, E2.trans e3⟩
end Go.Proofs.YtlmoeabchiddnaaDoor
