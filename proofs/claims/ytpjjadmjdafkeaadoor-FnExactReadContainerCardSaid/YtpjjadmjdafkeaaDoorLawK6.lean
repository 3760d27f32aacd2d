/- FnWriteContainer: containers can be read back: the walk of the law. -/
import Derived.Test.YtpjjadmjdafkeaaDoorRg
import Derived.Test.YtpjjadmjdafkeaaDoorW2
import Derived.Test.YtpjjadmjdafkeaaDoorV
namespace Go.Proofs.YtpjjadmjdafkeaaDoor
open Go.RowKit
set_option maxHeartbeats 2000000
theorem byte_range6 {L : List Int} (h : ∀ z ∈ L, (Lit.int .u8 z).wf = true) : bys L := by
  intro z hz
  have := h z hz
  simp [Lit.wf, IntKind.min, IntKind.max, IntKind.signed, IntKind.bits] at this
  exact ⟨by omega, by omega⟩
set_option maxRecDepth 100000 in
theorem sameSamples_same (a b : Option Addr) (n c d lo : Nat) (L : List Smp) (w : World) (h1 : SE w lo (.slice a n c) L) (h2 : SE w lo (.slice b n d) L) :
    Calls Tryd.prog 12 #[.slice a n c, .slice b n d] w fun e w' => e = .returned (.bool true) ∧ Ext w w' := by
  obtain ⟨cs1, o1, s1⟩ := h1
  obtain ⟨cs2, o2, s2⟩ := h2
  have hl : L.length = n := by
    obtain ⟨a', c', hv⟩ := owns_form o1
    simp only [Value.slice.injEq] at hv
    exact hv.2.1.symm
  have S1 := Lib.hid s1
  have S2 := Lib.hid s2
  rw [hl] at o1 o2
  have HL := Lib.hid hl
  have hnm : n ≤ 9223372036854775807 := by have := owns_cap o1; unfold maxLen at this; omega
  clear s1 s2 hl
  go_enter Tryd.func12, Tryd.ntmps12
  go_wp2_with fail
  go_loopw [5] (fun i wr => ∃ k : Nat, k ≤ n ∧ i = .int .i64 k ∧ Ext w wr) (fun i _ => n - (intOf i).toNat)
  case atStart => exact ⟨0, by omega, rfl, Below.refl _ _⟩
  case round =>
    obtain ⟨k, hk, rfl, E2⟩ := hrel
    by_cases hlt : k < n
    · obtain ⟨a3, c3, k0, k1, k2, k3⟩ := S1.out k (by rw [HL.out]; exact hlt)
      obtain ⟨a4, c4, j0, j1, j2, j3⟩ := S2.out k (by rw [HL.out]; exact hlt)
      obtain ⟨g1, c1, hv1⟩ : ∃ g cap, (Value.slice a n c) = .slice (some ⟨g, 0, none⟩) n cap := by
        rcases id o1.2 with ⟨hv, h0'⟩ | ⟨g, cap, cur, hv, -⟩
        · omega
        · exact ⟨g, cap, hv⟩
      obtain ⟨g2, c2, hv2⟩ : ∃ g cap, (Value.slice b n d) = .slice (some ⟨g, 0, none⟩) n cap := by
        rcases id o2.2 with ⟨hv, h0'⟩ | ⟨g, cap, cur, hv, -⟩
        · omega
        · exact ⟨g, cap, hv⟩
      simp only [Value.slice.injEq, true_and] at hv1 hv2
      obtain ⟨rfl, rfl⟩ := hv1
      obtain ⟨rfl, rfl⟩ := hv2
      have p0 : w.cell? ⟨g1, k * 3, none⟩ = some (.int .i64 (sget L k).1) := by rw [o1.cellAt _ (by omega)]; exact k0
      have p1 : w.cell? ⟨g1, k * 3 + 1, none⟩ = some (.bool (sget L k).2.1) := by rw [o1.cellAt _ (by omega)]; exact k1
      have p2 : w.cell? ⟨g1, k * 3 + 2, none⟩ = some (.slice a3 (sget L k).2.2.length c3) := by rw [o1.cellAt _ (by omega)]; exact k2
      have q0 : w.cell? ⟨g2, k * 3, none⟩ = some (.int .i64 (sget L k).1) := by rw [o2.cellAt _ (by omega)]; exact j0
      have q1 : w.cell? ⟨g2, k * 3 + 1, none⟩ = some (.bool (sget L k).2.1) := by rw [o2.cellAt _ (by omega)]; exact j1
      have q2 : w.cell? ⟨g2, k * 3 + 2, none⟩ = some (.slice a4 (sget L k).2.2.length c4) := by rw [o2.cellAt _ (by omega)]; exact j2
      have hc1 := fun (w' : World) (e : Ext wr w') => conv_own w' _ a3 _ c3 _ (owns_ext k3 (E2.trans e))
      have hc2 := fun (w' : World) (e : Ext wr w') => conv_own w' _ a4 _ c4 _ (owns_ext j3 (E2.trans e))
      generalize (sget L k).1 = tm at *
      generalize (sget L k).2.1 = ky at *
      generalize (sget L k).2.2.length = m at *
      generalize (sget L k).2.2 = bs0 at *
      have Hc1 := Lib.hid hc1
      have Hc2 := Lib.hid hc2
      replace p0 := cell_ext E2 p0
      replace p1 := cell_ext E2 p1
      replace p2 := cell_ext E2 p2
      replace q0 := cell_ext E2 q0
      replace q1 := cell_ext E2 q1
      replace q2 := cell_ext E2 q2
      clear hc1 hc2 k0 k1 k2 k3 j0 j1 j2 j3 o1 o2
      go_wp2_with fail
      refine wp_region_inv2 (by kernel_rfl) [(17, 0), (18, 1), (19, 2), (20, 3), (21, 4), (22, 5), (23, 6), (24, 7), (25, 8), (26, 9), (27, 10), (28, 11), (29, 12), (30, 13), (31, 14), (32, 15), (33, 16), (34, 17), (35, 18), (36, 19), (37, 20), (38, 21), (39, 22), (40, 23), (41, 24), (42, 25), (43, 26), (44, 27), (45, 28), (46, 29), (47, 30), (48, 31), (49, 32), (50, 33), (51, 34), (52, 35), (53, 36), (54, 37), (55, 38)] [[], [], [0, 1], [0, 1, 2], [0, 1, 2, 3], [], [], [5, 6], [5, 6, 7], [5, 6, 7, 8], [0, 1, 2, 3, 4, 5, 6, 7, 8, 9], [0, 1, 2, 3, 4, 5, 6, 7, 8, 9, 10], [0, 1, 2, 3, 4, 5, 6, 7, 8, 9, 10, 11], [0, 1, 2, 3, 4, 5, 6, 7, 8, 9, 10, 11], [0, 1, 2, 3, 4, 5, 6, 7, 8, 9, 10, 11, 12, 13], [0, 1, 2, 3, 4, 5, 6, 7, 8, 9, 10, 11, 12, 13, 14], [0, 1, 2, 3, 4, 5, 6, 7, 8, 9, 10, 11, 12, 13, 14, 15], [0, 1, 2, 3, 4, 5, 6, 7, 8, 9, 10, 11], [0, 1, 2, 3, 4, 5, 6, 7, 8, 9, 10, 11], [0, 1, 2, 3, 4, 5, 6, 7, 8, 9, 10, 11, 17, 18], [0, 1, 2, 3, 4, 5, 6, 7, 8, 9, 10, 11, 17, 18, 19], [0, 1, 2, 3, 4, 5, 6, 7, 8, 9, 10, 11, 17, 18, 19, 20], [0, 1, 2, 3, 4, 5, 6, 7, 8, 9, 10, 11, 12, 13, 14, 15, 16, 17, 18, 19, 20, 21], [0, 1, 2, 3, 4, 5, 6, 7, 8, 9, 10, 11, 12, 13, 14, 15, 16, 17, 18, 19, 20, 21, 22], [0, 1, 2, 3, 4, 5, 6, 7, 8, 9, 10, 11, 12, 13, 14, 15, 16, 17, 18, 19, 20, 21, 22, 23], [0, 1, 2, 3, 4, 5, 6, 7, 8, 9, 10, 11, 12, 13, 14, 15, 16, 17, 18, 19, 20, 21, 22, 23, 24], [0, 1, 2, 3, 4, 5, 6, 7, 8, 9, 10, 11, 12, 13, 14, 15, 16, 17, 18, 19, 20, 21, 22, 23, 24], [0, 1, 2, 3, 4, 5, 6, 7, 8, 9, 10, 11, 12, 13, 14, 15, 16, 17, 18, 19, 20, 21, 22, 23, 24, 25, 26], [0, 1, 2, 3, 4, 5, 6, 7, 8, 9, 10, 11, 12, 13, 14, 15, 16, 17, 18, 19, 20, 21, 22, 23, 24, 25, 26, 27], [0, 1, 2, 3, 4, 5, 6, 7, 8, 9, 10, 11, 12, 13, 14, 15, 16, 17, 18, 19, 20, 21, 22, 23, 24, 25, 26, 27, 28], [0, 1, 2, 3, 4, 5, 6, 7, 8, 9, 10, 11, 12, 13, 14, 15, 16, 17, 18, 19, 20, 21, 22, 23, 24, 25, 26, 27, 28, 29], [0, 1, 2, 3, 4, 5, 6, 7, 8, 9, 10, 11, 12, 13, 14, 15, 16, 17, 18, 19, 20, 21, 22, 23, 24], [0, 1, 2, 3, 4, 5, 6, 7, 8, 9, 10, 11, 12, 13, 14, 15, 16, 17, 18, 19, 20, 21, 22, 23, 24], [0, 1, 2, 3, 4, 5, 6, 7, 8, 9, 10, 11, 12, 13, 14, 15, 16, 17, 18, 19, 20, 21, 22, 23, 24, 31, 32], [0, 1, 2, 3, 4, 5, 6, 7, 8, 9, 10, 11, 12, 13, 14, 15, 16, 17, 18, 19, 20, 21, 22, 23, 24, 31, 32, 33], [0, 1, 2, 3, 4, 5, 6, 7, 8, 9, 10, 11, 12, 13, 14, 15, 16, 17, 18, 19, 20, 21, 22, 23, 24, 31, 32, 33, 34], [0, 1, 2, 3, 4, 5, 6, 7, 8, 9, 10, 11, 12, 13, 14, 15, 16, 17, 18, 19, 20, 21, 22, 23, 24, 31, 32, 33, 34, 35], [0, 1, 2, 3, 4, 5, 6, 7, 8, 9, 10, 11, 12, 13, 14, 15, 16, 17, 18, 19, 20, 21, 22, 23, 24, 25, 26, 27, 28, 29, 30, 31, 32, 33, 34, 35, 36], [0, 1, 2, 3, 4, 5, 6, 7, 8, 9, 10, 11, 12, 13, 14, 15, 16, 17, 18, 19, 20, 21, 22, 23, 24, 25, 26, 27, 28, 29, 30, 31, 32, 33, 34, 35, 36, 37]] (fun i own ys wx => match i with | 0 => own = .slice (some ⟨g1, 0, none⟩) n c | 1 => own = .int .i64 k | 2 => own = .pointer (some ⟨g1, k * 3, none⟩) | 3 => own = .pointer (some ⟨g1, k * 3, none⟩) | 4 => own = .int .i64 tm | 5 => own = .slice (some ⟨g2, 0, none⟩) n d | 6 => own = .int .i64 k | 7 => own = .pointer (some ⟨g2, k * 3, none⟩) | 8 => own = .pointer (some ⟨g2, k * 3, none⟩) | 9 => own = .int .i64 tm | 10 => own = .bool false | 11 => own = .bool false | 12 => own = .slice (some ⟨g1, 0, none⟩) n c | 13 => own = .int .i64 k | 14 => own = .pointer (some ⟨g1, k * 3, none⟩) | 15 => own = .pointer (some ⟨g1, k * 3 + 1, none⟩) | 16 => own = .bool ky | 17 => own = .slice (some ⟨g2, 0, none⟩) n d | 18 => own = .int .i64 k | 19 => own = .pointer (some ⟨g2, k * 3, none⟩) | 20 => own = .pointer (some ⟨g2, k * 3 + 1, none⟩) | 21 => own = .bool ky | 22 => own = .bool false | 23 => own = .bool false | 24 => own = .bool false | 25 => own = .slice (some ⟨g1, 0, none⟩) n c | 26 => own = .int .i64 k | 27 => own = .pointer (some ⟨g1, k * 3, none⟩) | 28 => own = .pointer (some ⟨g1, k * 3 + 2, none⟩) | 29 => own = .slice a3 m c3 | 30 => own = .string (strOfNums bs0) | 31 => own = .slice (some ⟨g2, 0, none⟩) n d | 32 => own = .int .i64 k | 33 => own = .pointer (some ⟨g2, k * 3, none⟩) | 34 => own = .pointer (some ⟨g2, k * 3 + 2, none⟩) | 35 => own = .slice a4 m c4 | 36 => own = .string (strOfNums bs0) | 37 => own = .bool false | 38 => own = .bool false | _ => True) (fun kx wx => Ext wr wx) (by kernel_rfl) (by kernel_rfl) (by kernel_rfl) ?g0_r1 ?gop_r1 ?gend_r1
      case g0_r1 => exact Ext.drewN _ 1
      case gop_r1 =>
        refine ⟨?_, ?_, ?_, ?_, ?_, ?_, ?_, ?_, ?_, ?_, ?_, ?_, ?_, ?_, ?_, ?_, ?_, ?_, ?_, ?_, ?_, ?_, ?_, ?_, ?_, ?_, ?_, ?_, ?_, ?_, ?_, ?_, ?_, ?_, ?_, ?_, ?_, ?_, ?_, trivial⟩
        · intro kx xs wx hk hG hD hI Qo Kx hK hQo
          clear hD
          clear hI
          simp only [patchS, Nat.reduceAdd, Nat.reduceEqDiff, ↓reduceIte] at hQo ⊢
          go_wp2
          exact hK.out _ _ ⟨rfl, hG, fun _ _ _ _ _ _ h => h⟩
        · intro kx xs wx hk hG hD hI Qo Kx hK hQo
          clear hD
          clear hI
          simp only [patchS, Nat.reduceAdd, Nat.reduceEqDiff, ↓reduceIte] at hQo ⊢
          go_wp2
          exact hK.out _ _ ⟨rfl, hG, fun _ _ _ _ _ _ h => h⟩
        · intro kx xs wx hk hG hD hI Qo Kx hK hQo
          have d0 : (xs 0) = .slice (some ⟨g1, 0, none⟩) n c := hD 0 rfl
          have d1 : (xs 1) = .int .i64 k := hD 1 rfl
          clear hD
          clear hI
          simp only [patchS, Nat.reduceAdd, Nat.reduceEqDiff, ↓reduceIte] at hQo ⊢
          generalize xs 0 = y0 at *
          generalize xs 1 = y1 at *
          subst d0
          subst d1
          go_wp2
          exact hK.out _ _ ⟨rfl, hG, fun _ _ _ _ _ _ h => h⟩
        · intro kx xs wx hk hG hD hI Qo Kx hK hQo
          have d2 : (xs 2) = .pointer (some ⟨g1, k * 3, none⟩) := hD 2 rfl
          clear hD
          clear hI
          simp only [patchS, Nat.reduceAdd, Nat.reduceEqDiff, ↓reduceIte] at hQo ⊢
          generalize xs 2 = y2 at *
          subst d2
          go_wp2
          exact hK.out _ _ ⟨rfl, hG, fun _ _ _ _ _ _ h => h⟩
        · intro kx xs wx hk hG hD hI Qo Kx hK hQo
          have d3 : (xs 3) = .pointer (some ⟨g1, k * 3, none⟩) := hD 3 rfl
          clear hD
          clear hI
          simp only [patchS, Nat.reduceAdd, Nat.reduceEqDiff, ↓reduceIte] at hQo ⊢
          generalize xs 3 = y3 at *
          subst d3
          have k0 := cell_ext hG p0
          go_wp2
          exact hK.out _ _ ⟨rfl, hG, fun _ _ _ _ _ _ h => h⟩
        · intro kx xs wx hk hG hD hI Qo Kx hK hQo
          clear hD
          clear hI
          simp only [patchS, Nat.reduceAdd, Nat.reduceEqDiff, ↓reduceIte] at hQo ⊢
          go_wp2
          exact hK.out _ _ ⟨rfl, hG, fun _ _ _ _ _ _ h => h⟩
        · intro kx xs wx hk hG hD hI Qo Kx hK hQo
          clear hD
          clear hI
          simp only [patchS, Nat.reduceAdd, Nat.reduceEqDiff, ↓reduceIte] at hQo ⊢
          go_wp2
          exact hK.out _ _ ⟨rfl, hG, fun _ _ _ _ _ _ h => h⟩
        · intro kx xs wx hk hG hD hI Qo Kx hK hQo
          have d5 : (xs 5) = .slice (some ⟨g2, 0, none⟩) n d := hD 5 rfl
          have d6 : (xs 6) = .int .i64 k := hD 6 rfl
          clear hD
          clear hI
          simp only [patchS, Nat.reduceAdd, Nat.reduceEqDiff, ↓reduceIte] at hQo ⊢
          generalize xs 5 = y5 at *
          generalize xs 6 = y6 at *
          subst d5
          subst d6
          go_wp2
          exact hK.out _ _ ⟨rfl, hG, fun _ _ _ _ _ _ h => h⟩
        · intro kx xs wx hk hG hD hI Qo Kx hK hQo
          have d7 : (xs 7) = .pointer (some ⟨g2, k * 3, none⟩) := hD 7 rfl
          clear hD
          clear hI
          simp only [patchS, Nat.reduceAdd, Nat.reduceEqDiff, ↓reduceIte] at hQo ⊢
          generalize xs 7 = y7 at *
          subst d7
          go_wp2
          exact hK.out _ _ ⟨rfl, hG, fun _ _ _ _ _ _ h => h⟩
        · intro kx xs wx hk hG hD hI Qo Kx hK hQo
          have d8 : (xs 8) = .pointer (some ⟨g2, k * 3, none⟩) := hD 8 rfl
          clear hD
          clear hI
          simp only [patchS, Nat.reduceAdd, Nat.reduceEqDiff, ↓reduceIte] at hQo ⊢
          generalize xs 8 = y8 at *
          subst d8
          have k0 := cell_ext hG q0
          go_wp2
          exact hK.out _ _ ⟨rfl, hG, fun _ _ _ _ _ _ h => h⟩
        · intro kx xs wx hk hG hD hI Qo Kx hK hQo
          have d4 : (xs 4) = .int .i64 tm := hD 4 rfl
          have d9 : (xs 9) = .int .i64 tm := hD 9 rfl
          clear hD
          clear hI
          simp only [patchS, Nat.reduceAdd, Nat.reduceEqDiff, ↓reduceIte] at hQo ⊢
          generalize xs 4 = y4 at *
          generalize xs 9 = y9 at *
          subst d4
          subst d9
          go_wp2
          exact hK.out _ _ ⟨rfl, hG, fun _ _ _ _ _ _ h => h⟩
        · intro kx xs wx hk hG hD hI Qo Kx hK hQo
          have d10 : (xs 10) = .bool false := hD 10 rfl
          clear hD
          clear hI
          simp only [patchS, Nat.reduceAdd, Nat.reduceEqDiff, ↓reduceIte] at hQo ⊢
          generalize xs 10 = y10 at *
          subst d10
          go_wp2
          exact hK.out _ _ ⟨rfl, hG, fun _ _ _ _ _ _ h => h⟩
        · intro kx xs wx hk hG hD hI Qo Kx hK hQo
          have d11 : (xs 11) = .bool false := hD 11 rfl
          clear hD
          clear hI
          simp only [patchS, Nat.reduceAdd, Nat.reduceEqDiff, ↓reduceIte] at hQo ⊢
          generalize xs 11 = y11 at *
          subst d11
          go_wp2
          exact hK.out _ _ ⟨rfl, hG, fun _ _ _ _ _ _ h => h⟩
        · intro kx xs wx hk hG hD hI Qo Kx hK hQo
          have d11 : (xs 11) = .bool false := hD 11 rfl
          clear hD
          clear hI
          simp only [patchS, Nat.reduceAdd, Nat.reduceEqDiff, ↓reduceIte] at hQo ⊢
          generalize xs 11 = y11 at *
          subst d11
          go_wp2
          exact hK.out _ _ ⟨rfl, hG, fun _ _ _ _ _ _ h => h⟩
        · intro kx xs wx hk hG hD hI Qo Kx hK hQo
          have d12 : (xs 12) = .slice (some ⟨g1, 0, none⟩) n c := hD 12 rfl
          have d13 : (xs 13) = .int .i64 k := hD 13 rfl
          have d11 : (xs 11) = .bool false := hD 11 rfl
          clear hD
          clear hI
          simp only [patchS, Nat.reduceAdd, Nat.reduceEqDiff, ↓reduceIte] at hQo ⊢
          generalize xs 12 = y12 at *
          generalize xs 13 = y13 at *
          generalize xs 11 = y11 at *
          subst d12
          subst d13
          subst d11
          go_wp2
          exact hK.out _ _ ⟨rfl, hG, fun _ _ _ _ _ _ h => h⟩
        · intro kx xs wx hk hG hD hI Qo Kx hK hQo
          have d14 : (xs 14) = .pointer (some ⟨g1, k * 3, none⟩) := hD 14 rfl
          have d11 : (xs 11) = .bool false := hD 11 rfl
          clear hD
          clear hI
          simp only [patchS, Nat.reduceAdd, Nat.reduceEqDiff, ↓reduceIte] at hQo ⊢
          generalize xs 14 = y14 at *
          generalize xs 11 = y11 at *
          subst d14
          subst d11
          go_wp2
          exact hK.out _ _ ⟨rfl, hG, fun _ _ _ _ _ _ h => h⟩
        · intro kx xs wx hk hG hD hI Qo Kx hK hQo
          have d15 : (xs 15) = .pointer (some ⟨g1, k * 3 + 1, none⟩) := hD 15 rfl
          have d11 : (xs 11) = .bool false := hD 11 rfl
          clear hD
          clear hI
          simp only [patchS, Nat.reduceAdd, Nat.reduceEqDiff, ↓reduceIte] at hQo ⊢
          generalize xs 15 = y15 at *
          generalize xs 11 = y11 at *
          subst d15
          subst d11
          have k0 := cell_ext hG p1
          go_wp2
          exact hK.out _ _ ⟨rfl, hG, fun _ _ _ _ _ _ h => h⟩
        · intro kx xs wx hk hG hD hI Qo Kx hK hQo
          have d11 : (xs 11) = .bool false := hD 11 rfl
          clear hD
          clear hI
          simp only [patchS, Nat.reduceAdd, Nat.reduceEqDiff, ↓reduceIte] at hQo ⊢
          generalize xs 11 = y11 at *
          subst d11
          go_wp2
          exact hK.out _ _ ⟨rfl, hG, fun _ _ _ _ _ _ h => h⟩
        · intro kx xs wx hk hG hD hI Qo Kx hK hQo
          have d11 : (xs 11) = .bool false := hD 11 rfl
          clear hD
          clear hI
          simp only [patchS, Nat.reduceAdd, Nat.reduceEqDiff, ↓reduceIte] at hQo ⊢
          generalize xs 11 = y11 at *
          subst d11
          go_wp2
          exact hK.out _ _ ⟨rfl, hG, fun _ _ _ _ _ _ h => h⟩
        · intro kx xs wx hk hG hD hI Qo Kx hK hQo
          have d17 : (xs 17) = .slice (some ⟨g2, 0, none⟩) n d := hD 17 rfl
          have d18 : (xs 18) = .int .i64 k := hD 18 rfl
          have d11 : (xs 11) = .bool false := hD 11 rfl
          clear hD
          clear hI
          simp only [patchS, Nat.reduceAdd, Nat.reduceEqDiff, ↓reduceIte] at hQo ⊢
          generalize xs 17 = y17 at *
          generalize xs 18 = y18 at *
          generalize xs 11 = y11 at *
          subst d17
          subst d18
          subst d11
          go_wp2
          exact hK.out _ _ ⟨rfl, hG, fun _ _ _ _ _ _ h => h⟩
        · intro kx xs wx hk hG hD hI Qo Kx hK hQo
          have d19 : (xs 19) = .pointer (some ⟨g2, k * 3, none⟩) := hD 19 rfl
          have d11 : (xs 11) = .bool false := hD 11 rfl
          clear hD
          clear hI
          simp only [patchS, Nat.reduceAdd, Nat.reduceEqDiff, ↓reduceIte] at hQo ⊢
          generalize xs 19 = y19 at *
          generalize xs 11 = y11 at *
          subst d19
          subst d11
          go_wp2
          exact hK.out _ _ ⟨rfl, hG, fun _ _ _ _ _ _ h => h⟩
        · intro kx xs wx hk hG hD hI Qo Kx hK hQo
          have d20 : (xs 20) = .pointer (some ⟨g2, k * 3 + 1, none⟩) := hD 20 rfl
          have d11 : (xs 11) = .bool false := hD 11 rfl
          clear hD
          clear hI
          simp only [patchS, Nat.reduceAdd, Nat.reduceEqDiff, ↓reduceIte] at hQo ⊢
          generalize xs 20 = y20 at *
          generalize xs 11 = y11 at *
          subst d20
          subst d11
          have k0 := cell_ext hG q1
          go_wp2
          exact hK.out _ _ ⟨rfl, hG, fun _ _ _ _ _ _ h => h⟩
        · intro kx xs wx hk hG hD hI Qo Kx hK hQo
          have d16 : (xs 16) = .bool ky := hD 16 rfl
          have d21 : (xs 21) = .bool ky := hD 21 rfl
          have d11 : (xs 11) = .bool false := hD 11 rfl
          clear hD
          clear hI
          simp only [patchS, Nat.reduceAdd, Nat.reduceEqDiff, ↓reduceIte] at hQo ⊢
          generalize xs 16 = y16 at *
          generalize xs 21 = y21 at *
          generalize xs 11 = y11 at *
          subst d16
          subst d21
          subst d11
          go_wp2
          exact hK.out _ _ ⟨by first | rfl | (simp; done), hG, fun _ _ _ _ _ _ h => h⟩
        · intro kx xs wx hk hG hD hI Qo Kx hK hQo
          have d11 : (xs 11) = .bool false := hD 11 rfl
          have d22 : (xs 22) = .bool false := hD 22 rfl
          clear hD
          clear hI
          simp only [patchS, Nat.reduceAdd, Nat.reduceEqDiff, ↓reduceIte] at hQo ⊢
          generalize xs 11 = y11 at *
          generalize xs 22 = y22 at *
          subst d11
          subst d22
          go_wp2
          exact hK.out _ _ ⟨rfl, hG, fun _ _ _ _ _ _ h => h⟩
        · intro kx xs wx hk hG hD hI Qo Kx hK hQo
          have d23 : (xs 23) = .bool false := hD 23 rfl
          clear hD
          clear hI
          simp only [patchS, Nat.reduceAdd, Nat.reduceEqDiff, ↓reduceIte] at hQo ⊢
          generalize xs 23 = y23 at *
          subst d23
          go_wp2
          exact hK.out _ _ ⟨rfl, hG, fun _ _ _ _ _ _ h => h⟩
        · intro kx xs wx hk hG hD hI Qo Kx hK hQo
          have d24 : (xs 24) = .bool false := hD 24 rfl
          clear hD
          clear hI
          simp only [patchS, Nat.reduceAdd, Nat.reduceEqDiff, ↓reduceIte] at hQo ⊢
          generalize xs 24 = y24 at *
          subst d24
          go_wp2
          exact hK.out _ _ ⟨rfl, hG, fun _ _ _ _ _ _ h => h⟩
        · intro kx xs wx hk hG hD hI Qo Kx hK hQo
          have d24 : (xs 24) = .bool false := hD 24 rfl
          clear hD
          clear hI
          simp only [patchS, Nat.reduceAdd, Nat.reduceEqDiff, ↓reduceIte] at hQo ⊢
          generalize xs 24 = y24 at *
          subst d24
          go_wp2
          exact hK.out _ _ ⟨rfl, hG, fun _ _ _ _ _ _ h => h⟩
        · intro kx xs wx hk hG hD hI Qo Kx hK hQo
          have d25 : (xs 25) = .slice (some ⟨g1, 0, none⟩) n c := hD 25 rfl
          have d26 : (xs 26) = .int .i64 k := hD 26 rfl
          have d24 : (xs 24) = .bool false := hD 24 rfl
          clear hD
          clear hI
          simp only [patchS, Nat.reduceAdd, Nat.reduceEqDiff, ↓reduceIte] at hQo ⊢
          generalize xs 25 = y25 at *
          generalize xs 26 = y26 at *
          generalize xs 24 = y24 at *
          subst d25
          subst d26
          subst d24
          go_wp2
          exact hK.out _ _ ⟨rfl, hG, fun _ _ _ _ _ _ h => h⟩
        · intro kx xs wx hk hG hD hI Qo Kx hK hQo
          have d27 : (xs 27) = .pointer (some ⟨g1, k * 3, none⟩) := hD 27 rfl
          have d24 : (xs 24) = .bool false := hD 24 rfl
          clear hD
          clear hI
          simp only [patchS, Nat.reduceAdd, Nat.reduceEqDiff, ↓reduceIte] at hQo ⊢
          generalize xs 27 = y27 at *
          generalize xs 24 = y24 at *
          subst d27
          subst d24
          go_wp2
          exact hK.out _ _ ⟨rfl, hG, fun _ _ _ _ _ _ h => h⟩
        · intro kx xs wx hk hG hD hI Qo Kx hK hQo
          have d28 : (xs 28) = .pointer (some ⟨g1, k * 3 + 2, none⟩) := hD 28 rfl
          have d24 : (xs 24) = .bool false := hD 24 rfl
          clear hD
          clear hI
          simp only [patchS, Nat.reduceAdd, Nat.reduceEqDiff, ↓reduceIte] at hQo ⊢
          generalize xs 28 = y28 at *
          generalize xs 24 = y24 at *
          subst d28
          subst d24
          have k0 := cell_ext hG p2
          go_wp2
          exact hK.out _ _ ⟨rfl, hG, fun _ _ _ _ _ _ h => h⟩
        · intro kx xs wx hk hG hD hI Qo Kx hK hQo
          have d29 : (xs 29) = .slice a3 m c3 := hD 29 rfl
          have d24 : (xs 24) = .bool false := hD 24 rfl
          clear hD
          clear hI
          simp only [patchS, Nat.reduceAdd, Nat.reduceEqDiff, ↓reduceIte] at hQo ⊢
          generalize xs 29 = y29 at *
          generalize xs 24 = y24 at *
          subst d29
          subst d24
          have hcv := Hc1.out wx hG
          go_wp2
          exact hK.out _ _ ⟨rfl, hG, fun _ _ _ _ _ _ h => h⟩
        · intro kx xs wx hk hG hD hI Qo Kx hK hQo
          have d24 : (xs 24) = .bool false := hD 24 rfl
          clear hD
          clear hI
          simp only [patchS, Nat.reduceAdd, Nat.reduceEqDiff, ↓reduceIte] at hQo ⊢
          generalize xs 24 = y24 at *
          subst d24
          go_wp2
          exact hK.out _ _ ⟨rfl, hG, fun _ _ _ _ _ _ h => h⟩
        · intro kx xs wx hk hG hD hI Qo Kx hK hQo
          have d24 : (xs 24) = .bool false := hD 24 rfl
          clear hD
          clear hI
          simp only [patchS, Nat.reduceAdd, Nat.reduceEqDiff, ↓reduceIte] at hQo ⊢
          generalize xs 24 = y24 at *
          subst d24
          go_wp2
          exact hK.out _ _ ⟨rfl, hG, fun _ _ _ _ _ _ h => h⟩
        · intro kx xs wx hk hG hD hI Qo Kx hK hQo
          have d31 : (xs 31) = .slice (some ⟨g2, 0, none⟩) n d := hD 31 rfl
          have d32 : (xs 32) = .int .i64 k := hD 32 rfl
          have d24 : (xs 24) = .bool false := hD 24 rfl
          clear hD
          clear hI
          simp only [patchS, Nat.reduceAdd, Nat.reduceEqDiff, ↓reduceIte] at hQo ⊢
          generalize xs 31 = y31 at *
          generalize xs 32 = y32 at *
          generalize xs 24 = y24 at *
          subst d31
          subst d32
          subst d24
          go_wp2
          exact hK.out _ _ ⟨rfl, hG, fun _ _ _ _ _ _ h => h⟩
        · intro kx xs wx hk hG hD hI Qo Kx hK hQo
          have d33 : (xs 33) = .pointer (some ⟨g2, k * 3, none⟩) := hD 33 rfl
          have d24 : (xs 24) = .bool false := hD 24 rfl
          clear hD
          clear hI
          simp only [patchS, Nat.reduceAdd, Nat.reduceEqDiff, ↓reduceIte] at hQo ⊢
          generalize xs 33 = y33 at *
          generalize xs 24 = y24 at *
          subst d33
          subst d24
          go_wp2
          exact hK.out _ _ ⟨rfl, hG, fun _ _ _ _ _ _ h => h⟩
        · intro kx xs wx hk hG hD hI Qo Kx hK hQo
          have d34 : (xs 34) = .pointer (some ⟨g2, k * 3 + 2, none⟩) := hD 34 rfl
          have d24 : (xs 24) = .bool false := hD 24 rfl
          clear hD
          clear hI
          simp only [patchS, Nat.reduceAdd, Nat.reduceEqDiff, ↓reduceIte] at hQo ⊢
          generalize xs 34 = y34 at *
          generalize xs 24 = y24 at *
          subst d34
          subst d24
          have k0 := cell_ext hG q2
          go_wp2
          exact hK.out _ _ ⟨rfl, hG, fun _ _ _ _ _ _ h => h⟩
        · intro kx xs wx hk hG hD hI Qo Kx hK hQo
          have d35 : (xs 35) = .slice a4 m c4 := hD 35 rfl
          have d24 : (xs 24) = .bool false := hD 24 rfl
          clear hD
          clear hI
          simp only [patchS, Nat.reduceAdd, Nat.reduceEqDiff, ↓reduceIte] at hQo ⊢
          generalize xs 35 = y35 at *
          generalize xs 24 = y24 at *
          subst d35
          subst d24
          have hcv := Hc2.out wx hG
          go_wp2
          exact hK.out _ _ ⟨rfl, hG, fun _ _ _ _ _ _ h => h⟩
        · intro kx xs wx hk hG hD hI Qo Kx hK hQo
          have d30 : (xs 30) = .string (strOfNums bs0) := hD 30 rfl
          have d36 : (xs 36) = .string (strOfNums bs0) := hD 36 rfl
          have d24 : (xs 24) = .bool false := hD 24 rfl
          clear hD
          clear hI
          simp only [patchS, Nat.reduceAdd, Nat.reduceEqDiff, ↓reduceIte] at hQo ⊢
          generalize xs 30 = y30 at *
          generalize xs 36 = y36 at *
          generalize xs 24 = y24 at *
          subst d30
          subst d36
          subst d24
          go_wp2
          exact hK.out _ _ ⟨rfl, hG, fun _ _ _ _ _ _ h => h⟩
        · intro kx xs wx hk hG hD hI Qo Kx hK hQo
          have d24 : (xs 24) = .bool false := hD 24 rfl
          have d37 : (xs 37) = .bool false := hD 37 rfl
          clear hD
          clear hI
          simp only [patchS, Nat.reduceAdd, Nat.reduceEqDiff, ↓reduceIte] at hQo ⊢
          generalize xs 24 = y24 at *
          generalize xs 37 = y37 at *
          subst d24
          subst d37
          go_wp2
          exact hK.out _ _ ⟨rfl, hG, fun _ _ _ _ _ _ h => h⟩
      intro xs wx hV hG
      have d0 : (xs 0) = .slice (some ⟨g1, 0, none⟩) n c := hV 0 (by decide)
      have d1 : (xs 1) = .int .i64 k := hV 1 (by decide)
      have d2 : (xs 2) = .pointer (some ⟨g1, k * 3, none⟩) := hV 2 (by decide)
      have d3 : (xs 3) = .pointer (some ⟨g1, k * 3, none⟩) := hV 3 (by decide)
      have d4 : (xs 4) = .int .i64 tm := hV 4 (by decide)
      have d5 : (xs 5) = .slice (some ⟨g2, 0, none⟩) n d := hV 5 (by decide)
      have d6 : (xs 6) = .int .i64 k := hV 6 (by decide)
      have d7 : (xs 7) = .pointer (some ⟨g2, k * 3, none⟩) := hV 7 (by decide)
      have d8 : (xs 8) = .pointer (some ⟨g2, k * 3, none⟩) := hV 8 (by decide)
      have d9 : (xs 9) = .int .i64 tm := hV 9 (by decide)
      have d10 : (xs 10) = .bool false := hV 10 (by decide)
      have d11 : (xs 11) = .bool false := hV 11 (by decide)
      have d12 : (xs 12) = .slice (some ⟨g1, 0, none⟩) n c := hV 12 (by decide)
      have d13 : (xs 13) = .int .i64 k := hV 13 (by decide)
      have d14 : (xs 14) = .pointer (some ⟨g1, k * 3, none⟩) := hV 14 (by decide)
      have d15 : (xs 15) = .pointer (some ⟨g1, k * 3 + 1, none⟩) := hV 15 (by decide)
      have d16 : (xs 16) = .bool ky := hV 16 (by decide)
      have d17 : (xs 17) = .slice (some ⟨g2, 0, none⟩) n d := hV 17 (by decide)
      have d18 : (xs 18) = .int .i64 k := hV 18 (by decide)
      have d19 : (xs 19) = .pointer (some ⟨g2, k * 3, none⟩) := hV 19 (by decide)
      have d20 : (xs 20) = .pointer (some ⟨g2, k * 3 + 1, none⟩) := hV 20 (by decide)
      have d21 : (xs 21) = .bool ky := hV 21 (by decide)
      have d22 : (xs 22) = .bool false := hV 22 (by decide)
      have d23 : (xs 23) = .bool false := hV 23 (by decide)
      have d24 : (xs 24) = .bool false := hV 24 (by decide)
      have d25 : (xs 25) = .slice (some ⟨g1, 0, none⟩) n c := hV 25 (by decide)
      have d26 : (xs 26) = .int .i64 k := hV 26 (by decide)
      have d27 : (xs 27) = .pointer (some ⟨g1, k * 3, none⟩) := hV 27 (by decide)
      have d28 : (xs 28) = .pointer (some ⟨g1, k * 3 + 2, none⟩) := hV 28 (by decide)
      have d29 : (xs 29) = .slice a3 m c3 := hV 29 (by decide)
      have d30 : (xs 30) = .string (strOfNums bs0) := hV 30 (by decide)
      have d31 : (xs 31) = .slice (some ⟨g2, 0, none⟩) n d := hV 31 (by decide)
      have d32 : (xs 32) = .int .i64 k := hV 32 (by decide)
      have d33 : (xs 33) = .pointer (some ⟨g2, k * 3, none⟩) := hV 33 (by decide)
      have d34 : (xs 34) = .pointer (some ⟨g2, k * 3 + 2, none⟩) := hV 34 (by decide)
      have d35 : (xs 35) = .slice a4 m c4 := hV 35 (by decide)
      have d36 : (xs 36) = .string (strOfNums bs0) := hV 36 (by decide)
      have d37 : (xs 37) = .bool false := hV 37 (by decide)
      have d38 : (xs 38) = .bool false := hV 38 (by decide)
      clear hV
      simp only [patchS, Nat.reduceAdd, Nat.reduceEqDiff, ↓reduceIte]
      generalize xs 0 = y0 at *
      generalize xs 1 = y1 at *
      generalize xs 2 = y2 at *
      generalize xs 3 = y3 at *
      generalize xs 4 = y4 at *
      generalize xs 5 = y5 at *
      generalize xs 6 = y6 at *
      generalize xs 7 = y7 at *
      generalize xs 8 = y8 at *
      generalize xs 9 = y9 at *
      generalize xs 10 = y10 at *
      generalize xs 11 = y11 at *
      generalize xs 12 = y12 at *
      generalize xs 13 = y13 at *
      generalize xs 14 = y14 at *
      generalize xs 15 = y15 at *
      generalize xs 16 = y16 at *
      generalize xs 17 = y17 at *
      generalize xs 18 = y18 at *
      generalize xs 19 = y19 at *
      generalize xs 20 = y20 at *
      generalize xs 21 = y21 at *
      generalize xs 22 = y22 at *
      generalize xs 23 = y23 at *
      generalize xs 24 = y24 at *
      generalize xs 25 = y25 at *
      generalize xs 26 = y26 at *
      generalize xs 27 = y27 at *
      generalize xs 28 = y28 at *
      generalize xs 29 = y29 at *
      generalize xs 30 = y30 at *
      generalize xs 31 = y31 at *
      generalize xs 32 = y32 at *
      generalize xs 33 = y33 at *
      generalize xs 34 = y34 at *
      generalize xs 35 = y35 at *
      generalize xs 36 = y36 at *
      generalize xs 37 = y37 at *
      generalize xs 38 = y38 at *
      replace hG : Ext wr wx := hG
      clear d0 d1 d2 d3 d4 d5 d6 d7 d8 d9 d10 d11 d12 d13 d14 d15 d16 d17 d18 d19 d20 d21 d22 d23 d24 d25 d26 d27 d28 d29 d30 d31 d32 d33 d34 d35 d36 d37
      subst d38
      go_wp2
      go_roundw
      case rel => exact ⟨k + 1, by omega, by go_num, E2.trans hG⟩
      case measure => simp [intOf]; omega
    · obtain rfl : k = n := by omega
      go_wp2
      go_ret
      exact ⟨rfl, E2⟩
theorem DrawWriteContainer_any (a : Option Addr) (c n : Nat) (zs : List Int) (w : World) (hc : n ≤ c) (hc2 : c ≤ 9223372036854775807) (r : Sl w a n (zs.map (Value.int .u8))) (hz : ∀ z ∈ zs, 0 ≤ z ∧ z ≤ 255) :
    Calls Tryd.prog 6 #[.slice a n c] w fun e w' => ∃ (a : Option Addr) (c : Nat) (L : List Smp), e = .returned (.slice a L.length c) ∧ SE w' w.heap.size (.slice a L.length c) L ∧ L.length ≤ 5 ∧ (∀ x ∈ L, smpOk x) ∧ Ext w w' := by
  go_enter Tryd.func6, Tryd.ntmps6
  go_wp2_with fail
  refine (open_any a c n zs _ hc hc2 r hz).mono ?_
  rintro e w1 ⟨b, rfl, rd, e1, hb⟩
  have hrd : RdP w1 b 0 := ⟨0, Nat.le_refl _, rd⟩
  clear r hz rd
  go_wp2_with fail
  refine (l20Entries_c b 0 9 _ hrd (by omega) (by omega) (by omega)).mono ?_
  rintro e w2 ⟨v, L, rfl, S2, h1, h2, r2, g2⟩
  obtain ⟨a2, c2, rfl⟩ := S2.form
  have hs1 := e1.size
  have HL := Lib.hid h2
  have EE : Ext w w2 := Ext.grown e1 g2 (fun k hk => by simp at hk; omega)
  clear h2 hrd g2 r2 e1
  go_wp2
  go_ret
  exact ⟨a2, c2, L, rfl, S2.mono hs1, h1, HL.out, EE⟩
set_option maxRecDepth 100000 in
set_option maxHeartbeats 4000000 in
theorem law_FnWriteContainer (a : Option Addr) (c n : Nat) (zs : List Int) (w : World) (hn0 : n ≤ c ∧ c ≤ maxLen) (sl : Sl w a n (zs.map (Value.int .u8))) (wf : ∀ z ∈ zs, (Lit.int .u8 z).wf = true) (h0 : ∃ b, w.cell? ⟨0, 0, none⟩ = some (.iface 82 (.pointer (some b)))) :
    Calls Tryd.prog 3 #[.slice a n c] w fun e w' => e = .returned (.bool true) ∧ Ext w w' := by
  have hn : n ≤ c ∧ c ≤ 9223372036854775807 := ⟨hn0.1, hn0.2⟩
  clear hn0
  obtain ⟨b, h0⟩ := h0
  have hz := Lib.hid (byte_range6 wf)
  clear wf
  by_cases hbig : 1048576 < n
  · go_enter Tryd.func3, Tryd.ntmps3
    go_wp2
    go_ret
    refine ⟨rfl, ?_⟩
    (repeat (first | with_reducible exact Below.refl _ _ | assumption | with_reducible refine below_drewN ?_ _ | with_reducible refine Below.drew ?_ | with_reducible refine Below.setCell ?_ (by simp <;> omega) _ | with_reducible refine Ext.trans ?_ (Ext.alloc _ _)))
  go_enter Tryd.func3, Tryd.ntmps3
  go_wp2_with fail
  refine (DrawWriteContainer_any a c n zs _ hn.1 hn.2 (sl.ext (by (repeat (first | with_reducible exact Below.refl _ _ | assumption | with_reducible refine below_drewN ?_ _ | with_reducible refine Below.drew ?_ | with_reducible refine Below.setCell ?_ (by simp <;> omega) _ | with_reducible refine Ext.trans ?_ (Ext.alloc _ _))))) hz.out).mono ?_
  rintro e w1 ⟨a1, c1, L, rfl, S1, hl5, hL, e1⟩
  have E1 : Ext w w1 := by refine Ext.trans ?_ e1; (repeat (first | with_reducible exact Below.refl _ _ | assumption | with_reducible refine below_drewN ?_ _ | with_reducible refine Below.drew ?_ | with_reducible refine Below.setCell ?_ (by simp <;> omega) _ | with_reducible refine Ext.trans ?_ (Ext.alloc _ _)))
  have H0 := Lib.hid h0
  have hLb : ∀ x ∈ L, bys x.2.2 := fun x hx => (hL x hx).2.2.2
  have hwb := wcont_bys0 hLb
  have hwl := wcont_len L
  obtain ⟨N, hN⟩ : ∃ N, N = L.length := ⟨_, rfl⟩
  have hvl : svalid L = true → 1 + 5 * N ≤ (wcont L).length := fun hv => by
    rw [wcont_yes hv, hN]; unfold wall; rw [List.length_append, wpre_len L _ (Nat.le_refl _)]; omega
  have hrt : svalid L = true → rcOk (wcont L) ∧ cL (wcont L) = L := fun hv => rc_wcont hv hLb
  have hnv := fun hv : svalid L = false => wcont_no hv
  obtain ⟨B, hB⟩ : ∃ B, B = wcont L := ⟨_, rfl⟩
  obtain ⟨k, hk⟩ : ∃ k, k = B.length := ⟨_, rfl⟩
  have hI := fun (w : World) (r : SP w a1 N L) => impl_WriteContainer_any a1 c1 N L w (by omega) r
  have hS := fun (w : World) (r : SP w a1 N L) => spec_WriteContainer_any a1 c1 N L w (by omega) r
  have hV := fun (w : World) (r : SP w a1 N L) => spec_SamplesValid_any a1 c1 N L w (by omega) r
  rw [← hB] at hwb hwl hvl hrt hnv
  simp only [← hB, ← hk] at hI hS hwl hvl
  rw [← hN] at S1 hl5 ⊢
  have HI := Lib.hid hI
  have HS := Lib.hid hS
  have HV := Lib.hid hV
  have Hk := Lib.hid hk
  have HWB := Lib.hid hwb
  have HVL := Lib.hid hvl
  have HRT := Lib.hid hrt
  have HNV := Lib.hid hnv
  have HN := Lib.hid hN
  clear sl hz e1 hL hI hS hV hk hB hwb hvl hrt hnv h0 hN hLb
  go_wp2_with fail
  refine (HI.out _ S1.toSP).mono ?_
  rintro e w3 ⟨a3, c3, rfl, own3, e3⟩
  have E3 := E1.trans e3
  have S3 := S1.ext e3
  clear S1 e3 E1
  go_wp2_with fail
  have hext : ∀ (i : Nat) (own : Value) (ys : Nat → Value) (wa wb : World), Ext wa wb → (match i with | 0 => own = .slice a3 k c3 | 1 => own = .string (strOfNums B) | 2 => own = .slice a1 N c1 | 3 => ∃ (a4 : Option Addr) (c4 : Nat), own = .slice a4 k c4 ∧ wa.ownsRow w3.heap.size 5 1 (.slice a4 k c4) k (B.map (Value.int .u8)) | 4 => own = .string (strOfNums B) | 5 => own = .bool false | _ => True) → (match i with | 0 => own = .slice a3 k c3 | 1 => own = .string (strOfNums B) | 2 => own = .slice a1 N c1 | 3 => ∃ (a4 : Option Addr) (c4 : Nat), own = .slice a4 k c4 ∧ wb.ownsRow w3.heap.size 5 1 (.slice a4 k c4) k (B.map (Value.int .u8)) | 4 => own = .string (strOfNums B) | 5 => own = .bool false | _ => True) := by
    intro i own ys wa wb e h
    match i, h with
    | 0, h => exact h
    | 1, h => exact h
    | 2, h => exact h
    | 3, h => obtain ⟨a2, c2, h1, h2⟩ := h; exact ⟨a2, c2, h1, owns_ext h2 e⟩
    | 4, h => exact h
    | 5, h => exact h
    | _ + 6, _ => trivial
  have Hext := Lib.hid hext
  clear hext
  refine wp_region_inv2 (by kernel_rfl) [(14, 0), (15, 1), (16, 2), (17, 3), (18, 4), (19, 5)] [[], [0], [], [2], [2, 3], [0, 1, 2, 3, 4]] (fun i own ys wx => match i with | 0 => own = .slice a3 k c3 | 1 => own = .string (strOfNums B) | 2 => own = .slice a1 N c1 | 3 => ∃ (a4 : Option Addr) (c4 : Nat), own = .slice a4 k c4 ∧ wx.ownsRow w3.heap.size 5 1 (.slice a4 k c4) k (B.map (Value.int .u8)) | 4 => own = .string (strOfNums B) | 5 => own = .bool false | _ => True) (fun kx wx => Ext w3 wx) (by kernel_rfl) (by kernel_rfl) (by kernel_rfl) ?g0_r2 ?gop_r2 ?gend_r2
  case g0_r2 => exact Ext.drewN _ 1
  case gop_r2 =>
    refine ⟨?_, ?_, ?_, ?_, ?_, ?_, trivial⟩
    · intro kx xs wx hk hG hD hI Qo Kx hK hQo
      clear hD
      clear hI
      simp only [patchS, Nat.reduceAdd, Nat.reduceEqDiff, ↓reduceIte] at hQo ⊢
      go_wp2
      exact hK.out _ _ ⟨rfl, hG, fun _ _ _ _ _ _ h => h⟩
    · intro kx xs wx hk hG hD hI Qo Kx hK hQo
      have d0 : (xs 0) = .slice a3 k c3 := hD 0 rfl
      clear hD
      clear hI
      simp only [patchS, Nat.reduceAdd, Nat.reduceEqDiff, ↓reduceIte] at hQo ⊢
      generalize xs 0 = y0 at *
      subst d0
      have hcv := conv_own wx _ a3 k c3 B (owns_ext own3 hG)
      go_wp2
      exact hK.out _ _ ⟨rfl, hG, fun _ _ _ _ _ _ h => h⟩
    · intro kx xs wx hk hG hD hI Qo Kx hK hQo
      clear hD
      clear hI
      simp only [patchS, Nat.reduceAdd, Nat.reduceEqDiff, ↓reduceIte] at hQo ⊢
      go_wp2
      exact hK.out _ _ ⟨rfl, hG, fun _ _ _ _ _ _ h => h⟩
    · intro kx xs wx hk hG hD hI Qo Kx hK hQo
      have d2 : (xs 2) = .slice a1 N c1 := hD 2 rfl
      clear hD
      clear hI
      simp only [patchS, Nat.reduceAdd, Nat.reduceEqDiff, ↓reduceIte] at hQo ⊢
      generalize xs 2 = y2 at *
      subst d2
      go_wp2_with fail
      refine (HS.out _ (S3.toSP.ext hG)).mono ?_
      rintro e w8 ⟨a8, c8, rfl, own8, e8⟩
      go_wp2
      exact hK.out _ _ ⟨⟨a8, c8, rfl, owns_mono own8 hG.size⟩, hG.trans e8, fun i _ _ _ own ys h => Hext.out i own ys _ _ e8 h⟩
    · intro kx xs wx hk hG hD hI Qo Kx hK hQo
      have d3 : ∃ (a4 : Option Addr) (c4 : Nat), (xs 3) = .slice a4 k c4 ∧ wx.ownsRow w3.heap.size 5 1 (.slice a4 k c4) k (B.map (Value.int .u8)) := hD 3 rfl
      clear hD
      clear hI
      simp only [patchS, Nat.reduceAdd, Nat.reduceEqDiff, ↓reduceIte] at hQo ⊢
      generalize xs 3 = y3 at *
      obtain ⟨a4, c4, rfl, o4⟩ := d3
      have hcv := conv_own wx _ a4 k c4 B o4
      go_wp2
      exact hK.out _ _ ⟨rfl, hG, fun _ _ _ _ _ _ h => h⟩
    · intro kx xs wx hk hG hD hI Qo Kx hK hQo
      have d1 : (xs 1) = .string (strOfNums B) := hD 1 rfl
      have d4 : (xs 4) = .string (strOfNums B) := hD 4 rfl
      clear hD
      clear hI
      simp only [patchS, Nat.reduceAdd, Nat.reduceEqDiff, ↓reduceIte] at hQo ⊢
      generalize xs 1 = y1 at *
      generalize xs 4 = y4 at *
      subst d1
      subst d4
      go_wp2
      exact hK.out _ _ ⟨rfl, hG, fun _ _ _ _ _ _ h => h⟩
  clear Hext
  intro xs wx hV hG
  have d0 : (xs 0) = .slice a3 k c3 := hV 0 (by decide)
  have d1 : (xs 1) = .string (strOfNums B) := hV 1 (by decide)
  have d2 : (xs 2) = .slice a1 N c1 := hV 2 (by decide)
  have d3 : ∃ (a4 : Option Addr) (c4 : Nat), (xs 3) = .slice a4 k c4 ∧ wx.ownsRow w3.heap.size 5 1 (.slice a4 k c4) k (B.map (Value.int .u8)) := hV 3 (by decide)
  have d4 : (xs 4) = .string (strOfNums B) := hV 4 (by decide)
  have d5 : (xs 5) = .bool false := hV 5 (by decide)
  clear hV
  simp only [patchS, Nat.reduceAdd, Nat.reduceEqDiff, ↓reduceIte]
  generalize xs 0 = y0 at *
  generalize xs 1 = y1 at *
  generalize xs 2 = y2 at *
  generalize xs 3 = y3 at *
  generalize xs 4 = y4 at *
  generalize xs 5 = y5 at *
  replace hG : Ext w3 wx := hG
  clear d0 d1 d2 d3 d4
  subst d5
  have E4 := E3.trans hG
  have own5 := owns_ext own3 hG
  have S5 := S3.ext hG
  clear E3 own3 S3 hG
  generalize wx = w4 at *
  go_wp2_with fail
  refine (HV.out _ S5.toSP).mono ?_
  rintro e w5 ⟨rfl, dm, rfl⟩
  have e5 : Ext w4 (w4.drewN dm) := Ext.drewN _ _
  have E5 := E4.trans e5
  have own6 := owns_ext own5 e5
  have S6 := S5.ext e5
  generalize w4.drewN dm = w6 at *
  clear E4 own5 S5 e5
  cases hv : svalid L with
  | true =>
    have hcap := owns_cap own6
    unfold maxLen at hcap
    have hRC := impl_ReadContainer_any b a3 c3 k B w6 (cell_ext E5 H0.out) hcap (Sl.of_owns own6) HWB.out (fun y hy => (own6.lt y.block (by rw [hy]; rfl)).2) (fun w' e => conv_own w' _ a3 k c3 B (owns_ext own6 e))
    obtain ⟨hr1, hr2⟩ := HRT.out hv
    have hkl := HVL.out hv
    unfold RcR rcL at hRC
    rw [if_pos hr1, hr2, decide_eq_true hr1, ← HN.out] at hRC
    have HRC := Lib.hid hRC
    have hs16 : w.heap.size ≤ w6.heap.size := E5.size
    clear hRC hr1 hr2 hv
    go_wp2_with fail
    refine HRC.out.mono ?_
    rintro e w7 ⟨a7, c7, rfl, S7, e7⟩
    have S8 := S6.ext e7
    have E7 := E5.trans e7
    clear e7 E5 S6 own6
    go_wp2_with fail
    refine (sameSamples_same a7 a1 N c7 c1 0 L _ (S7.mono (Nat.zero_le _)) (S8.mono (Nat.zero_le _))).mono ?_
    rintro e w8 ⟨rfl, e8⟩
    go_wp2
    go_ret
    exact ⟨by first | rfl | (simp; done) | (simp; omega), E7.trans e8⟩
  | false =>
    have hB := HNV.out hv
    have hk0 : k = 0 := by rw [Hk.out, hB]; rfl
    subst hk0
    clear hv hB
    go_wp2_with fail
    refine (alive_any _).mono ?_
    rintro e w7 ⟨rfl, e7⟩
    go_wp2
    go_ret
    exact ⟨rfl, E5.trans e7⟩
end Go.Proofs.YtpjjadmjdafkeaaDoor
