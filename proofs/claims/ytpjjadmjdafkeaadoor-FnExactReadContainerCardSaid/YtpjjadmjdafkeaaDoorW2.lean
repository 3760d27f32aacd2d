/- Containers: contract of the reference's WriteContainer. -/
import Derived.Test.YtpjjadmjdafkeaaDoorW1
namespace Go.Proofs.YtpjjadmjdafkeaaDoor
open Go.RowKit
set_option maxHeartbeats 2000000
theorem spec_WriteContainer_no (a : Option Addr) (c n : Nat) (L : List Smp) (w : World) (hn : n ≤ 9223372036854775807) (r : SP w a n L) (hv : svalid L = false) :
    Calls Tryd.prog 8 #[.slice a n c] w fun e w' => ∃ v, e = .returned v ∧ w'.ownsRow w.heap.size 5 1 v 0 [] ∧ Ext w w' := by
  go_enter Tryd.func8, Tryd.ntmps8
  go_wp2_with fail
  refine (spec_SamplesValid_any a c n L _ hn r).mono ?_
  rintro e w1 ⟨rfl, m, rfl⟩
  rw [hv]
  have hown := World.ownsRow_made (base := w.heap.size) (e := 5) (size := 1) (w.drewN m) #[] 0 (Nat.le_refl _) (by simp) rfl
  go_wp2
  go_ret
  exact ⟨_, rfl, hown, (Ext.drewN w m).trans (Ext.alloc _ _)⟩
set_option maxRecDepth 100000 in
theorem spec_WriteContainer_yes (a : Option Addr) (c n : Nat) (L : List Smp) (w : World) (hn : n ≤ 9223372036854775807) (r : SP w a n L) (hv : svalid L = true) :
    Calls Tryd.prog 8 #[.slice a n c] w fun e w' => ∃ a' c', e = .returned (.slice a' (wcont L).length c') ∧ w'.ownsRow w.heap.size 5 1 (.slice a' (wcont L).length c') (wcont L).length ((wcont L).map (Value.int .u8)) ∧ Ext w w' := by
  have HV := Lib.hid hv
  have HL := Lib.hid r.1
  have hn100 : n ≤ 100 := by have := (svalid_iff.1 hv).1; rw [r.1] at this; exact this
  go_enter Tryd.func8, Tryd.ntmps8
  go_wp2_with fail
  refine (spec_SamplesValid_any a c n L _ hn r).mono ?_
  rintro e w1 ⟨rfl, dm, rfl⟩
  rw [hv]
  have E1 : Ext w (w.drewN dm) := Ext.drewN w dm
  generalize w.drewN dm = w1 at *
  have r1 := r.ext E1
  have hw8 : IntKind.u8.wrap (n : Int) = (n : Int) := wrap8 (by omega) (by omega)
  have o2 := World.ownsRow_lit (base := w1.heap.size) (e := 5) (size := 1) w1 #[.int .u8 (n : Int)] 1 (Nat.le_refl _) (by unfold maxLen; omega) rfl
  have E2 := Ext.alloc w1 (.cells #[.int .u8 (n : Int)] 5)
  have hs1 := E1.size
  clear hv r
  go_wp2_with fail
  go_loopw [3, 4, 5, 6] (fun v i _ _ wr => ∃ (k : Nat), k ≤ n ∧ i = .int .i64 k ∧ Ext w1 wr ∧ wr.ownsRow w1.heap.size 5 1 v (1 + 5 * k) ((wpre L k).map (Value.int .u8))) (fun _ i _ _ _ => n - (intOf i).toNat)
  case atStart => exact ⟨0, by omega, rfl, E2, by rw [wpre_zero, HL.out]; exact o2⟩
  case round =>
    obtain ⟨k, hk, rfl, E3, o3⟩ := hrel
    clear o2 E2
    by_cases hlt : k < n
    · obtain ⟨b1, o1, rfl, aa, nn, cc, g0, g1, g2, s4, h5, h6, -⟩ := r1.2 k hlt
      have hsk := (svalid_iff.1 HV.out).2 k (by rw [HL.out]; exact hlt)
      obtain ⟨t0, t1, t2, -⟩ := hsk
      have hnn := s4.int_len
      obtain ⟨q1, hq1⟩ : ∃ q, q = (sget L k).1 / 256 := ⟨_, rfl⟩
      obtain ⟨r1', hr1⟩ : ∃ q, q = (sget L k).1 % 256 := ⟨_, rfl⟩
      obtain ⟨q2, hq2⟩ : ∃ q, q = (nn : Int) / 256 := ⟨_, rfl⟩
      obtain ⟨r2, hr2⟩ : ∃ q, q = (nn : Int) % 256 := ⟨_, rfl⟩
      have hW : Hid (wpre L (k + 1) = wpre L k ++ [q1, r1', flag (sget L k).2.1, q2, r2]) := Lib.hid (by rw [wpre_succ L (by rw [HL.out]; exact hlt), hq1, hr1, hq2, hr2, ← hnn]; rfl)
      have hnn5 : nn ≤ 5000 := by omega
      generalize (sget L k).1 = tm at *
      generalize (sget L k).2.1 = ky at *
      generalize wpre L k = W at *
      have tt1 : Int.tdiv tm 256 = q1 := by rw [hq1, Int.tdiv_eq_ediv_of_nonneg t0]
      have tt2 : Int.tmod tm 256 = r1' := by rw [hr1, Int.tmod_eq_emod_of_nonneg t0]
      have tt3 : Int.tdiv (nn : Int) 256 = q2 := by rw [hq2, Int.tdiv_eq_ediv_of_nonneg (by omega)]
      have tt4 : Int.tmod (nn : Int) 256 = r2 := by rw [hr2, Int.tmod_eq_emod_of_nonneg (by omega)]
      have bb1 : IntKind.u8.wrap q1 = q1 := wrap8 (by omega) (by omega)
      have bb2 : IntKind.u8.wrap r1' = r1' := wrap8 (by omega) (by omega)
      have bb3 : IntKind.u8.wrap q2 = q2 := wrap8 (by omega) (by omega)
      have bb4 : IntKind.u8.wrap r2 = r2 := wrap8 (by omega) (by omega)
      have v1 : wrap64 q1 = q1 := by unfold wrap64; omega
      have v2 : wrap64 q2 = q2 := by unfold wrap64; omega
      clear s4 hnn t2 hq1 hr1 hq2 hr2
      obtain ⟨a3, c3, rfl⟩ := owns_form o3
      have Hlt3 := Lib.hid (show ∀ q, (Value.slice a3 (1 + 5 * k) c3).ownBlock = some q → q < wr.heap.size from fun q hq => (o3.lt q hq).2)
      have f0 := cell_ext E3 g0
      have f1 := cell_ext E3 g1
      have f2 := cell_ext E3 g2
      cases ky
      · change Hid (wpre L (k + 1) = W ++ [q1, r1', 0, q2, r2]) at hW
        go_wp2_with fail
        have hext : ∀ (i : Nat) (own : Value) (ys : Nat → Value) (wa wb : World), Ext wa wb → (match i with | 0 => own = .slice a3 (1 + 5 * k) c3 | 1 => own = .slice (some ⟨b1, o1, none⟩) n c | 2 => own = .int .i64 k | 3 => own = .pointer (some ⟨b1, o1 + k * 3, none⟩) | 4 => own = .pointer (some ⟨b1, o1 + k * 3, none⟩) | 5 => own = .int .i64 tm | 6 => own = .int .i64 q1 | 7 => own = .int .u8 q1 | 8 => own = .slice (some ⟨b1, o1, none⟩) n c | 9 => own = .int .i64 k | 10 => own = .pointer (some ⟨b1, o1 + k * 3, none⟩) | 11 => own = .pointer (some ⟨b1, o1 + k * 3, none⟩) | 12 => own = .int .i64 tm | 13 => own = .int .i64 r1' | 14 => own = .int .u8 r1' | 15 => own = .int .u8 0 | 16 => own = .int .i64 nn | 17 => own = .int .i64 q2 | 18 => own = .int .u8 q2 | 19 => own = .int .i64 nn | 20 => own = .int .i64 r2 | 21 => own = .int .u8 r2 | 22 => ∃ (q : Nat), own = .slice (some ⟨q, 0, none⟩) 5 5 ∧ wa.ownsRow w1.heap.size 5 1 (.slice (some ⟨q, 0, none⟩) 5 5) 5 [.int .u8 q1, .int .u8 r1', .int .u8 0, .int .u8 q2, .int .u8 r2] ∧ wr.heap.size ≤ q | 23 => ∃ (ax : Option Addr) (cx : Nat), own = .slice ax (1 + 5 * k + 5) cx ∧ wa.ownsRow w1.heap.size 5 1 (.slice ax (1 + 5 * k + 5) cx) (1 + 5 * k + 5) ((W ++ [q1, r1', 0, q2, r2]).map (Value.int .u8)) | 24 => ∃ (ax : Option Addr) (cx : Nat), own = .slice ax (1 + 5 * k + 5) cx ∧ wa.ownsRow w1.heap.size 5 1 (.slice ax (1 + 5 * k + 5) cx) (1 + 5 * k + 5) ((W ++ [q1, r1', 0, q2, r2]).map (Value.int .u8)) | _ => True) → (match i with | 0 => own = .slice a3 (1 + 5 * k) c3 | 1 => own = .slice (some ⟨b1, o1, none⟩) n c | 2 => own = .int .i64 k | 3 => own = .pointer (some ⟨b1, o1 + k * 3, none⟩) | 4 => own = .pointer (some ⟨b1, o1 + k * 3, none⟩) | 5 => own = .int .i64 tm | 6 => own = .int .i64 q1 | 7 => own = .int .u8 q1 | 8 => own = .slice (some ⟨b1, o1, none⟩) n c | 9 => own = .int .i64 k | 10 => own = .pointer (some ⟨b1, o1 + k * 3, none⟩) | 11 => own = .pointer (some ⟨b1, o1 + k * 3, none⟩) | 12 => own = .int .i64 tm | 13 => own = .int .i64 r1' | 14 => own = .int .u8 r1' | 15 => own = .int .u8 0 | 16 => own = .int .i64 nn | 17 => own = .int .i64 q2 | 18 => own = .int .u8 q2 | 19 => own = .int .i64 nn | 20 => own = .int .i64 r2 | 21 => own = .int .u8 r2 | 22 => ∃ (q : Nat), own = .slice (some ⟨q, 0, none⟩) 5 5 ∧ wb.ownsRow w1.heap.size 5 1 (.slice (some ⟨q, 0, none⟩) 5 5) 5 [.int .u8 q1, .int .u8 r1', .int .u8 0, .int .u8 q2, .int .u8 r2] ∧ wr.heap.size ≤ q | 23 => ∃ (ax : Option Addr) (cx : Nat), own = .slice ax (1 + 5 * k + 5) cx ∧ wb.ownsRow w1.heap.size 5 1 (.slice ax (1 + 5 * k + 5) cx) (1 + 5 * k + 5) ((W ++ [q1, r1', 0, q2, r2]).map (Value.int .u8)) | 24 => ∃ (ax : Option Addr) (cx : Nat), own = .slice ax (1 + 5 * k + 5) cx ∧ wb.ownsRow w1.heap.size 5 1 (.slice ax (1 + 5 * k + 5) cx) (1 + 5 * k + 5) ((W ++ [q1, r1', 0, q2, r2]).map (Value.int .u8)) | _ => True) := by
          intro i own ys wa wb e h
          match i, h with
          | 0, h => exact h
          | 1, h => exact h
          | 2, h => exact h
          | 3, h => exact h
          | 4, h => exact h
          | 5, h => exact h
          | 6, h => exact h
          | 7, h => exact h
          | 8, h => exact h
          | 9, h => exact h
          | 10, h => exact h
          | 11, h => exact h
          | 12, h => exact h
          | 13, h => exact h
          | 14, h => exact h
          | 15, h => exact h
          | 16, h => exact h
          | 17, h => exact h
          | 18, h => exact h
          | 19, h => exact h
          | 20, h => exact h
          | 21, h => exact h
          | 22, h => obtain ⟨q, h1, h2, h3⟩ := h; exact ⟨q, h1, owns_ext h2 e, h3⟩
          | 23, h => obtain ⟨a2, c2, h1, h2⟩ := h; exact ⟨a2, c2, h1, owns_ext h2 e⟩
          | 24, h => obtain ⟨a2, c2, h1, h2⟩ := h; exact ⟨a2, c2, h1, owns_ext h2 e⟩
          | _ + 25, _ => trivial
        have Hext := Lib.hid hext
        clear hext
        refine wp_region_inv2 (by kernel_rfl) [(3, 24), (33, 0), (34, 1), (35, 2), (36, 3), (37, 4), (38, 5), (39, 6), (40, 7), (41, 8), (42, 9), (43, 10), (44, 11), (45, 12), (46, 13), (47, 14), (48, 15), (49, 16), (50, 17), (51, 18), (52, 19), (53, 20), (54, 21), (55, 22), (56, 23)] [[], [], [], [1, 2], [1, 2, 3], [1, 2, 3, 4], [1, 2, 3, 4, 5], [1, 2, 3, 4, 5, 6], [], [], [8, 9], [8, 9, 10], [8, 9, 10, 11], [8, 9, 10, 11, 12], [8, 9, 10, 11, 12, 13], [], [], [16], [16, 17], [], [19], [19, 20], [1, 2, 3, 4, 5, 6, 7, 8, 9, 10, 11, 12, 13, 14, 15, 16, 17, 18, 19, 20, 21], [0, 1, 2, 3, 4, 5, 6, 7, 8, 9, 10, 11, 12, 13, 14, 15, 16, 17, 18, 19, 20, 21, 22], [0, 1, 2, 3, 4, 5, 6, 7, 8, 9, 10, 11, 12, 13, 14, 15, 16, 17, 18, 19, 20, 21, 22, 23]] (fun i own ys wx => match i with | 0 => own = .slice a3 (1 + 5 * k) c3 | 1 => own = .slice (some ⟨b1, o1, none⟩) n c | 2 => own = .int .i64 k | 3 => own = .pointer (some ⟨b1, o1 + k * 3, none⟩) | 4 => own = .pointer (some ⟨b1, o1 + k * 3, none⟩) | 5 => own = .int .i64 tm | 6 => own = .int .i64 q1 | 7 => own = .int .u8 q1 | 8 => own = .slice (some ⟨b1, o1, none⟩) n c | 9 => own = .int .i64 k | 10 => own = .pointer (some ⟨b1, o1 + k * 3, none⟩) | 11 => own = .pointer (some ⟨b1, o1 + k * 3, none⟩) | 12 => own = .int .i64 tm | 13 => own = .int .i64 r1' | 14 => own = .int .u8 r1' | 15 => own = .int .u8 0 | 16 => own = .int .i64 nn | 17 => own = .int .i64 q2 | 18 => own = .int .u8 q2 | 19 => own = .int .i64 nn | 20 => own = .int .i64 r2 | 21 => own = .int .u8 r2 | 22 => ∃ (q : Nat), own = .slice (some ⟨q, 0, none⟩) 5 5 ∧ wx.ownsRow w1.heap.size 5 1 (.slice (some ⟨q, 0, none⟩) 5 5) 5 [.int .u8 q1, .int .u8 r1', .int .u8 0, .int .u8 q2, .int .u8 r2] ∧ wr.heap.size ≤ q | 23 => ∃ (ax : Option Addr) (cx : Nat), own = .slice ax (1 + 5 * k + 5) cx ∧ wx.ownsRow w1.heap.size 5 1 (.slice ax (1 + 5 * k + 5) cx) (1 + 5 * k + 5) ((W ++ [q1, r1', 0, q2, r2]).map (Value.int .u8)) | 24 => ∃ (ax : Option Addr) (cx : Nat), own = .slice ax (1 + 5 * k + 5) cx ∧ wx.ownsRow w1.heap.size 5 1 (.slice ax (1 + 5 * k + 5) cx) (1 + 5 * k + 5) ((W ++ [q1, r1', 0, q2, r2]).map (Value.int .u8)) | _ => True) (fun kx wx => Ext w1 wx ∧ wx.ownsRow w1.heap.size 5 1 (.slice a3 (1 + 5 * k) c3) (1 + 5 * k) (W.map (Value.int .u8)) ∧ wr.heap.size ≤ wx.heap.size) (by kernel_rfl) (by kernel_rfl) (by kernel_rfl) ?g0_r1 ?gop_r1 ?gend_r1
        case g0_r1 => exact ⟨E3.trans (Ext.drewN _ 1), owns_ext o3 (Ext.drewN _ 1), Nat.le_refl _⟩
        case gop_r1 =>
          refine ⟨?_, ?_, ?_, ?_, ?_, ?_, ?_, ?_, ?_, ?_, ?_, ?_, ?_, ?_, ?_, ?_, ?_, ?_, ?_, ?_, ?_, ?_, ?_, ?_, ?_, trivial⟩
          · intro kx xs wx hk hG hD hI Qo Kx hK hQo
            clear hD
            have i24 := hI 24 3 rfl rfl
            simp only [List.getD_cons_succ, List.getD_cons_zero] at i24
            clear hI
            simp only [patchS, Nat.reduceAdd, Nat.reduceEqDiff, ↓reduceIte] at hQo ⊢
            rw [i24] at hQo ⊢
            clear i24
            go_wp2
            exact hK.out _ _ ⟨rfl, hG, fun _ _ _ _ _ _ h => h⟩
          · intro kx xs wx hk hG hD hI Qo Kx hK hQo
            clear hD
            clear hI
            simp only [patchS, Nat.reduceAdd, Nat.reduceEqDiff, ↓reduceIte] at hQo ⊢
            go_wp2
            exact hK.out _ _ ⟨rfl, hG, fun _ _ _ _ _ _ h => h⟩
          · intro kx xs wx hk hG hD hI Qo Kx hK hQo
            clear hD
            clear hI
            simp only [patchS, Nat.reduceAdd, Nat.reduceEqDiff, ↓reduceIte] at hQo ⊢
            go_wp2
            exact hK.out _ _ ⟨rfl, hG, fun _ _ _ _ _ _ h => h⟩
          · intro kx xs wx hk hG hD hI Qo Kx hK hQo
            have d1 : (xs 1) = .slice (some ⟨b1, o1, none⟩) n c := hD 1 rfl
            have d2 : (xs 2) = .int .i64 k := hD 2 rfl
            clear hD
            clear hI
            simp only [patchS, Nat.reduceAdd, Nat.reduceEqDiff, ↓reduceIte] at hQo ⊢
            generalize xs 1 = y1 at *
            generalize xs 2 = y2 at *
            subst d1
            subst d2
            go_wp2
            exact hK.out _ _ ⟨rfl, hG, fun _ _ _ _ _ _ h => h⟩
          · intro kx xs wx hk hG hD hI Qo Kx hK hQo
            have d3 : (xs 3) = .pointer (some ⟨b1, o1 + k * 3, none⟩) := hD 3 rfl
            clear hD
            clear hI
            simp only [patchS, Nat.reduceAdd, Nat.reduceEqDiff, ↓reduceIte] at hQo ⊢
            generalize xs 3 = y3 at *
            subst d3
            go_wp2
            exact hK.out _ _ ⟨rfl, hG, fun _ _ _ _ _ _ h => h⟩
          · intro kx xs wx hk hG hD hI Qo Kx hK hQo
            have d4 : (xs 4) = .pointer (some ⟨b1, o1 + k * 3, none⟩) := hD 4 rfl
            clear hD
            clear hI
            simp only [patchS, Nat.reduceAdd, Nat.reduceEqDiff, ↓reduceIte] at hQo ⊢
            generalize xs 4 = y4 at *
            subst d4
            have k0 := cell_ext hG.1 g0
            go_wp2
            exact hK.out _ _ ⟨rfl, hG, fun _ _ _ _ _ _ h => h⟩
          · intro kx xs wx hk hG hD hI Qo Kx hK hQo
            have d5 : (xs 5) = .int .i64 tm := hD 5 rfl
            clear hD
            clear hI
            simp only [patchS, Nat.reduceAdd, Nat.reduceEqDiff, ↓reduceIte] at hQo ⊢
            generalize xs 5 = y5 at *
            subst d5
            go_wp2
            exact hK.out _ _ ⟨rfl, hG, fun _ _ _ _ _ _ h => h⟩
          · intro kx xs wx hk hG hD hI Qo Kx hK hQo
            have d6 : (xs 6) = .int .i64 q1 := hD 6 rfl
            clear hD
            clear hI
            simp only [patchS, Nat.reduceAdd, Nat.reduceEqDiff, ↓reduceIte] at hQo ⊢
            generalize xs 6 = y6 at *
            subst d6
            go_wp2
            exact hK.out _ _ ⟨rfl, hG, fun _ _ _ _ _ _ h => h⟩
          · intro kx xs wx hk hG hD hI Qo Kx hK hQo
            clear hD
            clear hI
            simp only [patchS, Nat.reduceAdd, Nat.reduceEqDiff, ↓reduceIte] at hQo ⊢
            go_wp2
            exact hK.out _ _ ⟨rfl, hG, fun _ _ _ _ _ _ h => h⟩
          · intro kx xs wx hk hG hD hI Qo Kx hK hQo
            clear hD
            clear hI
            simp only [patchS, Nat.reduceAdd, Nat.reduceEqDiff, ↓reduceIte] at hQo ⊢
            go_wp2
            exact hK.out _ _ ⟨rfl, hG, fun _ _ _ _ _ _ h => h⟩
          · intro kx xs wx hk hG hD hI Qo Kx hK hQo
            have d8 : (xs 8) = .slice (some ⟨b1, o1, none⟩) n c := hD 8 rfl
            have d9 : (xs 9) = .int .i64 k := hD 9 rfl
            clear hD
            clear hI
            simp only [patchS, Nat.reduceAdd, Nat.reduceEqDiff, ↓reduceIte] at hQo ⊢
            generalize xs 8 = y8 at *
            generalize xs 9 = y9 at *
            subst d8
            subst d9
            go_wp2
            exact hK.out _ _ ⟨rfl, hG, fun _ _ _ _ _ _ h => h⟩
          · intro kx xs wx hk hG hD hI Qo Kx hK hQo
            have d10 : (xs 10) = .pointer (some ⟨b1, o1 + k * 3, none⟩) := hD 10 rfl
            clear hD
            clear hI
            simp only [patchS, Nat.reduceAdd, Nat.reduceEqDiff, ↓reduceIte] at hQo ⊢
            generalize xs 10 = y10 at *
            subst d10
            go_wp2
            exact hK.out _ _ ⟨rfl, hG, fun _ _ _ _ _ _ h => h⟩
          · intro kx xs wx hk hG hD hI Qo Kx hK hQo
            have d11 : (xs 11) = .pointer (some ⟨b1, o1 + k * 3, none⟩) := hD 11 rfl
            clear hD
            clear hI
            simp only [patchS, Nat.reduceAdd, Nat.reduceEqDiff, ↓reduceIte] at hQo ⊢
            generalize xs 11 = y11 at *
            subst d11
            have k0 := cell_ext hG.1 g0
            go_wp2
            exact hK.out _ _ ⟨rfl, hG, fun _ _ _ _ _ _ h => h⟩
          · intro kx xs wx hk hG hD hI Qo Kx hK hQo
            have d12 : (xs 12) = .int .i64 tm := hD 12 rfl
            clear hD
            clear hI
            simp only [patchS, Nat.reduceAdd, Nat.reduceEqDiff, ↓reduceIte] at hQo ⊢
            generalize xs 12 = y12 at *
            subst d12
            go_wp2
            exact hK.out _ _ ⟨rfl, hG, fun _ _ _ _ _ _ h => h⟩
          · intro kx xs wx hk hG hD hI Qo Kx hK hQo
            have d13 : (xs 13) = .int .i64 r1' := hD 13 rfl
            clear hD
            clear hI
            simp only [patchS, Nat.reduceAdd, Nat.reduceEqDiff, ↓reduceIte] at hQo ⊢
            generalize xs 13 = y13 at *
            subst d13
            go_wp2
            exact hK.out _ _ ⟨rfl, hG, fun _ _ _ _ _ _ h => h⟩
          · intro kx xs wx hk hG hD hI Qo Kx hK hQo
            clear hD
            clear hI
            simp only [patchS, Nat.reduceAdd, Nat.reduceEqDiff, ↓reduceIte] at hQo ⊢
            go_wp2
            exact hK.out _ _ ⟨rfl, hG, fun _ _ _ _ _ _ h => h⟩
          · intro kx xs wx hk hG hD hI Qo Kx hK hQo
            clear hD
            clear hI
            simp only [patchS, Nat.reduceAdd, Nat.reduceEqDiff, ↓reduceIte] at hQo ⊢
            go_wp2
            exact hK.out _ _ ⟨rfl, hG, fun _ _ _ _ _ _ h => h⟩
          · intro kx xs wx hk hG hD hI Qo Kx hK hQo
            have d16 : (xs 16) = .int .i64 nn := hD 16 rfl
            clear hD
            clear hI
            simp only [patchS, Nat.reduceAdd, Nat.reduceEqDiff, ↓reduceIte] at hQo ⊢
            generalize xs 16 = y16 at *
            subst d16
            go_wp2
            exact hK.out _ _ ⟨rfl, hG, fun _ _ _ _ _ _ h => h⟩
          · intro kx xs wx hk hG hD hI Qo Kx hK hQo
            have d17 : (xs 17) = .int .i64 q2 := hD 17 rfl
            clear hD
            clear hI
            simp only [patchS, Nat.reduceAdd, Nat.reduceEqDiff, ↓reduceIte] at hQo ⊢
            generalize xs 17 = y17 at *
            subst d17
            go_wp2
            exact hK.out _ _ ⟨rfl, hG, fun _ _ _ _ _ _ h => h⟩
          · intro kx xs wx hk hG hD hI Qo Kx hK hQo
            clear hD
            clear hI
            simp only [patchS, Nat.reduceAdd, Nat.reduceEqDiff, ↓reduceIte] at hQo ⊢
            go_wp2
            exact hK.out _ _ ⟨rfl, hG, fun _ _ _ _ _ _ h => h⟩
          · intro kx xs wx hk hG hD hI Qo Kx hK hQo
            have d19 : (xs 19) = .int .i64 nn := hD 19 rfl
            clear hD
            clear hI
            simp only [patchS, Nat.reduceAdd, Nat.reduceEqDiff, ↓reduceIte] at hQo ⊢
            generalize xs 19 = y19 at *
            subst d19
            go_wp2
            exact hK.out _ _ ⟨rfl, hG, fun _ _ _ _ _ _ h => h⟩
          · intro kx xs wx hk hG hD hI Qo Kx hK hQo
            have d20 : (xs 20) = .int .i64 r2 := hD 20 rfl
            clear hD
            clear hI
            simp only [patchS, Nat.reduceAdd, Nat.reduceEqDiff, ↓reduceIte] at hQo ⊢
            generalize xs 20 = y20 at *
            subst d20
            go_wp2
            exact hK.out _ _ ⟨rfl, hG, fun _ _ _ _ _ _ h => h⟩
          · intro kx xs wx hk hG hD hI Qo Kx hK hQo
            have d7 : (xs 7) = .int .u8 q1 := hD 7 rfl
            have d14 : (xs 14) = .int .u8 r1' := hD 14 rfl
            have d15 : (xs 15) = .int .u8 0 := hD 15 rfl
            have d18 : (xs 18) = .int .u8 q2 := hD 18 rfl
            have d21 : (xs 21) = .int .u8 r2 := hD 21 rfl
            clear hD
            clear hI
            simp only [patchS, Nat.reduceAdd, Nat.reduceEqDiff, ↓reduceIte] at hQo ⊢
            generalize xs 7 = y7 at *
            generalize xs 14 = y14 at *
            generalize xs 15 = y15 at *
            generalize xs 18 = y18 at *
            generalize xs 21 = y21 at *
            subst d7
            subst d14
            subst d15
            subst d18
            subst d21
            have e5 := Ext.alloc wx (.cells #[.int .u8 q1, .int .u8 r1', .int .u8 0, .int .u8 q2, .int .u8 r2] 5)
            have o5 := World.ownsRow_lit (base := w1.heap.size) (e := 5) (size := 1) wx #[.int .u8 q1, .int .u8 r1', .int .u8 0, .int .u8 q2, .int .u8 r2] 5 hG.1.size (by unfold maxLen; omega) rfl
            go_wp2
            exact hK.out _ _ ⟨⟨_, rfl, o5, hG.2.2⟩, ⟨hG.1.trans e5, owns_ext hG.2.1 e5, Nat.le_trans hG.2.2 e5.size⟩, fun i _ _ _ own ys h => Hext.out i own ys _ _ e5 h⟩
          · intro kx xs wx hk hG hD hI Qo Kx hK hQo
            have d0 : (xs 0) = .slice a3 (1 + 5 * k) c3 := hD 0 rfl
            have d22 : ∃ (q : Nat), (xs 22) = .slice (some ⟨q, 0, none⟩) 5 5 ∧ wx.ownsRow w1.heap.size 5 1 (.slice (some ⟨q, 0, none⟩) 5 5) 5 [.int .u8 q1, .int .u8 r1', .int .u8 0, .int .u8 q2, .int .u8 r2] ∧ wr.heap.size ≤ q := hD 22 rfl
            clear hD
            clear hI
            simp only [patchS, Nat.reduceAdd, Nat.reduceEqDiff, ↓reduceIte] at hQo ⊢
            generalize xs 0 = y0 at *
            generalize xs 22 = y22 at *
            subst d0
            obtain ⟨q, rfl, o10, hq10⟩ := d22
            refine wpList_appk _ rfl hG.2.1 hG.1.size _ _ _ rfl (.int .u8 0) 1 Tryd.underlying22 info_uint8 rfl (by decide) rfl ⟨q, 0, none⟩ 5 5 _ rfl rfl (o10.cells rfl) (by intro u hu; simp at hu; rcases hu with rfl | rfl | rfl | rfl | rfl <;> rfl) (by omega) (by omega) ?_
            intro v14 w14 own14 gr14 keep14
            obtain ⟨a14, c14, rfl⟩ := owns_form own14
            have hst : ∀ (wy : World), wx.grownBy wy (Value.slice a3 (1 + 5 * k) c3).ownBlock → ∀ (ii : Nat), ii < 25 → ii ≠ 23 → ([[], [], [], [1, 2], [1, 2, 3], [1, 2, 3, 4], [1, 2, 3, 4, 5], [1, 2, 3, 4, 5, 6], [], [], [8, 9], [8, 9, 10], [8, 9, 10, 11], [8, 9, 10, 11, 12], [8, 9, 10, 11, 12, 13], [], [], [16], [16, 17], [], [19], [19, 20], [1, 2, 3, 4, 5, 6, 7, 8, 9, 10, 11, 12, 13, 14, 15, 16, 17, 18, 19, 20, 21], [0, 1, 2, 3, 4, 5, 6, 7, 8, 9, 10, 11, 12, 13, 14, 15, 16, 17, 18, 19, 20, 21, 22], [0, 1, 2, 3, 4, 5, 6, 7, 8, 9, 10, 11, 12, 13, 14, 15, 16, 17, 18, 19, 20, 21, 22, 23]].getD ii []).contains 23 = false → ∀ (own : Value) (ys : Nat → Value), (match ii with | 0 => own = .slice a3 (1 + 5 * k) c3 | 1 => own = .slice (some ⟨b1, o1, none⟩) n c | 2 => own = .int .i64 k | 3 => own = .pointer (some ⟨b1, o1 + k * 3, none⟩) | 4 => own = .pointer (some ⟨b1, o1 + k * 3, none⟩) | 5 => own = .int .i64 tm | 6 => own = .int .i64 q1 | 7 => own = .int .u8 q1 | 8 => own = .slice (some ⟨b1, o1, none⟩) n c | 9 => own = .int .i64 k | 10 => own = .pointer (some ⟨b1, o1 + k * 3, none⟩) | 11 => own = .pointer (some ⟨b1, o1 + k * 3, none⟩) | 12 => own = .int .i64 tm | 13 => own = .int .i64 r1' | 14 => own = .int .u8 r1' | 15 => own = .int .u8 0 | 16 => own = .int .i64 nn | 17 => own = .int .i64 q2 | 18 => own = .int .u8 q2 | 19 => own = .int .i64 nn | 20 => own = .int .i64 r2 | 21 => own = .int .u8 r2 | 22 => ∃ (q : Nat), own = .slice (some ⟨q, 0, none⟩) 5 5 ∧ wx.ownsRow w1.heap.size 5 1 (.slice (some ⟨q, 0, none⟩) 5 5) 5 [.int .u8 q1, .int .u8 r1', .int .u8 0, .int .u8 q2, .int .u8 r2] ∧ wr.heap.size ≤ q | 23 => ∃ (ax : Option Addr) (cx : Nat), own = .slice ax (1 + 5 * k + 5) cx ∧ wx.ownsRow w1.heap.size 5 1 (.slice ax (1 + 5 * k + 5) cx) (1 + 5 * k + 5) ((W ++ [q1, r1', 0, q2, r2]).map (Value.int .u8)) | 24 => ∃ (ax : Option Addr) (cx : Nat), own = .slice ax (1 + 5 * k + 5) cx ∧ wx.ownsRow w1.heap.size 5 1 (.slice ax (1 + 5 * k + 5) cx) (1 + 5 * k + 5) ((W ++ [q1, r1', 0, q2, r2]).map (Value.int .u8)) | _ => True) → (match ii with | 0 => own = .slice a3 (1 + 5 * k) c3 | 1 => own = .slice (some ⟨b1, o1, none⟩) n c | 2 => own = .int .i64 k | 3 => own = .pointer (some ⟨b1, o1 + k * 3, none⟩) | 4 => own = .pointer (some ⟨b1, o1 + k * 3, none⟩) | 5 => own = .int .i64 tm | 6 => own = .int .i64 q1 | 7 => own = .int .u8 q1 | 8 => own = .slice (some ⟨b1, o1, none⟩) n c | 9 => own = .int .i64 k | 10 => own = .pointer (some ⟨b1, o1 + k * 3, none⟩) | 11 => own = .pointer (some ⟨b1, o1 + k * 3, none⟩) | 12 => own = .int .i64 tm | 13 => own = .int .i64 r1' | 14 => own = .int .u8 r1' | 15 => own = .int .u8 0 | 16 => own = .int .i64 nn | 17 => own = .int .i64 q2 | 18 => own = .int .u8 q2 | 19 => own = .int .i64 nn | 20 => own = .int .i64 r2 | 21 => own = .int .u8 r2 | 22 => ∃ (q : Nat), own = .slice (some ⟨q, 0, none⟩) 5 5 ∧ wy.ownsRow w1.heap.size 5 1 (.slice (some ⟨q, 0, none⟩) 5 5) 5 [.int .u8 q1, .int .u8 r1', .int .u8 0, .int .u8 q2, .int .u8 r2] ∧ wr.heap.size ≤ q | 23 => ∃ (ax : Option Addr) (cx : Nat), own = .slice ax (1 + 5 * k + 5) cx ∧ wy.ownsRow w1.heap.size 5 1 (.slice ax (1 + 5 * k + 5) cx) (1 + 5 * k + 5) ((W ++ [q1, r1', 0, q2, r2]).map (Value.int .u8)) | 24 => ∃ (ax : Option Addr) (cx : Nat), own = .slice ax (1 + 5 * k + 5) cx ∧ wy.ownsRow w1.heap.size 5 1 (.slice ax (1 + 5 * k + 5) cx) (1 + 5 * k + 5) ((W ++ [q1, r1', 0, q2, r2]).map (Value.int .u8)) | _ => True) := by
              intro wy hy ii hii hne hc own ys h
              match ii, h with
              | 0, h => exact h
              | 1, h => exact h
              | 2, h => exact h
              | 3, h => exact h
              | 4, h => exact h
              | 5, h => exact h
              | 6, h => exact h
              | 7, h => exact h
              | 8, h => exact h
              | 9, h => exact h
              | 10, h => exact h
              | 11, h => exact h
              | 12, h => exact h
              | 13, h => exact h
              | 14, h => exact h
              | 15, h => exact h
              | 16, h => exact h
              | 17, h => exact h
              | 18, h => exact h
              | 19, h => exact h
              | 20, h => exact h
              | 21, h => exact h
              | 22, h => obtain ⟨q, h1, h2, h3⟩ := h; exact ⟨q, h1, h2.kept hy (.inr (fun e => by have := Hlt3.out q e.symm; omega)), h3⟩
              | 23, h => exact absurd rfl hne
              | 24, h => exact absurd hc (by decide)
              | _ + 25, _ => trivial
            exact hQo _ _ (hK.out _ _ ⟨⟨_, _, rfl, by rw [List.map_append]; exact own14⟩, ⟨Ext.grown hG.1 gr14 (owns_ge hG.2.1), keep14 _ _ _ _ (by omega) hG.2.1, Nat.le_trans hG.2.2 gr14.size⟩, hst _ gr14⟩)
          · intro kx xs wx hk hG hD hI Qo Kx hK hQo
            have d23 : ∃ (ax : Option Addr) (cx : Nat), (xs 23) = .slice ax (1 + 5 * k + 5) cx ∧ wx.ownsRow w1.heap.size 5 1 (.slice ax (1 + 5 * k + 5) cx) (1 + 5 * k + 5) ((W ++ [q1, r1', 0, q2, r2]).map (Value.int .u8)) := hD 23 rfl
            clear hD
            clear hI
            simp only [patchS, Nat.reduceAdd, Nat.reduceEqDiff, ↓reduceIte] at hQo ⊢
            generalize xs 23 = y23 at *
            obtain ⟨a8, c8, rfl, o8⟩ := d23
            go_wp2
            exact hK.out _ _ ⟨⟨_, _, rfl, o8⟩, hG, fun _ _ _ _ _ _ h => h⟩
        clear Hext
        intro xs wx hV hG
        have d0 : (xs 0) = .slice a3 (1 + 5 * k) c3 := hV 0 (by decide)
        have d1 : (xs 1) = .slice (some ⟨b1, o1, none⟩) n c := hV 1 (by decide)
        have d2 : (xs 2) = .int .i64 k := hV 2 (by decide)
        have d3 : (xs 3) = .pointer (some ⟨b1, o1 + k * 3, none⟩) := hV 3 (by decide)
        have d4 : (xs 4) = .pointer (some ⟨b1, o1 + k * 3, none⟩) := hV 4 (by decide)
        have d5 : (xs 5) = .int .i64 tm := hV 5 (by decide)
        have d6 : (xs 6) = .int .i64 q1 := hV 6 (by decide)
        have d7 : (xs 7) = .int .u8 q1 := hV 7 (by decide)
        have d8 : (xs 8) = .slice (some ⟨b1, o1, none⟩) n c := hV 8 (by decide)
        have d9 : (xs 9) = .int .i64 k := hV 9 (by decide)
        have d10 : (xs 10) = .pointer (some ⟨b1, o1 + k * 3, none⟩) := hV 10 (by decide)
        have d11 : (xs 11) = .pointer (some ⟨b1, o1 + k * 3, none⟩) := hV 11 (by decide)
        have d12 : (xs 12) = .int .i64 tm := hV 12 (by decide)
        have d13 : (xs 13) = .int .i64 r1' := hV 13 (by decide)
        have d14 : (xs 14) = .int .u8 r1' := hV 14 (by decide)
        have d15 : (xs 15) = .int .u8 0 := hV 15 (by decide)
        have d16 : (xs 16) = .int .i64 nn := hV 16 (by decide)
        have d17 : (xs 17) = .int .i64 q2 := hV 17 (by decide)
        have d18 : (xs 18) = .int .u8 q2 := hV 18 (by decide)
        have d19 : (xs 19) = .int .i64 nn := hV 19 (by decide)
        have d20 : (xs 20) = .int .i64 r2 := hV 20 (by decide)
        have d21 : (xs 21) = .int .u8 r2 := hV 21 (by decide)
        have d22 : ∃ (q : Nat), (xs 22) = .slice (some ⟨q, 0, none⟩) 5 5 ∧ wx.ownsRow w1.heap.size 5 1 (.slice (some ⟨q, 0, none⟩) 5 5) 5 [.int .u8 q1, .int .u8 r1', .int .u8 0, .int .u8 q2, .int .u8 r2] ∧ wr.heap.size ≤ q := hV 22 (by decide)
        have d23 : ∃ (ax : Option Addr) (cx : Nat), (xs 23) = .slice ax (1 + 5 * k + 5) cx ∧ wx.ownsRow w1.heap.size 5 1 (.slice ax (1 + 5 * k + 5) cx) (1 + 5 * k + 5) ((W ++ [q1, r1', 0, q2, r2]).map (Value.int .u8)) := hV 23 (by decide)
        have d24 : ∃ (ax : Option Addr) (cx : Nat), (xs 24) = .slice ax (1 + 5 * k + 5) cx ∧ wx.ownsRow w1.heap.size 5 1 (.slice ax (1 + 5 * k + 5) cx) (1 + 5 * k + 5) ((W ++ [q1, r1', 0, q2, r2]).map (Value.int .u8)) := hV 24 (by decide)
        clear hV
        simp only [patchS, Nat.reduceAdd, Nat.reduceEqDiff, ↓reduceIte]
        generalize xs 0 = y0 at *
        generalize xs 1 = y1 at *
        generalize xs 2 = y2 at *
        generalize xs 3 = y3 at *
        generalize xs 4 = y4 at *
        generalize xs 5 = y5 at *
        generalize xs 6 = y6 at *
        generalize xs 7 = y7 at *
        generalize xs 8 = y8 at *
        generalize xs 9 = y9 at *
        generalize xs 10 = y10 at *
        generalize xs 11 = y11 at *
        generalize xs 12 = y12 at *
        generalize xs 13 = y13 at *
        generalize xs 14 = y14 at *
        generalize xs 15 = y15 at *
        generalize xs 16 = y16 at *
        generalize xs 17 = y17 at *
        generalize xs 18 = y18 at *
        generalize xs 19 = y19 at *
        generalize xs 20 = y20 at *
        generalize xs 21 = y21 at *
        generalize xs 22 = y22 at *
        generalize xs 23 = y23 at *
        generalize xs 24 = y24 at *
        replace hG : Ext w1 wx ∧ wx.ownsRow w1.heap.size 5 1 (.slice a3 (1 + 5 * k) c3) (1 + 5 * k) (W.map (Value.int .u8)) ∧ wr.heap.size ≤ wx.heap.size := hG
        clear d0 d1 d2 d3 d4 d5 d6 d7 d8 d9 d10 d11 d12 d13 d14 d15 d16 d17 d18 d19 d20 d21 d22 d23
        obtain ⟨a9, c9, rfl, o9⟩ := d24
        obtain ⟨EW, -, -⟩ := hG
        have hlen6 : 1 + 5 * k + 5 = 1 + 5 * (k + 1) := by omega
        rw [hlen6] at o9
        rw [← hW.out] at o9
        clear o3 E3
        go_wp2_with fail
        go_roundw
        case rel => exact ⟨k + 1, by omega, by go_num, EW, o9⟩
        case measure => simp [intOf]; omega
      · change Hid (wpre L (k + 1) = W ++ [q1, r1', 1, q2, r2]) at hW
        go_wp2_with fail
        have hext : ∀ (i : Nat) (own : Value) (ys : Nat → Value) (wa wb : World), Ext wa wb → (match i with | 0 => own = .slice a3 (1 + 5 * k) c3 | 1 => own = .slice (some ⟨b1, o1, none⟩) n c | 2 => own = .int .i64 k | 3 => own = .pointer (some ⟨b1, o1 + k * 3, none⟩) | 4 => own = .pointer (some ⟨b1, o1 + k * 3, none⟩) | 5 => own = .int .i64 tm | 6 => own = .int .i64 q1 | 7 => own = .int .u8 q1 | 8 => own = .slice (some ⟨b1, o1, none⟩) n c | 9 => own = .int .i64 k | 10 => own = .pointer (some ⟨b1, o1 + k * 3, none⟩) | 11 => own = .pointer (some ⟨b1, o1 + k * 3, none⟩) | 12 => own = .int .i64 tm | 13 => own = .int .i64 r1' | 14 => own = .int .u8 r1' | 15 => own = .int .u8 1 | 16 => own = .int .i64 nn | 17 => own = .int .i64 q2 | 18 => own = .int .u8 q2 | 19 => own = .int .i64 nn | 20 => own = .int .i64 r2 | 21 => own = .int .u8 r2 | 22 => ∃ (q : Nat), own = .slice (some ⟨q, 0, none⟩) 5 5 ∧ wa.ownsRow w1.heap.size 5 1 (.slice (some ⟨q, 0, none⟩) 5 5) 5 [.int .u8 q1, .int .u8 r1', .int .u8 1, .int .u8 q2, .int .u8 r2] ∧ wr.heap.size ≤ q | 23 => ∃ (ax : Option Addr) (cx : Nat), own = .slice ax (1 + 5 * k + 5) cx ∧ wa.ownsRow w1.heap.size 5 1 (.slice ax (1 + 5 * k + 5) cx) (1 + 5 * k + 5) ((W ++ [q1, r1', 1, q2, r2]).map (Value.int .u8)) | 24 => ∃ (ax : Option Addr) (cx : Nat), own = .slice ax (1 + 5 * k + 5) cx ∧ wa.ownsRow w1.heap.size 5 1 (.slice ax (1 + 5 * k + 5) cx) (1 + 5 * k + 5) ((W ++ [q1, r1', 1, q2, r2]).map (Value.int .u8)) | _ => True) → (match i with | 0 => own = .slice a3 (1 + 5 * k) c3 | 1 => own = .slice (some ⟨b1, o1, none⟩) n c | 2 => own = .int .i64 k | 3 => own = .pointer (some ⟨b1, o1 + k * 3, none⟩) | 4 => own = .pointer (some ⟨b1, o1 + k * 3, none⟩) | 5 => own = .int .i64 tm | 6 => own = .int .i64 q1 | 7 => own = .int .u8 q1 | 8 => own = .slice (some ⟨b1, o1, none⟩) n c | 9 => own = .int .i64 k | 10 => own = .pointer (some ⟨b1, o1 + k * 3, none⟩) | 11 => own = .pointer (some ⟨b1, o1 + k * 3, none⟩) | 12 => own = .int .i64 tm | 13 => own = .int .i64 r1' | 14 => own = .int .u8 r1' | 15 => own = .int .u8 1 | 16 => own = .int .i64 nn | 17 => own = .int .i64 q2 | 18 => own = .int .u8 q2 | 19 => own = .int .i64 nn | 20 => own = .int .i64 r2 | 21 => own = .int .u8 r2 | 22 => ∃ (q : Nat), own = .slice (some ⟨q, 0, none⟩) 5 5 ∧ wb.ownsRow w1.heap.size 5 1 (.slice (some ⟨q, 0, none⟩) 5 5) 5 [.int .u8 q1, .int .u8 r1', .int .u8 1, .int .u8 q2, .int .u8 r2] ∧ wr.heap.size ≤ q | 23 => ∃ (ax : Option Addr) (cx : Nat), own = .slice ax (1 + 5 * k + 5) cx ∧ wb.ownsRow w1.heap.size 5 1 (.slice ax (1 + 5 * k + 5) cx) (1 + 5 * k + 5) ((W ++ [q1, r1', 1, q2, r2]).map (Value.int .u8)) | 24 => ∃ (ax : Option Addr) (cx : Nat), own = .slice ax (1 + 5 * k + 5) cx ∧ wb.ownsRow w1.heap.size 5 1 (.slice ax (1 + 5 * k + 5) cx) (1 + 5 * k + 5) ((W ++ [q1, r1', 1, q2, r2]).map (Value.int .u8)) | _ => True) := by
          intro i own ys wa wb e h
          match i, h with
          | 0, h => exact h
          | 1, h => exact h
          | 2, h => exact h
          | 3, h => exact h
          | 4, h => exact h
          | 5, h => exact h
          | 6, h => exact h
          | 7, h => exact h
          | 8, h => exact h
          | 9, h => exact h
          | 10, h => exact h
          | 11, h => exact h
          | 12, h => exact h
          | 13, h => exact h
          | 14, h => exact h
          | 15, h => exact h
          | 16, h => exact h
          | 17, h => exact h
          | 18, h => exact h
          | 19, h => exact h
          | 20, h => exact h
          | 21, h => exact h
          | 22, h => obtain ⟨q, h1, h2, h3⟩ := h; exact ⟨q, h1, owns_ext h2 e, h3⟩
          | 23, h => obtain ⟨a2, c2, h1, h2⟩ := h; exact ⟨a2, c2, h1, owns_ext h2 e⟩
          | 24, h => obtain ⟨a2, c2, h1, h2⟩ := h; exact ⟨a2, c2, h1, owns_ext h2 e⟩
          | _ + 25, _ => trivial
        have Hext := Lib.hid hext
        clear hext
        refine wp_region_inv2 (by kernel_rfl) [(3, 24), (33, 0), (34, 1), (35, 2), (36, 3), (37, 4), (38, 5), (39, 6), (40, 7), (41, 8), (42, 9), (43, 10), (44, 11), (45, 12), (46, 13), (47, 14), (48, 15), (49, 16), (50, 17), (51, 18), (52, 19), (53, 20), (54, 21), (55, 22), (56, 23)] [[], [], [], [1, 2], [1, 2, 3], [1, 2, 3, 4], [1, 2, 3, 4, 5], [1, 2, 3, 4, 5, 6], [], [], [8, 9], [8, 9, 10], [8, 9, 10, 11], [8, 9, 10, 11, 12], [8, 9, 10, 11, 12, 13], [], [], [16], [16, 17], [], [19], [19, 20], [1, 2, 3, 4, 5, 6, 7, 8, 9, 10, 11, 12, 13, 14, 15, 16, 17, 18, 19, 20, 21], [0, 1, 2, 3, 4, 5, 6, 7, 8, 9, 10, 11, 12, 13, 14, 15, 16, 17, 18, 19, 20, 21, 22], [0, 1, 2, 3, 4, 5, 6, 7, 8, 9, 10, 11, 12, 13, 14, 15, 16, 17, 18, 19, 20, 21, 22, 23]] (fun i own ys wx => match i with | 0 => own = .slice a3 (1 + 5 * k) c3 | 1 => own = .slice (some ⟨b1, o1, none⟩) n c | 2 => own = .int .i64 k | 3 => own = .pointer (some ⟨b1, o1 + k * 3, none⟩) | 4 => own = .pointer (some ⟨b1, o1 + k * 3, none⟩) | 5 => own = .int .i64 tm | 6 => own = .int .i64 q1 | 7 => own = .int .u8 q1 | 8 => own = .slice (some ⟨b1, o1, none⟩) n c | 9 => own = .int .i64 k | 10 => own = .pointer (some ⟨b1, o1 + k * 3, none⟩) | 11 => own = .pointer (some ⟨b1, o1 + k * 3, none⟩) | 12 => own = .int .i64 tm | 13 => own = .int .i64 r1' | 14 => own = .int .u8 r1' | 15 => own = .int .u8 1 | 16 => own = .int .i64 nn | 17 => own = .int .i64 q2 | 18 => own = .int .u8 q2 | 19 => own = .int .i64 nn | 20 => own = .int .i64 r2 | 21 => own = .int .u8 r2 | 22 => ∃ (q : Nat), own = .slice (some ⟨q, 0, none⟩) 5 5 ∧ wx.ownsRow w1.heap.size 5 1 (.slice (some ⟨q, 0, none⟩) 5 5) 5 [.int .u8 q1, .int .u8 r1', .int .u8 1, .int .u8 q2, .int .u8 r2] ∧ wr.heap.size ≤ q | 23 => ∃ (ax : Option Addr) (cx : Nat), own = .slice ax (1 + 5 * k + 5) cx ∧ wx.ownsRow w1.heap.size 5 1 (.slice ax (1 + 5 * k + 5) cx) (1 + 5 * k + 5) ((W ++ [q1, r1', 1, q2, r2]).map (Value.int .u8)) | 24 => ∃ (ax : Option Addr) (cx : Nat), own = .slice ax (1 + 5 * k + 5) cx ∧ wx.ownsRow w1.heap.size 5 1 (.slice ax (1 + 5 * k + 5) cx) (1 + 5 * k + 5) ((W ++ [q1, r1', 1, q2, r2]).map (Value.int .u8)) | _ => True) (fun kx wx => Ext w1 wx ∧ wx.ownsRow w1.heap.size 5 1 (.slice a3 (1 + 5 * k) c3) (1 + 5 * k) (W.map (Value.int .u8)) ∧ wr.heap.size ≤ wx.heap.size) (by kernel_rfl) (by kernel_rfl) (by kernel_rfl) ?g0_r2 ?gop_r2 ?gend_r2
        case g0_r2 => exact ⟨E3.trans (Ext.drewN _ 1), owns_ext o3 (Ext.drewN _ 1), Nat.le_refl _⟩
        case gop_r2 =>
          refine ⟨?_, ?_, ?_, ?_, ?_, ?_, ?_, ?_, ?_, ?_, ?_, ?_, ?_, ?_, ?_, ?_, ?_, ?_, ?_, ?_, ?_, ?_, ?_, ?_, ?_, trivial⟩
          · intro kx xs wx hk hG hD hI Qo Kx hK hQo
            clear hD
            have i24 := hI 24 3 rfl rfl
            simp only [List.getD_cons_succ, List.getD_cons_zero] at i24
            clear hI
            simp only [patchS, Nat.reduceAdd, Nat.reduceEqDiff, ↓reduceIte] at hQo ⊢
            rw [i24] at hQo ⊢
            clear i24
            go_wp2
            exact hK.out _ _ ⟨rfl, hG, fun _ _ _ _ _ _ h => h⟩
          · intro kx xs wx hk hG hD hI Qo Kx hK hQo
            clear hD
            clear hI
            simp only [patchS, Nat.reduceAdd, Nat.reduceEqDiff, ↓reduceIte] at hQo ⊢
            go_wp2
            exact hK.out _ _ ⟨rfl, hG, fun _ _ _ _ _ _ h => h⟩
          · intro kx xs wx hk hG hD hI Qo Kx hK hQo
            clear hD
            clear hI
            simp only [patchS, Nat.reduceAdd, Nat.reduceEqDiff, ↓reduceIte] at hQo ⊢
            go_wp2
            exact hK.out _ _ ⟨rfl, hG, fun _ _ _ _ _ _ h => h⟩
          · intro kx xs wx hk hG hD hI Qo Kx hK hQo
            have d1 : (xs 1) = .slice (some ⟨b1, o1, none⟩) n c := hD 1 rfl
            have d2 : (xs 2) = .int .i64 k := hD 2 rfl
            clear hD
            clear hI
            simp only [patchS, Nat.reduceAdd, Nat.reduceEqDiff, ↓reduceIte] at hQo ⊢
            generalize xs 1 = y1 at *
            generalize xs 2 = y2 at *
            subst d1
            subst d2
            go_wp2
            exact hK.out _ _ ⟨rfl, hG, fun _ _ _ _ _ _ h => h⟩
          · intro kx xs wx hk hG hD hI Qo Kx hK hQo
            have d3 : (xs 3) = .pointer (some ⟨b1, o1 + k * 3, none⟩) := hD 3 rfl
            clear hD
            clear hI
            simp only [patchS, Nat.reduceAdd, Nat.reduceEqDiff, ↓reduceIte] at hQo ⊢
            generalize xs 3 = y3 at *
            subst d3
            go_wp2
            exact hK.out _ _ ⟨rfl, hG, fun _ _ _ _ _ _ h => h⟩
          · intro kx xs wx hk hG hD hI Qo Kx hK hQo
            have d4 : (xs 4) = .pointer (some ⟨b1, o1 + k * 3, none⟩) := hD 4 rfl
            clear hD
            clear hI
            simp only [patchS, Nat.reduceAdd, Nat.reduceEqDiff, ↓reduceIte] at hQo ⊢
            generalize xs 4 = y4 at *
            subst d4
            have k0 := cell_ext hG.1 g0
            go_wp2
            exact hK.out _ _ ⟨rfl, hG, fun _ _ _ _ _ _ h => h⟩
          · intro kx xs wx hk hG hD hI Qo Kx hK hQo
            have d5 : (xs 5) = .int .i64 tm := hD 5 rfl
            clear hD
            clear hI
            simp only [patchS, Nat.reduceAdd, Nat.reduceEqDiff, ↓reduceIte] at hQo ⊢
            generalize xs 5 = y5 at *
            subst d5
            go_wp2
            exact hK.out _ _ ⟨rfl, hG, fun _ _ _ _ _ _ h => h⟩
          · intro kx xs wx hk hG hD hI Qo Kx hK hQo
            have d6 : (xs 6) = .int .i64 q1 := hD 6 rfl
            clear hD
            clear hI
            simp only [patchS, Nat.reduceAdd, Nat.reduceEqDiff, ↓reduceIte] at hQo ⊢
            generalize xs 6 = y6 at *
            subst d6
            go_wp2
            exact hK.out _ _ ⟨rfl, hG, fun _ _ _ _ _ _ h => h⟩
          · intro kx xs wx hk hG hD hI Qo Kx hK hQo
            clear hD
            clear hI
            simp only [patchS, Nat.reduceAdd, Nat.reduceEqDiff, ↓reduceIte] at hQo ⊢
            go_wp2
            exact hK.out _ _ ⟨rfl, hG, fun _ _ _ _ _ _ h => h⟩
          · intro kx xs wx hk hG hD hI Qo Kx hK hQo
            clear hD
            clear hI
            simp only [patchS, Nat.reduceAdd, Nat.reduceEqDiff, ↓reduceIte] at hQo ⊢
            go_wp2
            exact hK.out _ _ ⟨rfl, hG, fun _ _ _ _ _ _ h => h⟩
          · intro kx xs wx hk hG hD hI Qo Kx hK hQo
            have d8 : (xs 8) = .slice (some ⟨b1, o1, none⟩) n c := hD 8 rfl
            have d9 : (xs 9) = .int .i64 k := hD 9 rfl
            clear hD
            clear hI
            simp only [patchS, Nat.reduceAdd, Nat.reduceEqDiff, ↓reduceIte] at hQo ⊢
            generalize xs 8 = y8 at *
            generalize xs 9 = y9 at *
            subst d8
            subst d9
            go_wp2
            exact hK.out _ _ ⟨rfl, hG, fun _ _ _ _ _ _ h => h⟩
          · intro kx xs wx hk hG hD hI Qo Kx hK hQo
            have d10 : (xs 10) = .pointer (some ⟨b1, o1 + k * 3, none⟩) := hD 10 rfl
            clear hD
            clear hI
            simp only [patchS, Nat.reduceAdd, Nat.reduceEqDiff, ↓reduceIte] at hQo ⊢
            generalize xs 10 = y10 at *
            subst d10
            go_wp2
            exact hK.out _ _ ⟨rfl, hG, fun _ _ _ _ _ _ h => h⟩
          · intro kx xs wx hk hG hD hI Qo Kx hK hQo
            have d11 : (xs 11) = .pointer (some ⟨b1, o1 + k * 3, none⟩) := hD 11 rfl
            clear hD
            clear hI
            simp only [patchS, Nat.reduceAdd, Nat.reduceEqDiff, ↓reduceIte] at hQo ⊢
            generalize xs 11 = y11 at *
            subst d11
            have k0 := cell_ext hG.1 g0
            go_wp2
            exact hK.out _ _ ⟨rfl, hG, fun _ _ _ _ _ _ h => h⟩
          · intro kx xs wx hk hG hD hI Qo Kx hK hQo
            have d12 : (xs 12) = .int .i64 tm := hD 12 rfl
            clear hD
            clear hI
            simp only [patchS, Nat.reduceAdd, Nat.reduceEqDiff, ↓reduceIte] at hQo ⊢
            generalize xs 12 = y12 at *
            subst d12
            go_wp2
            exact hK.out _ _ ⟨rfl, hG, fun _ _ _ _ _ _ h => h⟩
          · intro kx xs wx hk hG hD hI Qo Kx hK hQo
            have d13 : (xs 13) = .int .i64 r1' := hD 13 rfl
            clear hD
            clear hI
            simp only [patchS, Nat.reduceAdd, Nat.reduceEqDiff, ↓reduceIte] at hQo ⊢
            generalize xs 13 = y13 at *
            subst d13
            go_wp2
            exact hK.out _ _ ⟨rfl, hG, fun _ _ _ _ _ _ h => h⟩
          · intro kx xs wx hk hG hD hI Qo Kx hK hQo
            clear hD
            clear hI
            simp only [patchS, Nat.reduceAdd, Nat.reduceEqDiff, ↓reduceIte] at hQo ⊢
            go_wp2
            exact hK.out _ _ ⟨rfl, hG, fun _ _ _ _ _ _ h => h⟩
          · intro kx xs wx hk hG hD hI Qo Kx hK hQo
            clear hD
            clear hI
            simp only [patchS, Nat.reduceAdd, Nat.reduceEqDiff, ↓reduceIte] at hQo ⊢
            go_wp2
            exact hK.out _ _ ⟨rfl, hG, fun _ _ _ _ _ _ h => h⟩
          · intro kx xs wx hk hG hD hI Qo Kx hK hQo
            have d16 : (xs 16) = .int .i64 nn := hD 16 rfl
            clear hD
            clear hI
            simp only [patchS, Nat.reduceAdd, Nat.reduceEqDiff, ↓reduceIte] at hQo ⊢
            generalize xs 16 = y16 at *
            subst d16
            go_wp2
            exact hK.out _ _ ⟨rfl, hG, fun _ _ _ _ _ _ h => h⟩
          · intro kx xs wx hk hG hD hI Qo Kx hK hQo
            have d17 : (xs 17) = .int .i64 q2 := hD 17 rfl
            clear hD
            clear hI
            simp only [patchS, Nat.reduceAdd, Nat.reduceEqDiff, ↓reduceIte] at hQo ⊢
            generalize xs 17 = y17 at *
            subst d17
            go_wp2
            exact hK.out _ _ ⟨rfl, hG, fun _ _ _ _ _ _ h => h⟩
          · intro kx xs wx hk hG hD hI Qo Kx hK hQo
            clear hD
            clear hI
            simp only [patchS, Nat.reduceAdd, Nat.reduceEqDiff, ↓reduceIte] at hQo ⊢
            go_wp2
            exact hK.out _ _ ⟨rfl, hG, fun _ _ _ _ _ _ h => h⟩
          · intro kx xs wx hk hG hD hI Qo Kx hK hQo
            have d19 : (xs 19) = .int .i64 nn := hD 19 rfl
            clear hD
            clear hI
            simp only [patchS, Nat.reduceAdd, Nat.reduceEqDiff, ↓reduceIte] at hQo ⊢
            generalize xs 19 = y19 at *
            subst d19
            go_wp2
            exact hK.out _ _ ⟨rfl, hG, fun _ _ _ _ _ _ h => h⟩
          · intro kx xs wx hk hG hD hI Qo Kx hK hQo
            have d20 : (xs 20) = .int .i64 r2 := hD 20 rfl
            clear hD
            clear hI
            simp only [patchS, Nat.reduceAdd, Nat.reduceEqDiff, ↓reduceIte] at hQo ⊢
            generalize xs 20 = y20 at *
            subst d20
            go_wp2
            exact hK.out _ _ ⟨rfl, hG, fun _ _ _ _ _ _ h => h⟩
          · intro kx xs wx hk hG hD hI Qo Kx hK hQo
            have d7 : (xs 7) = .int .u8 q1 := hD 7 rfl
            have d14 : (xs 14) = .int .u8 r1' := hD 14 rfl
            have d15 : (xs 15) = .int .u8 1 := hD 15 rfl
            have d18 : (xs 18) = .int .u8 q2 := hD 18 rfl
            have d21 : (xs 21) = .int .u8 r2 := hD 21 rfl
            clear hD
            clear hI
            simp only [patchS, Nat.reduceAdd, Nat.reduceEqDiff, ↓reduceIte] at hQo ⊢
            generalize xs 7 = y7 at *
            generalize xs 14 = y14 at *
            generalize xs 15 = y15 at *
            generalize xs 18 = y18 at *
            generalize xs 21 = y21 at *
            subst d7
            subst d14
            subst d15
            subst d18
            subst d21
            have e5 := Ext.alloc wx (.cells #[.int .u8 q1, .int .u8 r1', .int .u8 1, .int .u8 q2, .int .u8 r2] 5)
            have o5 := World.ownsRow_lit (base := w1.heap.size) (e := 5) (size := 1) wx #[.int .u8 q1, .int .u8 r1', .int .u8 1, .int .u8 q2, .int .u8 r2] 5 hG.1.size (by unfold maxLen; omega) rfl
            go_wp2
            exact hK.out _ _ ⟨⟨_, rfl, o5, hG.2.2⟩, ⟨hG.1.trans e5, owns_ext hG.2.1 e5, Nat.le_trans hG.2.2 e5.size⟩, fun i _ _ _ own ys h => Hext.out i own ys _ _ e5 h⟩
          · intro kx xs wx hk hG hD hI Qo Kx hK hQo
            have d0 : (xs 0) = .slice a3 (1 + 5 * k) c3 := hD 0 rfl
            have d22 : ∃ (q : Nat), (xs 22) = .slice (some ⟨q, 0, none⟩) 5 5 ∧ wx.ownsRow w1.heap.size 5 1 (.slice (some ⟨q, 0, none⟩) 5 5) 5 [.int .u8 q1, .int .u8 r1', .int .u8 1, .int .u8 q2, .int .u8 r2] ∧ wr.heap.size ≤ q := hD 22 rfl
            clear hD
            clear hI
            simp only [patchS, Nat.reduceAdd, Nat.reduceEqDiff, ↓reduceIte] at hQo ⊢
            generalize xs 0 = y0 at *
            generalize xs 22 = y22 at *
            subst d0
            obtain ⟨q, rfl, o10, hq10⟩ := d22
            refine wpList_appk _ rfl hG.2.1 hG.1.size _ _ _ rfl (.int .u8 0) 1 Tryd.underlying22 info_uint8 rfl (by decide) rfl ⟨q, 0, none⟩ 5 5 _ rfl rfl (o10.cells rfl) (by intro u hu; simp at hu; rcases hu with rfl | rfl | rfl | rfl | rfl <;> rfl) (by omega) (by omega) ?_
            intro v14 w14 own14 gr14 keep14
            obtain ⟨a14, c14, rfl⟩ := owns_form own14
            have hst : ∀ (wy : World), wx.grownBy wy (Value.slice a3 (1 + 5 * k) c3).ownBlock → ∀ (ii : Nat), ii < 25 → ii ≠ 23 → ([[], [], [], [1, 2], [1, 2, 3], [1, 2, 3, 4], [1, 2, 3, 4, 5], [1, 2, 3, 4, 5, 6], [], [], [8, 9], [8, 9, 10], [8, 9, 10, 11], [8, 9, 10, 11, 12], [8, 9, 10, 11, 12, 13], [], [], [16], [16, 17], [], [19], [19, 20], [1, 2, 3, 4, 5, 6, 7, 8, 9, 10, 11, 12, 13, 14, 15, 16, 17, 18, 19, 20, 21], [0, 1, 2, 3, 4, 5, 6, 7, 8, 9, 10, 11, 12, 13, 14, 15, 16, 17, 18, 19, 20, 21, 22], [0, 1, 2, 3, 4, 5, 6, 7, 8, 9, 10, 11, 12, 13, 14, 15, 16, 17, 18, 19, 20, 21, 22, 23]].getD ii []).contains 23 = false → ∀ (own : Value) (ys : Nat → Value), (match ii with | 0 => own = .slice a3 (1 + 5 * k) c3 | 1 => own = .slice (some ⟨b1, o1, none⟩) n c | 2 => own = .int .i64 k | 3 => own = .pointer (some ⟨b1, o1 + k * 3, none⟩) | 4 => own = .pointer (some ⟨b1, o1 + k * 3, none⟩) | 5 => own = .int .i64 tm | 6 => own = .int .i64 q1 | 7 => own = .int .u8 q1 | 8 => own = .slice (some ⟨b1, o1, none⟩) n c | 9 => own = .int .i64 k | 10 => own = .pointer (some ⟨b1, o1 + k * 3, none⟩) | 11 => own = .pointer (some ⟨b1, o1 + k * 3, none⟩) | 12 => own = .int .i64 tm | 13 => own = .int .i64 r1' | 14 => own = .int .u8 r1' | 15 => own = .int .u8 1 | 16 => own = .int .i64 nn | 17 => own = .int .i64 q2 | 18 => own = .int .u8 q2 | 19 => own = .int .i64 nn | 20 => own = .int .i64 r2 | 21 => own = .int .u8 r2 | 22 => ∃ (q : Nat), own = .slice (some ⟨q, 0, none⟩) 5 5 ∧ wx.ownsRow w1.heap.size 5 1 (.slice (some ⟨q, 0, none⟩) 5 5) 5 [.int .u8 q1, .int .u8 r1', .int .u8 1, .int .u8 q2, .int .u8 r2] ∧ wr.heap.size ≤ q | 23 => ∃ (ax : Option Addr) (cx : Nat), own = .slice ax (1 + 5 * k + 5) cx ∧ wx.ownsRow w1.heap.size 5 1 (.slice ax (1 + 5 * k + 5) cx) (1 + 5 * k + 5) ((W ++ [q1, r1', 1, q2, r2]).map (Value.int .u8)) | 24 => ∃ (ax : Option Addr) (cx : Nat), own = .slice ax (1 + 5 * k + 5) cx ∧ wx.ownsRow w1.heap.size 5 1 (.slice ax (1 + 5 * k + 5) cx) (1 + 5 * k + 5) ((W ++ [q1, r1', 1, q2, r2]).map (Value.int .u8)) | _ => True) → (match ii with | 0 => own = .slice a3 (1 + 5 * k) c3 | 1 => own = .slice (some ⟨b1, o1, none⟩) n c | 2 => own = .int .i64 k | 3 => own = .pointer (some ⟨b1, o1 + k * 3, none⟩) | 4 => own = .pointer (some ⟨b1, o1 + k * 3, none⟩) | 5 => own = .int .i64 tm | 6 => own = .int .i64 q1 | 7 => own = .int .u8 q1 | 8 => own = .slice (some ⟨b1, o1, none⟩) n c | 9 => own = .int .i64 k | 10 => own = .pointer (some ⟨b1, o1 + k * 3, none⟩) | 11 => own = .pointer (some ⟨b1, o1 + k * 3, none⟩) | 12 => own = .int .i64 tm | 13 => own = .int .i64 r1' | 14 => own = .int .u8 r1' | 15 => own = .int .u8 1 | 16 => own = .int .i64 nn | 17 => own = .int .i64 q2 | 18 => own = .int .u8 q2 | 19 => own = .int .i64 nn | 20 => own = .int .i64 r2 | 21 => own = .int .u8 r2 | 22 => ∃ (q : Nat), own = .slice (some ⟨q, 0, none⟩) 5 5 ∧ wy.ownsRow w1.heap.size 5 1 (.slice (some ⟨q, 0, none⟩) 5 5) 5 [.int .u8 q1, .int .u8 r1', .int .u8 1, .int .u8 q2, .int .u8 r2] ∧ wr.heap.size ≤ q | 23 => ∃ (ax : Option Addr) (cx : Nat), own = .slice ax (1 + 5 * k + 5) cx ∧ wy.ownsRow w1.heap.size 5 1 (.slice ax (1 + 5 * k + 5) cx) (1 + 5 * k + 5) ((W ++ [q1, r1', 1, q2, r2]).map (Value.int .u8)) | 24 => ∃ (ax : Option Addr) (cx : Nat), own = .slice ax (1 + 5 * k + 5) cx ∧ wy.ownsRow w1.heap.size 5 1 (.slice ax (1 + 5 * k + 5) cx) (1 + 5 * k + 5) ((W ++ [q1, r1', 1, q2, r2]).map (Value.int .u8)) | _ => True) := by
              intro wy hy ii hii hne hc own ys h
              match ii, h with
              | 0, h => exact h
              | 1, h => exact h
              | 2, h => exact h
              | 3, h => exact h
              | 4, h => exact h
              | 5, h => exact h
              | 6, h => exact h
              | 7, h => exact h
              | 8, h => exact h
              | 9, h => exact h
              | 10, h => exact h
              | 11, h => exact h
              | 12, h => exact h
              | 13, h => exact h
              | 14, h => exact h
              | 15, h => exact h
              | 16, h => exact h
              | 17, h => exact h
              | 18, h => exact h
              | 19, h => exact h
              | 20, h => exact h
              | 21, h => exact h
              | 22, h => obtain ⟨q, h1, h2, h3⟩ := h; exact ⟨q, h1, h2.kept hy (.inr (fun e => by have := Hlt3.out q e.symm; omega)), h3⟩
              | 23, h => exact absurd rfl hne
              | 24, h => exact absurd hc (by decide)
              | _ + 25, _ => trivial
            exact hQo _ _ (hK.out _ _ ⟨⟨_, _, rfl, by rw [List.map_append]; exact own14⟩, ⟨Ext.grown hG.1 gr14 (owns_ge hG.2.1), keep14 _ _ _ _ (by omega) hG.2.1, Nat.le_trans hG.2.2 gr14.size⟩, hst _ gr14⟩)
          · intro kx xs wx hk hG hD hI Qo Kx hK hQo
            have d23 : ∃ (ax : Option Addr) (cx : Nat), (xs 23) = .slice ax (1 + 5 * k + 5) cx ∧ wx.ownsRow w1.heap.size 5 1 (.slice ax (1 + 5 * k + 5) cx) (1 + 5 * k + 5) ((W ++ [q1, r1', 1, q2, r2]).map (Value.int .u8)) := hD 23 rfl
            clear hD
            clear hI
            simp only [patchS, Nat.reduceAdd, Nat.reduceEqDiff, ↓reduceIte] at hQo ⊢
            generalize xs 23 = y23 at *
            obtain ⟨a8, c8, rfl, o8⟩ := d23
            go_wp2
            exact hK.out _ _ ⟨⟨_, _, rfl, o8⟩, hG, fun _ _ _ _ _ _ h => h⟩
        clear Hext
        intro xs wx hV hG
        have d0 : (xs 0) = .slice a3 (1 + 5 * k) c3 := hV 0 (by decide)
        have d1 : (xs 1) = .slice (some ⟨b1, o1, none⟩) n c := hV 1 (by decide)
        have d2 : (xs 2) = .int .i64 k := hV 2 (by decide)
        have d3 : (xs 3) = .pointer (some ⟨b1, o1 + k * 3, none⟩) := hV 3 (by decide)
        have d4 : (xs 4) = .pointer (some ⟨b1, o1 + k * 3, none⟩) := hV 4 (by decide)
        have d5 : (xs 5) = .int .i64 tm := hV 5 (by decide)
        have d6 : (xs 6) = .int .i64 q1 := hV 6 (by decide)
        have d7 : (xs 7) = .int .u8 q1 := hV 7 (by decide)
        have d8 : (xs 8) = .slice (some ⟨b1, o1, none⟩) n c := hV 8 (by decide)
        have d9 : (xs 9) = .int .i64 k := hV 9 (by decide)
        have d10 : (xs 10) = .pointer (some ⟨b1, o1 + k * 3, none⟩) := hV 10 (by decide)
        have d11 : (xs 11) = .pointer (some ⟨b1, o1 + k * 3, none⟩) := hV 11 (by decide)
        have d12 : (xs 12) = .int .i64 tm := hV 12 (by decide)
        have d13 : (xs 13) = .int .i64 r1' := hV 13 (by decide)
        have d14 : (xs 14) = .int .u8 r1' := hV 14 (by decide)
        have d15 : (xs 15) = .int .u8 1 := hV 15 (by decide)
        have d16 : (xs 16) = .int .i64 nn := hV 16 (by decide)
        have d17 : (xs 17) = .int .i64 q2 := hV 17 (by decide)
        have d18 : (xs 18) = .int .u8 q2 := hV 18 (by decide)
        have d19 : (xs 19) = .int .i64 nn := hV 19 (by decide)
        have d20 : (xs 20) = .int .i64 r2 := hV 20 (by decide)
        have d21 : (xs 21) = .int .u8 r2 := hV 21 (by decide)
        have d22 : ∃ (q : Nat), (xs 22) = .slice (some ⟨q, 0, none⟩) 5 5 ∧ wx.ownsRow w1.heap.size 5 1 (.slice (some ⟨q, 0, none⟩) 5 5) 5 [.int .u8 q1, .int .u8 r1', .int .u8 1, .int .u8 q2, .int .u8 r2] ∧ wr.heap.size ≤ q := hV 22 (by decide)
        have d23 : ∃ (ax : Option Addr) (cx : Nat), (xs 23) = .slice ax (1 + 5 * k + 5) cx ∧ wx.ownsRow w1.heap.size 5 1 (.slice ax (1 + 5 * k + 5) cx) (1 + 5 * k + 5) ((W ++ [q1, r1', 1, q2, r2]).map (Value.int .u8)) := hV 23 (by decide)
        have d24 : ∃ (ax : Option Addr) (cx : Nat), (xs 24) = .slice ax (1 + 5 * k + 5) cx ∧ wx.ownsRow w1.heap.size 5 1 (.slice ax (1 + 5 * k + 5) cx) (1 + 5 * k + 5) ((W ++ [q1, r1', 1, q2, r2]).map (Value.int .u8)) := hV 24 (by decide)
        clear hV
        simp only [patchS, Nat.reduceAdd, Nat.reduceEqDiff, ↓reduceIte]
        generalize xs 0 = y0 at *
        generalize xs 1 = y1 at *
        generalize xs 2 = y2 at *
        generalize xs 3 = y3 at *
        generalize xs 4 = y4 at *
        generalize xs 5 = y5 at *
        generalize xs 6 = y6 at *
        generalize xs 7 = y7 at *
        generalize xs 8 = y8 at *
        generalize xs 9 = y9 at *
        generalize xs 10 = y10 at *
        generalize xs 11 = y11 at *
        generalize xs 12 = y12 at *
        generalize xs 13 = y13 at *
        generalize xs 14 = y14 at *
        generalize xs 15 = y15 at *
        generalize xs 16 = y16 at *
        generalize xs 17 = y17 at *
        generalize xs 18 = y18 at *
        generalize xs 19 = y19 at *
        generalize xs 20 = y20 at *
        generalize xs 21 = y21 at *
        generalize xs 22 = y22 at *
        generalize xs 23 = y23 at *
        generalize xs 24 = y24 at *
        replace hG : Ext w1 wx ∧ wx.ownsRow w1.heap.size 5 1 (.slice a3 (1 + 5 * k) c3) (1 + 5 * k) (W.map (Value.int .u8)) ∧ wr.heap.size ≤ wx.heap.size := hG
        clear d0 d1 d2 d3 d4 d5 d6 d7 d8 d9 d10 d11 d12 d13 d14 d15 d16 d17 d18 d19 d20 d21 d22 d23
        obtain ⟨a9, c9, rfl, o9⟩ := d24
        obtain ⟨EW, -, -⟩ := hG
        have hlen6 : 1 + 5 * k + 5 = 1 + 5 * (k + 1) := by omega
        rw [hlen6] at o9
        rw [← hW.out] at o9
        clear o3 E3
        go_wp2_with fail
        go_roundw
        case rel => exact ⟨k + 1, by omega, by go_num, EW, o9⟩
        case measure => simp [intOf]; omega
    · obtain rfl : k = n := by omega
      have hlw : (wall L 0).length = 1 + 5 * k := by rw [wall_zero, wpre_len L _ (Nat.le_refl _), HL.out]
      have o4 : wr.ownsRow w1.heap.size 5 1 u3 (wall L 0).length ((wall L 0).map (Value.int .u8)) := by rw [hlw, wall_zero, HL.out]; exact o3
      clear o3 hlw
      go_wp2_with fail
      go_loopw [3, 7] (fun v i wr => ∃ (j : Nat), j ≤ k ∧ i = .int .i64 j ∧ Ext w1 wr ∧ wr.ownsRow w1.heap.size 5 1 v (wall L j).length ((wall L j).map (Value.int .u8))) (fun _ i _ => k - (intOf i).toNat)
      case atStart => exact ⟨0, by omega, rfl, E3, o4⟩
      case round =>
        obtain ⟨j, hj, rfl, E5, o5⟩ := hrel
        clear o4 E3
        by_cases hlt2 : j < k
        · obtain ⟨b1, o1, rfl, aa, nn, cc, g0, g1, g2, s4, h5, h6, -⟩ := (r1.ext E5).2 j hlt2
          have hnn := s4.int_len
          have hW : Hid (wall L (j + 1) = wall L j ++ (sget L j).2.2) := Lib.hid (wall_succ L (by rw [HL.out]; exact hlt2))
          have hWl : (wall L j).length ≤ 600000 := wall_len L HV.out j (by rw [HL.out]; omega)
          have hnn5 : nn ≤ 5000 := by have := ((svalid_iff.1 HV.out).2 j (by rw [HL.out]; exact hlt2)).2.2.1; omega
          have hWn : Hid ((wall L (j + 1)).length = (wall L j).length + nn) := Lib.hid (by rw [hW.out, List.length_append, hnn])
          obtain ⟨a3, c3, rfl⟩ := owns_form o5
          have hsB := E5.size
          generalize (sget L j).2.2 = ds at *
          generalize (wall L j).length = Wl at *
          generalize wall L j = W at *
          clear hnn
          go_wp2_with (at_builtin; refine wpList_apps _ o5 hsB rfl _ _ 22 rfl (.int .u8 0) 1 Tryd.underlying22 info_uint8 rfl rfl aa nn cc _ rfl s4 (by intro u hu; simp at hu; obtain ⟨z, -, rfl⟩ := hu; rfl) (by omega) (by omega) ?_; intro v8 w8 own8 gr8)
          have E8 : Ext w1 w8 := Ext.grown E5 gr8 (owns_ge o5)
          rw [← List.map_append, ← hW.out, ← hWn.out] at own8
          clear o5 s4 E5 gr8 g0 g1 g2
          go_wp2_with fail
          go_roundw
          case rel => exact ⟨j + 1, by omega, by go_num, E8, own8⟩
          case measure => simp [intOf]; omega
        · obtain rfl : j = k := by omega
          go_wp2
          go_ret
          rw [wcont_yes HV.out, HL.out]
          obtain ⟨a9, c9, rfl⟩ := owns_form o5
          exact ⟨a9, c9, rfl, owns_mono o5 hs1, E1.trans E5⟩
theorem spec_WriteContainer_any (a : Option Addr) (c n : Nat) (L : List Smp) (w : World) (hn : n ≤ 9223372036854775807) (r : SP w a n L) :
    Calls Tryd.prog 8 #[.slice a n c] w fun e w' => ∃ a' c', e = .returned (.slice a' (wcont L).length c') ∧ w'.ownsRow w.heap.size 5 1 (.slice a' (wcont L).length c') (wcont L).length ((wcont L).map (Value.int .u8)) ∧ Ext w w' := by
  cases hv : svalid L with
  | true => exact spec_WriteContainer_yes a c n L w hn r hv
  | false =>
    rw [wcont_no hv]
    refine (spec_WriteContainer_no a c n L w hn r hv).mono ?_
    rintro e w1 ⟨v, rfl, own1, e1⟩
    obtain ⟨a1, c1, rfl⟩ := owns_form own1
    exact ⟨a1, c1, rfl, own1, e1⟩
end Go.Proofs.YtpjjadmjdafkeaaDoor
