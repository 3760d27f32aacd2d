/- Drawing: a position in a picture. | Drawing: the arguments of IntraMacro, InterMacro and Reconstruct. -/
import Derived.Test.YtbnhaegidfbgbaaDoorQd5
namespace Go.Proofs.YtbnhaegidfbgbaaDoor
open Go.RowKit
set_option maxHeartbeats 1000000
theorem tdiv8 {W : Int} (h : -8 ≤ W ∧ W ≤ 40) : -1 ≤ W.tdiv 8 ∧ W.tdiv 8 ≤ 5 := by
 by_cases h0 : 0 ≤ W
 ·rw [Int.tdiv_eq_ediv_of_nonneg h0]; omega
 ·obtain rfl | rfl | rfl | rfl | rfl | rfl | rfl | rfl : W = -1 ∨ W = -2 ∨ W = -3 ∨ W = -4 ∨ W = -5 ∨ W = -6 ∨ W = -7 ∨ W = -8 := by omega
  all_goals decide
set_option maxRecDepth 100000 in
theorem l20At_c (b P : Nat) (W H : Int) (a : Option Addr) (c n : Nat) (m : Int) (w : World) (h : RdP w b P) (hp : P < 2^36) (hm0 : 0 ≤ m) (hm : m ≤ 1000000) (hW : -8 ≤ W ∧ W ≤ 40) (hH : 0 ≤ H ∧ H ≤ 40) :
 Calls Tryd.prog 35 #[.pointer (some ⟨b, 0, none⟩), .agg #[.int .i64 W, .int .i64 H, .slice a n c], .int .i64 m] w fun e w' => ∃ x y : Int, e = .returned (.tuple #[.int .i64 x, .int .i64 y]) ∧ 0 ≤ y ∧ y ≤ 32 ∧ RdP w' b (P + 50) ∧ w.grownBy w' (some b) := by
 have hbw : b < w.heap.size := h.lt
 have e0 := Ext.alloc w (.cells #[.int .i64 W, .int .i64 H, .slice a n c] 25)
 have R0 := blk_new w (.cells #[.int .i64 W, .int .i64 H, .slice a n c] 25)
 have r0 := h.ext e0
 have g0 : w.grownBy _ (some b) := ext_gr e0
 have hu1 := tdiv8 hW
 obtain ⟨u, hu⟩ : ∃ u, u = max 1 (W.tdiv 8) := ⟨_, rfl⟩
 have hu2 : 1 ≤ u ∧ u ≤ 5 := by omega
 have Hu := Lib.hid hu
 obtain ⟨v, hv⟩ : ∃ v, v = max 1 (min 4 (H / 8)) := ⟨_, rfl⟩
 have hv2 : 1 ≤ v ∧ v ≤ 4 := by omega
 have Hv := Lib.hid hv
 clear e0 h hu hv
 go_enter Tryd.func35, Tryd.ntmps35
 go_upto_region 1 with fail
 generalize w.alloc (.cells #[.int .i64 W, .int .i64 H, .slice a n c] 25) = w0 at *
 have hext : ∀ (i : Nat) (own : Value) (ys : Nat → Value) (wa wb : World), wa.grownBy wb (some b) → (match i with | 0 => own = .pointer (some ⟨b, 0, none⟩) | 1 => own = .pointer (some ⟨w.heap.size, 0, none⟩) | 2 => own = .int .i64 W | 3 => own = .int .i64 (W.tdiv 8) | 4 => own = .int .i64 u | 5 => ∃ x : Int, own = .int .i64 x ∧ 0 ≤ x ∧ x < u | 6 => ∃ x : Int, own = .int .i64 x ∧ 0 ≤ x ∧ x ≤ 32 | 7 => ∃ x : Int, own = .int .i64 x ∧ 0 ≤ x ∧ x ≤ 32 | _ => True) → (match i with | 0 => own = .pointer (some ⟨b, 0, none⟩) | 1 => own = .pointer (some ⟨w.heap.size, 0, none⟩) | 2 => own = .int .i64 W | 3 => own = .int .i64 (W.tdiv 8) | 4 => own = .int .i64 u | 5 => ∃ x : Int, own = .int .i64 x ∧ 0 ≤ x ∧ x < u | 6 => ∃ x : Int, own = .int .i64 x ∧ 0 ≤ x ∧ x ≤ 32 | 7 => ∃ x : Int, own = .int .i64 x ∧ 0 ≤ x ∧ x ≤ 32 | _ => True) := by
  intro i own ys wa wb e h
  match i, h with
  | 0, h => exact h
  | 1, h => exact h
  | 2, h => exact h
  | 3, h => exact h
  | 4, h => exact h
  | 5, h => exact h
  | 6, h => exact h
  | 7, h => exact h
  | _ + 8, _ => trivial
 have Hext := Lib.hid hext
 clear hext
 refine wp_region_seq [(8, 7), (10, 0), (11, 1), (12, 2), (13, 3), (14, 4), (15, 5), (16, 6)] [[], [0], [0, 1], [0, 1, 2], [0, 1, 2, 3], [0, 1, 2, 3, 4], [0, 1, 2, 3, 4, 5], [0, 1, 2, 3, 4, 5, 6]] (fun i own ys wx => match i with | 0 => own = .pointer (some ⟨b, 0, none⟩) | 1 => own = .pointer (some ⟨w.heap.size, 0, none⟩) | 2 => own = .int .i64 W | 3 => own = .int .i64 (W.tdiv 8) | 4 => own = .int .i64 u | 5 => ∃ x : Int, own = .int .i64 x ∧ 0 ≤ x ∧ x < u | 6 => ∃ x : Int, own = .int .i64 x ∧ 0 ≤ x ∧ x ≤ 32 | 7 => ∃ x : Int, own = .int .i64 x ∧ 0 ≤ x ∧ x ≤ 32 | _ => True) (fun kx wx => DG w0 b P 1 kx wx) (by kernel_rfl) (by kernel_rfl) ?g0_r1 ?gop_r1 ?gend_r1
 case g0_r1 => exact DG.zero' r0
 case gop_r1 =>
  refine ⟨?_, ?_, ?_, ?_, ?_, ?_, ?_, ?_, trivial⟩
  ·intro kx xs wx hk hG hD hI Qo Kx hK hQo
   clear hD hI
   simp only [patchS, Nat.reduceAdd, Nat.reduceEqDiff, ↓reduceIte] at hQo ⊢
   go_wp2
   exact hK.out _ _ ⟨rfl, hG.step, fun _ _ _ _ _ _ h => h⟩
  ·intro kx xs wx hk hG hD hI Qo Kx hK hQo
   clear hD hI
   simp only [patchS, Nat.reduceAdd, Nat.reduceEqDiff, ↓reduceIte] at hQo ⊢
   go_wp2
   exact hK.out _ _ ⟨rfl, hG.step, fun _ _ _ _ _ _ h => h⟩
  ·intro kx xs wx hk hG hD hI Qo Kx hK hQo
   have d1 : (xs 1) = .pointer (some ⟨w.heap.size, 0, none⟩) := hD 1 rfl
   clear hD hI
   simp only [patchS, Nat.reduceAdd, Nat.reduceEqDiff, ↓reduceIte] at hQo ⊢
   generalize xs 1 = y1 at *
   subst d1
   have Rx := gr_blk hG.1 R0 (by omega)
   obtain ⟨-, q0, q1, q2, -⟩ := bx3 Rx
   go_wp2
   exact hK.out _ _ ⟨rfl, hG.step, fun _ _ _ _ _ _ h => h⟩
  ·intro kx xs wx hk hG hD hI Qo Kx hK hQo
   have d2 : (xs 2) = .int .i64 W := hD 2 rfl
   clear hD hI
   simp only [patchS, Nat.reduceAdd, Nat.reduceEqDiff, ↓reduceIte] at hQo ⊢
   generalize xs 2 = y2 at *
   subst d2
   go_wp2
   exact hK.out _ _ ⟨rfl, hG.step, fun _ _ _ _ _ _ h => h⟩
  ·intro kx xs wx hk hG hD hI Qo Kx hK hQo
   have d3 : (xs 3) = .int .i64 (W.tdiv 8) := hD 3 rfl
   clear hD hI
   simp only [patchS, Nat.reduceAdd, Nat.reduceEqDiff, ↓reduceIte] at hQo ⊢
   generalize xs 3 = y3 at *
   subst d3
   go_wp2
   ·exact hK.out _ _ ⟨by have := Hu.out; congr 1; omega, hG.step, fun _ _ _ _ _ _ h => h⟩
   ·exact hK.out _ _ ⟨by have := Hu.out; congr 1; omega, hG.step, fun _ _ _ _ _ _ h => h⟩
  ·intro kx xs wx hk hG hD hI Qo Kx hK hQo
   have d0 : (xs 0) = .pointer (some ⟨b, 0, none⟩) := hD 0 rfl
   have d4 : (xs 4) = .int .i64 u := hD 4 rfl
   clear hD hI
   simp only [patchS, Nat.reduceAdd, Nat.reduceEqDiff, ↓reduceIte] at hQo ⊢
   generalize xs 0 = y0 at *
   generalize xs 4 = y4 at *
   subst d0 d4
   go_wp2_with fail
   refine (pick_c _ _ _ _ hG.2 (DG.small hk (by decide) (by decide) (by omega)) (by omega) (by omega)).mono ?_
   rintro e w4 ⟨xx, rfl, xa, xb, rd, gr⟩
   go_wp2
   exact hK.out _ _ ⟨⟨xx, rfl, xa, by omega⟩, hG.more gr rd (by decide), fun i _ _ _ own ys h => Hext.out i own ys _ _ gr h⟩
  ·intro kx xs wx hk hG hD hI Qo Kx hK hQo
   have d5 : ∃ x : Int, (xs 5) = .int .i64 x ∧ 0 ≤ x ∧ x < u := hD 5 rfl
   clear hD hI
   simp only [patchS, Nat.reduceAdd, Nat.reduceEqDiff, ↓reduceIte] at hQo ⊢
   generalize xs 5 = y5 at *
   obtain ⟨x5, rfl, x5a, x5b⟩ := d5
   go_wp2
   exact hK.out _ _ ⟨⟨_, rfl, by omega, by omega⟩, hG.step, fun _ _ _ _ _ _ h => h⟩
  ·intro kx xs wx hk hG hD hI Qo Kx hK hQo
   have d6 : ∃ x : Int, (xs 6) = .int .i64 x ∧ 0 ≤ x ∧ x ≤ 32 := hD 6 rfl
   clear hD hI
   simp only [patchS, Nat.reduceAdd, Nat.reduceEqDiff, ↓reduceIte] at hQo ⊢
   generalize xs 6 = y6 at *
   obtain ⟨x6, rfl, x6a, x6b⟩ := d6
   go_wp2
   exact hK.out _ _ ⟨⟨_, rfl, by omega, by omega⟩, hG.step, fun _ _ _ _ _ _ h => h⟩
 clear Hext
 intro xs wx hV hG
 have d0 : (xs 0) = .pointer (some ⟨b, 0, none⟩) := hV 0 (by decide)
 have d1 : (xs 1) = .pointer (some ⟨w.heap.size, 0, none⟩) := hV 1 (by decide)
 have d2 : (xs 2) = .int .i64 W := hV 2 (by decide)
 have d3 : (xs 3) = .int .i64 (W.tdiv 8) := hV 3 (by decide)
 have d4 : (xs 4) = .int .i64 u := hV 4 (by decide)
 have d5 : ∃ x : Int, (xs 5) = .int .i64 x ∧ 0 ≤ x ∧ x < u := hV 5 (by decide)
 have d6 : ∃ x : Int, (xs 6) = .int .i64 x ∧ 0 ≤ x ∧ x ≤ 32 := hV 6 (by decide)
 have d7 : ∃ x : Int, (xs 7) = .int .i64 x ∧ 0 ≤ x ∧ x ≤ 32 := hV 7 (by decide)
 clear hV
 simp only [patchS, Nat.reduceAdd, Nat.reduceEqDiff, ↓reduceIte]
 generalize xs 0 = y0 at *
 generalize xs 1 = y1 at *
 generalize xs 2 = y2 at *
 generalize xs 3 = y3 at *
 generalize xs 4 = y4 at *
 generalize xs 5 = y5 at *
 generalize xs 6 = y6 at *
 generalize xs 7 = y7 at *
 replace hG : DG w0 b P 1 8 wx := hG
 clear d0 d1 d2 d3 d4 d5 d6
 obtain ⟨x7, rfl, x7a, x7b⟩ := d7
 have R1 := gr_blk hG.1 R0 (by omega)
 have G1 := grown_trans g0 hG.1
 have r1 := hG.2.mono (P' := P + 10) (by omega)
 clear R0 g0 r0 hG
 generalize wx = w1 at *
 go_upto_region 2 with fail
 have hext : ∀ (i : Nat) (own : Value) (ys : Nat → Value) (wa wb : World), wa.grownBy wb (some b) → (match i with | 0 => own = .pointer (some ⟨b, 0, none⟩) | 1 => own = .pointer (some ⟨w.heap.size, 1, none⟩) | 2 => own = .int .i64 H | 3 => own = .int .i64 (H / 8) | 4 => own = .int .i64 (min 4 (H / 8)) | 5 => own = .int .i64 v | 6 => ∃ x : Int, own = .int .i64 x ∧ 0 ≤ x ∧ x < v | 7 => ∃ x : Int, own = .int .i64 x ∧ 0 ≤ x ∧ x ≤ 32 | 8 => ∃ x : Int, own = .int .i64 x ∧ 0 ≤ x ∧ x ≤ 32 | _ => True) → (match i with | 0 => own = .pointer (some ⟨b, 0, none⟩) | 1 => own = .pointer (some ⟨w.heap.size, 1, none⟩) | 2 => own = .int .i64 H | 3 => own = .int .i64 (H / 8) | 4 => own = .int .i64 (min 4 (H / 8)) | 5 => own = .int .i64 v | 6 => ∃ x : Int, own = .int .i64 x ∧ 0 ≤ x ∧ x < v | 7 => ∃ x : Int, own = .int .i64 x ∧ 0 ≤ x ∧ x ≤ 32 | 8 => ∃ x : Int, own = .int .i64 x ∧ 0 ≤ x ∧ x ≤ 32 | _ => True) := by
  intro i own ys wa wb e h
  match i, h with
  | 0, h => exact h
  | 1, h => exact h
  | 2, h => exact h
  | 3, h => exact h
  | 4, h => exact h
  | 5, h => exact h
  | 6, h => exact h
  | 7, h => exact h
  | 8, h => exact h
  | _ + 9, _ => trivial
 have Hext := Lib.hid hext
 clear hext
 refine wp_region_seq [(9, 8), (17, 0), (18, 1), (19, 2), (20, 3), (21, 4), (22, 5), (23, 6), (24, 7)] [[], [0], [0, 1], [0, 1, 2], [0, 1, 2, 3], [0, 1, 2, 3, 4], [0, 1, 2, 3, 4, 5], [0, 1, 2, 3, 4, 5, 6], [0, 1, 2, 3, 4, 5, 6, 7]] (fun i own ys wx => match i with | 0 => own = .pointer (some ⟨b, 0, none⟩) | 1 => own = .pointer (some ⟨w.heap.size, 1, none⟩) | 2 => own = .int .i64 H | 3 => own = .int .i64 (H / 8) | 4 => own = .int .i64 (min 4 (H / 8)) | 5 => own = .int .i64 v | 6 => ∃ x : Int, own = .int .i64 x ∧ 0 ≤ x ∧ x < v | 7 => ∃ x : Int, own = .int .i64 x ∧ 0 ≤ x ∧ x ≤ 32 | 8 => ∃ x : Int, own = .int .i64 x ∧ 0 ≤ x ∧ x ≤ 32 | _ => True) (fun kx wx => DG w1 b (P+10) 1 kx wx) (by kernel_rfl) (by kernel_rfl) ?g0_r2 ?gop_r2 ?gend_r2
 case g0_r2 => exact DG.zero' r1
 case gop_r2 =>
  refine ⟨?_, ?_, ?_, ?_, ?_, ?_, ?_, ?_, ?_, trivial⟩
  ·intro kx xs wx hk hG hD hI Qo Kx hK hQo
   clear hD hI
   simp only [patchS, Nat.reduceAdd, Nat.reduceEqDiff, ↓reduceIte] at hQo ⊢
   go_wp2
   exact hK.out _ _ ⟨rfl, hG.step, fun _ _ _ _ _ _ h => h⟩
  ·intro kx xs wx hk hG hD hI Qo Kx hK hQo
   clear hD hI
   simp only [patchS, Nat.reduceAdd, Nat.reduceEqDiff, ↓reduceIte] at hQo ⊢
   go_wp2
   exact hK.out _ _ ⟨rfl, hG.step, fun _ _ _ _ _ _ h => h⟩
  ·intro kx xs wx hk hG hD hI Qo Kx hK hQo
   have d1 : (xs 1) = .pointer (some ⟨w.heap.size, 1, none⟩) := hD 1 rfl
   clear hD hI
   simp only [patchS, Nat.reduceAdd, Nat.reduceEqDiff, ↓reduceIte] at hQo ⊢
   generalize xs 1 = y1 at *
   subst d1
   have Rx := gr_blk hG.1 R1 (by omega)
   obtain ⟨-, q0, q1, q2, -⟩ := bx3 Rx
   go_wp2
   exact hK.out _ _ ⟨rfl, hG.step, fun _ _ _ _ _ _ h => h⟩
  ·intro kx xs wx hk hG hD hI Qo Kx hK hQo
   have d2 : (xs 2) = .int .i64 H := hD 2 rfl
   clear hD hI
   simp only [patchS, Nat.reduceAdd, Nat.reduceEqDiff, ↓reduceIte] at hQo ⊢
   generalize xs 2 = y2 at *
   subst d2
   go_wp2
   exact hK.out _ _ ⟨rfl, hG.step, fun _ _ _ _ _ _ h => h⟩
  ·intro kx xs wx hk hG hD hI Qo Kx hK hQo
   have d3 : (xs 3) = .int .i64 (H / 8) := hD 3 rfl
   clear hD hI
   simp only [patchS, Nat.reduceAdd, Nat.reduceEqDiff, ↓reduceIte] at hQo ⊢
   generalize xs 3 = y3 at *
   subst d3
   go_wp2
   ·exact hK.out _ _ ⟨by congr 1; omega, hG.step, fun _ _ _ _ _ _ h => h⟩
   ·exact hK.out _ _ ⟨by congr 1; omega, hG.step, fun _ _ _ _ _ _ h => h⟩
  ·intro kx xs wx hk hG hD hI Qo Kx hK hQo
   have d4 : (xs 4) = .int .i64 (min 4 (H / 8)) := hD 4 rfl
   clear hD hI
   simp only [patchS, Nat.reduceAdd, Nat.reduceEqDiff, ↓reduceIte] at hQo ⊢
   generalize xs 4 = y4 at *
   subst d4
   go_wp2
   ·exact hK.out _ _ ⟨by have := Hv.out; congr 1; omega, hG.step, fun _ _ _ _ _ _ h => h⟩
   ·exact hK.out _ _ ⟨by have := Hv.out; congr 1; omega, hG.step, fun _ _ _ _ _ _ h => h⟩
  ·intro kx xs wx hk hG hD hI Qo Kx hK hQo
   have d0 : (xs 0) = .pointer (some ⟨b, 0, none⟩) := hD 0 rfl
   have d5 : (xs 5) = .int .i64 v := hD 5 rfl
   clear hD hI
   simp only [patchS, Nat.reduceAdd, Nat.reduceEqDiff, ↓reduceIte] at hQo ⊢
   generalize xs 0 = y0 at *
   generalize xs 5 = y5 at *
   subst d0 d5
   go_wp2_with fail
   refine (pick_c _ _ _ _ hG.2 (DG.small hk (by decide) (by decide) (by omega)) (by omega) (by omega)).mono ?_
   rintro e w4 ⟨xx, rfl, xa, xb, rd, gr⟩
   go_wp2
   exact hK.out _ _ ⟨⟨xx, rfl, xa, by omega⟩, hG.more gr rd (by decide), fun i _ _ _ own ys h => Hext.out i own ys _ _ gr h⟩
  ·intro kx xs wx hk hG hD hI Qo Kx hK hQo
   have d6 : ∃ x : Int, (xs 6) = .int .i64 x ∧ 0 ≤ x ∧ x < v := hD 6 rfl
   clear hD hI
   simp only [patchS, Nat.reduceAdd, Nat.reduceEqDiff, ↓reduceIte] at hQo ⊢
   generalize xs 6 = y6 at *
   obtain ⟨x6, rfl, x6a, x6b⟩ := d6
   go_wp2
   exact hK.out _ _ ⟨⟨_, rfl, by omega, by omega⟩, hG.step, fun _ _ _ _ _ _ h => h⟩
  ·intro kx xs wx hk hG hD hI Qo Kx hK hQo
   have d7 : ∃ x : Int, (xs 7) = .int .i64 x ∧ 0 ≤ x ∧ x ≤ 32 := hD 7 rfl
   clear hD hI
   simp only [patchS, Nat.reduceAdd, Nat.reduceEqDiff, ↓reduceIte] at hQo ⊢
   generalize xs 7 = y7 at *
   obtain ⟨x7, rfl, x7a, x7b⟩ := d7
   go_wp2
   exact hK.out _ _ ⟨⟨_, rfl, by omega, by omega⟩, hG.step, fun _ _ _ _ _ _ h => h⟩
 clear Hext
 intro xs wx hV hG
 have d0 : (xs 0) = .pointer (some ⟨b, 0, none⟩) := hV 0 (by decide)
 have d1 : (xs 1) = .pointer (some ⟨w.heap.size, 1, none⟩) := hV 1 (by decide)
 have d2 : (xs 2) = .int .i64 H := hV 2 (by decide)
 have d3 : (xs 3) = .int .i64 (H / 8) := hV 3 (by decide)
 have d4 : (xs 4) = .int .i64 (min 4 (H / 8)) := hV 4 (by decide)
 have d5 : (xs 5) = .int .i64 v := hV 5 (by decide)
 have d6 : ∃ x : Int, (xs 6) = .int .i64 x ∧ 0 ≤ x ∧ x < v := hV 6 (by decide)
 have d7 : ∃ x : Int, (xs 7) = .int .i64 x ∧ 0 ≤ x ∧ x ≤ 32 := hV 7 (by decide)
 have d8 : ∃ x : Int, (xs 8) = .int .i64 x ∧ 0 ≤ x ∧ x ≤ 32 := hV 8 (by decide)
 clear hV
 simp only [patchS, Nat.reduceAdd, Nat.reduceEqDiff, ↓reduceIte]
 generalize xs 0 = y0 at *
 generalize xs 1 = y1 at *
 generalize xs 2 = y2 at *
 generalize xs 3 = y3 at *
 generalize xs 4 = y4 at *
 generalize xs 5 = y5 at *
 generalize xs 6 = y6 at *
 generalize xs 7 = y7 at *
 generalize xs 8 = y8 at *
 replace hG : DG w1 b (P+10) 1 9 wx := hG
 clear d0 d1 d2 d3 d4 d5 d6 d7
 obtain ⟨x8, rfl, x8a, x8b⟩ := d8
 have R2 := gr_blk hG.1 R1 (by omega)
 have G2 := grown_trans G1 hG.1
 have r2 := hG.2.mono (P' := P + 20) (by omega)
 clear R1 G1 r1 hG
 generalize wx = w2 at *
 go_wp2_with fail
 refine (odd_any b _ m _ r2 (by omega) hm0 (by omega)).mono ?_
 rintro e w3 ⟨x3, rfl, r3, g3⟩
 have R3 := gr_blk g3 R2 (by omega)
 have G3 := grown_trans G2 g3
 clear R2 r2 g3 G2
 cases x3
 ·go_wp2
  go_ret2
  exact ⟨_, _, rfl, by omega, by omega, r3.mono (by omega), G3⟩
 ·go_wp2_with fail
  have hext : ∀ (i : Nat) (own : Value) (ys : Nat → Value) (wa wb : World), wa.grownBy wb (some b) → (match i with | 0 => own = .int .i64 (x7) | 1 => ∃ x : Int, own = .int .i64 x ∧ 1 ≤ x ∧ x ≤ 33 | 2 => own = .pointer (some ⟨w.heap.size, 0, none⟩) | 3 => ∃ x : Int, own = .int .i64 x ∧ -8 ≤ x ∧ x ≤ 40 | 4 => SlR wa (b + 1) own 3 (-8) (40) | 5 => own = .pointer (some ⟨b, 0, none⟩) | 6 => ∃ x : Int, own = .int .i64 x ∧ 0 ≤ x ∧ x < 3 | 7 => PtR wa (b + 1) own (-8) (40) | 8 => ∃ x : Int, own = .int .i64 x ∧ -8 ≤ x ∧ x ≤ 40 | 9 => own = .int .i64 (x8) | 10 => ∃ x : Int, own = .int .i64 x ∧ -8 ≤ x ∧ x ≤ 40 | 11 => own = .int .i64 (x8) | _ => True) → (match i with | 0 => own = .int .i64 (x7) | 1 => ∃ x : Int, own = .int .i64 x ∧ 1 ≤ x ∧ x ≤ 33 | 2 => own = .pointer (some ⟨w.heap.size, 0, none⟩) | 3 => ∃ x : Int, own = .int .i64 x ∧ -8 ≤ x ∧ x ≤ 40 | 4 => SlR wb (b + 1) own 3 (-8) (40) | 5 => own = .pointer (some ⟨b, 0, none⟩) | 6 => ∃ x : Int, own = .int .i64 x ∧ 0 ≤ x ∧ x < 3 | 7 => PtR wb (b + 1) own (-8) (40) | 8 => ∃ x : Int, own = .int .i64 x ∧ -8 ≤ x ∧ x ≤ 40 | 9 => own = .int .i64 (x8) | 10 => ∃ x : Int, own = .int .i64 x ∧ -8 ≤ x ∧ x ≤ 40 | 11 => own = .int .i64 (x8) | _ => True) := by
   intro i own ys wa wb e h
   match i, h with
   | 0, h => exact h
   | 1, h => exact h
   | 2, h => exact h
   | 3, h => exact h
   | 4, h => exact h.grown e (by omega)
   | 5, h => exact h
   | 6, h => exact h
   | 7, h => exact h.grown e (by omega)
   | 8, h => exact h
   | 9, h => exact h
   | 10, h => exact h
   | 11, h => exact h
   | _ + 12, _ => trivial
  have Hext := Lib.hid hext
  clear hext
  refine wp_region_inv2 (by kernel_rfl) [(6, 10), (7, 11), (28, 0), (29, 1), (30, 2), (31, 3), (32, 4), (33, 5), (34, 6), (35, 7), (36, 8), (37, 9)] [[], [0], [], [2], [0, 1, 2, 3], [], [5], [0, 1, 2, 3, 4, 5, 6], [0, 1, 2, 3, 4, 5, 6, 7], [], [0, 1, 2, 3, 4, 5, 6, 7, 8], [0, 1, 2, 3, 4, 5, 6, 7, 8, 9, 10]] (fun i own ys wx => match i with | 0 => own = .int .i64 (x7) | 1 => ∃ x : Int, own = .int .i64 x ∧ 1 ≤ x ∧ x ≤ 33 | 2 => own = .pointer (some ⟨w.heap.size, 0, none⟩) | 3 => ∃ x : Int, own = .int .i64 x ∧ -8 ≤ x ∧ x ≤ 40 | 4 => SlR wx (b + 1) own 3 (-8) (40) | 5 => own = .pointer (some ⟨b, 0, none⟩) | 6 => ∃ x : Int, own = .int .i64 x ∧ 0 ≤ x ∧ x < 3 | 7 => PtR wx (b + 1) own (-8) (40) | 8 => ∃ x : Int, own = .int .i64 x ∧ -8 ≤ x ∧ x ≤ 40 | 9 => own = .int .i64 (x8) | 10 => ∃ x : Int, own = .int .i64 x ∧ -8 ≤ x ∧ x ≤ 40 | 11 => own = .int .i64 (x8) | _ => True) (fun kx wx => DG w3 b (P+20+1) 1 kx wx) (by kernel_rfl) (by kernel_rfl) (by kernel_rfl) ?g0_r3 ?gop_r3 ?gend_r3
  case g0_r3 => exact DG.zero r3
  case gop_r3 =>
   refine ⟨?_, ?_, ?_, ?_, ?_, ?_, ?_, ?_, ?_, ?_, ?_, ?_, trivial⟩
   ·intro kx xs wx hk hG hD hI Qo Kx hK hQo
    clear hD hI
    simp only [patchS, Nat.reduceAdd, Nat.reduceEqDiff, ↓reduceIte] at hQo ⊢
    go_wp2
    exact hK.out _ _ ⟨rfl, hG.step, fun _ _ _ _ _ _ h => h⟩
   ·intro kx xs wx hk hG hD hI Qo Kx hK hQo
    have d0 : (xs 0) = .int .i64 (x7) := hD 0 rfl
    clear hD hI
    simp only [patchS, Nat.reduceAdd, Nat.reduceEqDiff, ↓reduceIte] at hQo ⊢
    generalize xs 0 = y0 at *
    subst d0
    go_wp2
    exact hK.out _ _ ⟨⟨_, rfl, by omega, by omega⟩, hG.step, fun _ _ _ _ _ _ h => h⟩
   ·intro kx xs wx hk hG hD hI Qo Kx hK hQo
    clear hD hI
    simp only [patchS, Nat.reduceAdd, Nat.reduceEqDiff, ↓reduceIte] at hQo ⊢
    go_wp2
    exact hK.out _ _ ⟨rfl, hG.step, fun _ _ _ _ _ _ h => h⟩
   ·intro kx xs wx hk hG hD hI Qo Kx hK hQo
    have d2 : (xs 2) = .pointer (some ⟨w.heap.size, 0, none⟩) := hD 2 rfl
    clear hD hI
    simp only [patchS, Nat.reduceAdd, Nat.reduceEqDiff, ↓reduceIte] at hQo ⊢
    generalize xs 2 = y2 at *
    subst d2
    have Rx := gr_blk hG.1 R3 (by omega)
    obtain ⟨-, q0, q1, q2, -⟩ := bx3 Rx
    go_wp2
    exact hK.out _ _ ⟨⟨W, rfl, by omega, by omega⟩, hG.step, fun _ _ _ _ _ _ h => h⟩
   ·intro kx xs wx hk hG hD hI Qo Kx hK hQo
    have d1 : ∃ x : Int, (xs 1) = .int .i64 x ∧ 1 ≤ x ∧ x ≤ 33 := hD 1 rfl
    have d3 : ∃ x : Int, (xs 3) = .int .i64 x ∧ -8 ≤ x ∧ x ≤ 40 := hD 3 rfl
    clear hD hI
    simp only [patchS, Nat.reduceAdd, Nat.reduceEqDiff, ↓reduceIte] at hQo ⊢
    generalize xs 1 = y1 at *
    generalize xs 3 = y3 at *
    obtain ⟨x1, rfl, x1a, x1b⟩ := d1
    obtain ⟨x3, rfl, x3a, x3b⟩ := d3
    have e5 := Ext.alloc wx (.cells #[.int .i64 x1, .int .i64 (-8), .int .i64 x3] 3)
    go_wp2
    exact hK.out _ _ ⟨⟨_, [x1, (-8), x3], rfl, by have := hG.2.lt; omega, Sl_new _ _ _, by simp <;> omega⟩, hG.ext e5, fun i _ _ _ own ys h => Hext.out i own ys _ _ (ext_gr e5) h⟩
   ·intro kx xs wx hk hG hD hI Qo Kx hK hQo
    clear hD hI
    simp only [patchS, Nat.reduceAdd, Nat.reduceEqDiff, ↓reduceIte] at hQo ⊢
    go_wp2
    exact hK.out _ _ ⟨rfl, hG.step, fun _ _ _ _ _ _ h => h⟩
   ·intro kx xs wx hk hG hD hI Qo Kx hK hQo
    have d5 : (xs 5) = .pointer (some ⟨b, 0, none⟩) := hD 5 rfl
    clear hD hI
    simp only [patchS, Nat.reduceAdd, Nat.reduceEqDiff, ↓reduceIte] at hQo ⊢
    generalize xs 5 = y5 at *
    subst d5
    go_wp2_with fail
    refine (pick_c _ _ _ _ hG.2 (DG.small hk (by decide) (by decide) (by omega)) (by omega) (by omega)).mono ?_
    rintro e w4 ⟨xx, rfl, xa, xb, rd, gr⟩
    go_wp2
    exact hK.out _ _ ⟨⟨xx, rfl, xa, by omega⟩, hG.more gr rd (by decide), fun i _ _ _ own ys h => Hext.out i own ys _ _ gr h⟩
   ·intro kx xs wx hk hG hD hI Qo Kx hK hQo
    have d4 : SlR wx (b + 1) (xs 4) 3 (-8) (40) := hD 4 rfl
    have d6 : ∃ x : Int, (xs 6) = .int .i64 x ∧ 0 ≤ x ∧ x < 3 := hD 6 rfl
    clear hD hI
    simp only [patchS, Nat.reduceAdd, Nat.reduceEqDiff, ↓reduceIte] at hQo ⊢
    generalize xs 4 = y4 at *
    generalize xs 6 = y6 at *
    obtain ⟨g4, l4, rfl, n4, s4, r4⟩ := d4
    obtain ⟨x6, rfl, x6a, x6b⟩ := d6
    go_wp2
    exact hK.out _ _ ⟨SlR.at n4 s4 r4 (by omega), hG.step, fun _ _ _ _ _ _ h => h⟩
   ·intro kx xs wx hk hG hD hI Qo Kx hK hQo
    have d7 : PtR wx (b + 1) (xs 7) (-8) (40) := hD 7 rfl
    clear hD hI
    simp only [patchS, Nat.reduceAdd, Nat.reduceEqDiff, ↓reduceIte] at hQo ⊢
    generalize xs 7 = y7 at *
    obtain ⟨g7, j7, y7, rfl, n7, c7, y7a, y7b⟩ := d7
    go_wp2
    exact hK.out _ _ ⟨⟨_, rfl, by omega, by omega⟩, hG.step, fun _ _ _ _ _ _ h => h⟩
   ·intro kx xs wx hk hG hD hI Qo Kx hK hQo
    clear hD hI
    simp only [patchS, Nat.reduceAdd, Nat.reduceEqDiff, ↓reduceIte] at hQo ⊢
    go_wp2
    exact hK.out _ _ ⟨rfl, hG.step, fun _ _ _ _ _ _ h => h⟩
   ·intro kx xs wx hk hG hD hI Qo Kx hK hQo
    have d8 : ∃ x : Int, (xs 8) = .int .i64 x ∧ -8 ≤ x ∧ x ≤ 40 := hD 8 rfl
    clear hD hI
    simp only [patchS, Nat.reduceAdd, Nat.reduceEqDiff, ↓reduceIte] at hQo ⊢
    generalize xs 8 = y8 at *
    obtain ⟨x8, rfl, x8a, x8b⟩ := d8
    go_wp2
    exact hK.out _ _ ⟨⟨_, rfl, by omega, by omega⟩, hG.step, fun _ _ _ _ _ _ h => h⟩
   ·intro kx xs wx hk hG hD hI Qo Kx hK hQo
    have d9 : (xs 9) = .int .i64 (x8) := hD 9 rfl
    clear hD hI
    simp only [patchS, Nat.reduceAdd, Nat.reduceEqDiff, ↓reduceIte] at hQo ⊢
    generalize xs 9 = y9 at *
    subst d9
    go_wp2
    exact hK.out _ _ ⟨rfl, hG.step, fun _ _ _ _ _ _ h => h⟩
  clear Hext
  intro xs wx hV hG
  have d0 : (xs 0) = .int .i64 (x7) := hV 0 (by decide)
  have d1 : ∃ x : Int, (xs 1) = .int .i64 x ∧ 1 ≤ x ∧ x ≤ 33 := hV 1 (by decide)
  have d2 : (xs 2) = .pointer (some ⟨w.heap.size, 0, none⟩) := hV 2 (by decide)
  have d3 : ∃ x : Int, (xs 3) = .int .i64 x ∧ -8 ≤ x ∧ x ≤ 40 := hV 3 (by decide)
  have d4 : SlR wx (b + 1) (xs 4) 3 (-8) (40) := hV 4 (by decide)
  have d5 : (xs 5) = .pointer (some ⟨b, 0, none⟩) := hV 5 (by decide)
  have d6 : ∃ x : Int, (xs 6) = .int .i64 x ∧ 0 ≤ x ∧ x < 3 := hV 6 (by decide)
  have d7 : PtR wx (b + 1) (xs 7) (-8) (40) := hV 7 (by decide)
  have d8 : ∃ x : Int, (xs 8) = .int .i64 x ∧ -8 ≤ x ∧ x ≤ 40 := hV 8 (by decide)
  have d9 : (xs 9) = .int .i64 (x8) := hV 9 (by decide)
  have d10 : ∃ x : Int, (xs 10) = .int .i64 x ∧ -8 ≤ x ∧ x ≤ 40 := hV 10 (by decide)
  have d11 : (xs 11) = .int .i64 (x8) := hV 11 (by decide)
  clear hV
  simp only [patchS, Nat.reduceAdd, Nat.reduceEqDiff, ↓reduceIte]
  generalize xs 0 = y0 at *
  generalize xs 1 = y1 at *
  generalize xs 2 = y2 at *
  generalize xs 3 = y3 at *
  generalize xs 4 = y4 at *
  generalize xs 5 = y5 at *
  generalize xs 6 = y6 at *
  generalize xs 7 = y7 at *
  generalize xs 8 = y8 at *
  generalize xs 9 = y9 at *
  generalize xs 10 = y10 at *
  generalize xs 11 = y11 at *
  replace hG : DG w3 b (P+20+1) 1 12 wx := hG
  clear d0 d1 d2 d3 d4 d5 d6 d7 d8 d9
  obtain ⟨x10, rfl, x10a, x10b⟩ := d10
  subst d11
  go_wp2
  go_ret2
  exact ⟨_, _, rfl, by omega, by omega, hG.2.mono (by omega), grown_trans G3 hG.1⟩
end Go.Proofs.YtbnhaegidfbgbaaDoor
namespace Go.Proofs.YtbnhaegidfbgbaaDoor
open Go.RowKit
set_option maxHeartbeats 1000000
theorem results_cctttt {P : Program} {fn : Func} {p0 : Tmp} {y0 : TypeId} {p1 : Tmp} {y1 : TypeId} {p2 : Tmp} {p3 : Tmp} {p4 : Tmp} {p5 : Tmp} (h : fn.results = #[.cell p0 y0, .cell p1 y1, .tmp p2, .tmp p3, .tmp p4, .tmp p5]) (tmps : Array Value) (w : World)
 (g0 : Nat) (cs0 : Array Value) (hp0 : tmps.getD p0 undef = .pointer (some ⟨g0, 0, none⟩)) (hl0 : (loadVar y0 ⟨g0, 0, none⟩).run P w = .ok (.agg cs0) w)
 (g1 : Nat) (cs1 : Array Value) (hp1 : tmps.getD p1 undef = .pointer (some ⟨g1, 0, none⟩)) (hl1 : (loadVar y1 ⟨g1, 0, none⟩).run P w = .ok (.agg cs1) w) :
 (results fn tmps).run P w = .ok (.tuple #[.agg cs0, .agg cs1, tmps.getD p2 undef, tmps.getD p3 undef, tmps.getD p4 undef, tmps.getD p5 undef]) w := by
 have hq0 : tmps[p0]?.getD undef = .pointer (some ⟨g0, 0, none⟩) := by simpa using hp0
 have hq1 : tmps[p1]?.getD undef = .pointer (some ⟨g1, 0, none⟩) := by simpa using hp1
 simp [results, h, hq0, hl0, hq1, hl1, asAddr, Sem.run_bind, Result.andThen]
/-- A box that holds some picture. -/
def PB0 (w : World) (b : Nat) : Prop := ∃ (x y : Int) (a : Option Addr) (n c : Nat), w.heap[b]? = some (.cells #[.int .i64 x, .int .i64 y, .slice a n c] 25 (0, 0))
theorem PB0.gr {w w' : World} {b : Nat} {row : Option Nat} (h : PB0 w b) (g : w.grownBy w' row) (hne : row ≠ some b) : PB0 w' b := by
 obtain ⟨x, y, a, n, c, h1⟩ := h
 exact ⟨x, y, a, n, c, blk_gr h1 g hne⟩
theorem PB0.ext {w w' : World} {b : Nat} (h : PB0 w b) (e : Ext w w') : PB0 w' b := by
 obtain ⟨x, y, a, n, c, h1⟩ := h
 exact ⟨x, y, a, n, c, e.blk h1⟩
/-- A box that holds some vector. -/
def VB (w : World) (b : Nat) : Prop := ∃ x y : Int, w.heap[b]? = some (.cells #[.int .i64 x, .int .i64 y] 27 (0, 0))
theorem VB.gr {w w' : World} {b : Nat} {row : Option Nat} (h : VB w b) (g : w.grownBy w' row) (hne : row ≠ some b) : VB w' b := by
 obtain ⟨x, y, h1⟩ := h
 exact ⟨x, y, blk_gr h1 g hne⟩
theorem VB.ext {w w' : World} {b : Nat} (h : VB w b) (e : Ext w w') : VB w' b := by
 obtain ⟨x, y, h1⟩ := h
 exact ⟨x, y, e.blk h1⟩
/-- A box that holds some macroblock. -/
def MB (w : World) (b : Nat) : Prop := ∃ zs : List Int, IB w b 34 zs ∧ zs.length = 71
theorem MB.gr {w w' : World} {b : Nat} {row : Option Nat} (h : MB w b) (g : w.grownBy w' row) (hne : row ≠ some b) : MB w' b := by
 obtain ⟨x, h1, h2⟩ := h
 exact ⟨x, h1.gr g hne, h2⟩
theorem MB.ext {w w' : World} {b : Nat} (h : MB w b) (e : Ext w w') : MB w' b := by
 obtain ⟨x, h1, h2⟩ := h
 exact ⟨x, h1.ext e, h2⟩
/-- What holds while the arguments are drawn. -/
structure DS (w : World) (b P C k O : Nat) (p : Pic) (a : Option Addr) (n c Q : Nat) (q : Pic) (a2 : Option Addr) (n2 c2 : Nat) (wx : World) : Prop where
 dg : DG w b P C k wx
 bx1 : PBx wx O p a n c
 bx2 : PBx wx Q q a2 n2 c2
 res1 : PB0 wx w.heap.size
 res2 : PB0 wx (w.heap.size + 1)
 sl1 : Sl wx a n (p.px.map (Value.int .i64))
 sl2 : Sl wx a2 n2 (q.px.map (Value.int .i64))
 hb : w.heap.size + 2 ≤ b
 hO : b < O
 hQ : O < Q
 ha : ∀ y, a = some y → b < y.block
 ha2 : ∀ y, a2 = some y → b < y.block
section
variable {w wx wy : World} {b P C k O n c Q n2 c2 : Nat} {p q : Pic} {a a2 : Option Addr}
theorem DS.step (h : DS w b P C k O p a n c Q q a2 n2 c2 wx) : DS w b P C (k + 1) O p a n c Q q a2 n2 c2 wx := ⟨h.dg.step, h.bx1, h.bx2, h.res1, h.res2, h.sl1, h.sl2, h.hb, h.hO, h.hQ, h.ha, h.ha2⟩
theorem DS.grb {P' k' : Nat} (h : DS w b P C k O p a n c Q q a2 n2 c2 wx) (e : wx.grownBy wy (some b)) (d : DG w b P' C k' wy) : DS w b P' C k' O p a n c Q q a2 n2 c2 wy := by
 have h1 := h.hb
 have h2 := h.hO
 have h3 := h.hQ
 exact ⟨d, h.bx1.gr e (by simp; omega), h.bx2.gr e (by simp; omega), h.res1.gr e (by simp; omega), h.res2.gr e (by simp; omega), h.sl1.grown e (fun u hu => by have := h.ha u hu; simp; omega), h.sl2.grown e (fun u hu => by have := h.ha2 u hu; simp; omega), h1, h2, h3, h.ha, h.ha2⟩
theorem DS.more {c' : Nat} (h : DS w b P C k O p a n c Q q a2 n2 c2 wx) (e : wx.grownBy wy (some b)) (r : RdP wy b (P + k * C + c')) (hc : c' ≤ C) : DS w b P C (k + 1) O p a n c Q q a2 n2 c2 wy := h.grb e (h.dg.more e r hc)
theorem DS.ext (h : DS w b P C k O p a n c Q q a2 n2 c2 wx) (e : Ext wx wy) : DS w b P C (k + 1) O p a n c Q q a2 n2 c2 wy := h.grb (ext_gr e) (h.dg.ext e)
theorem DS.low {r : Nat} (h : DS w b P C k O p a n c Q q a2 n2 c2 wx) (g : wx.grownBy wy (some r)) (hr : w.heap.size ≤ r) (hr2 : r < b) (rd : RdP wy b (P + k * C)) (h1 : PB0 wy w.heap.size) (h2 : PB0 wy (w.heap.size + 1)) : DS w b P C (k + 1) O p a n c Q q a2 n2 c2 wy := by
 have q1 := h.hb
 have q2 := h.hO
 have q3 := h.hQ
 exact ⟨⟨grown_any h.dg.1 g (fun k hk => by cases hk; omega), rd.mono (by rw [Nat.succ_mul]; omega)⟩, h.bx1.gr g (by simp; omega), h.bx2.gr g (by simp; omega), h1, h2, h.sl1.grown g (fun u hu => by have := h.ha u hu; simp; omega), h.sl2.grown g (fun u hu => by have := h.ha2 u hu; simp; omega), q1, q2, q3, h.ha, h.ha2⟩
theorem DS.put1 {x y x' y' : Int} {a' a3 : Option Addr} {n' c' n3 c3 : Nat} (h : DS w b P C k O p a n c Q q a2 n2 c2 wx) (g : wx.grownBy (((wx.setCell ⟨w.heap.size, 0, none⟩ (.int .i64 x')).setCell ⟨w.heap.size, 1, none⟩ (.int .i64 y')).setCell ⟨w.heap.size, 2, none⟩ (.slice a3 n3 c3)) (some w.heap.size)) (hr : wx.heap[w.heap.size]? = some (.cells #[.int .i64 x, .int .i64 y, .slice a' n' c'] 25 (0, 0))) :
 DS w b P C (k + 1) O p a n c Q q a2 n2 c2 (((wx.setCell ⟨w.heap.size, 0, none⟩ (.int .i64 x')).setCell ⟨w.heap.size, 1, none⟩ (.int .i64 y')).setCell ⟨w.heap.size, 2, none⟩ (.slice a3 n3 c3)) := by
 have q1 := h.hb
 exact h.low g (by omega) (by omega) (h.dg.2.setP3 hr (by omega)) ⟨_, _, _, _, _, blk_set3 hr⟩ (h.res2.gr g (by simp))
theorem DS.put2 {x y x' y' : Int} {a' a3 : Option Addr} {n' c' n3 c3 : Nat} (h : DS w b P C k O p a n c Q q a2 n2 c2 wx) (g : wx.grownBy (((wx.setCell ⟨w.heap.size + 1, 0, none⟩ (.int .i64 x')).setCell ⟨w.heap.size + 1, 1, none⟩ (.int .i64 y')).setCell ⟨w.heap.size + 1, 2, none⟩ (.slice a3 n3 c3)) (some (w.heap.size + 1))) (hr : wx.heap[w.heap.size + 1]? = some (.cells #[.int .i64 x, .int .i64 y, .slice a' n' c'] 25 (0, 0))) :
 DS w b P C (k + 1) O p a n c Q q a2 n2 c2 (((wx.setCell ⟨w.heap.size + 1, 0, none⟩ (.int .i64 x')).setCell ⟨w.heap.size + 1, 1, none⟩ (.int .i64 y')).setCell ⟨w.heap.size + 1, 2, none⟩ (.slice a3 n3 c3)) := by
 have q1 := h.hb
 exact h.low g (by omega) (by omega) (h.dg.2.setP3 hr (by omega)) (h.res1.gr g (by simp)) ⟨_, _, _, _, _, blk_set3 hr⟩
theorem DS.lift (h : DS w b P C k O p a n c Q q a2 n2 c2 wx) : Ext w wx := Ext.grown (Below.refl _ _) h.dg.1 (fun k hk => by have := h.hb; simp at hk; omega)
end
def DS3 (B : World → Nat → Prop) (w : World) (b P C k O : Nat) (p : Pic) (a : Option Addr) (n c Q : Nat) (q : Pic) (a2 : Option Addr) (n2 c2 : Nat) (wx : World) : Prop := DS w b P C k O p a n c Q q a2 n2 c2 wx ∧ B wx (w.heap.size + 2) ∧ w.heap.size + 3 ≤ b ∧ ∀ (wa wb : World) (r x : Nat), B wa x → wa.grownBy wb (some r) → r ≠ x → B wb x
section
variable {B : World → Nat → Prop} {w wx wy : World} {b P C k O n c Q n2 c2 : Nat} {p q : Pic} {a a2 : Option Addr}
theorem DS3.step (h : DS3 B w b P C k O p a n c Q q a2 n2 c2 wx) : DS3 B w b P C (k + 1) O p a n c Q q a2 n2 c2 wx := ⟨h.1.step, h.2⟩
theorem DS3.more {c' : Nat} (h : DS3 B w b P C k O p a n c Q q a2 n2 c2 wx) (e : wx.grownBy wy (some b)) (r : RdP wy b (P + k * C + c')) (hc : c' ≤ C) : DS3 B w b P C (k + 1) O p a n c Q q a2 n2 c2 wy := ⟨h.1.more e r hc, h.2.2.2 _ _ _ _ h.2.1 e (by have := h.2.2.1; omega), h.2.2⟩
theorem DS3.ext (h : DS3 B w b P C k O p a n c Q q a2 n2 c2 wx) (e : Ext wx wy) : DS3 B w b P C (k + 1) O p a n c Q q a2 n2 c2 wy := ⟨h.1.ext e, h.2.2.2 _ _ _ _ h.2.1 (ext_gr e : wx.grownBy wy (some b)) (by have := h.2.2.1; omega), h.2.2⟩
end
set_option maxRecDepth 100000 in
set_option maxHeartbeats 2000000 in
theorem DrawIntraMacro_any (s : Option Addr) (cc m : Nat) (bs : List Int) (w : World) (hc : m ≤ cc) (hc2 : cc ≤ 9223372036854775807) (r : Sl w s m (bs.map (Value.int .u8))) (hz : ∀ z ∈ bs, 0 ≤ z ∧ z ≤ 255) :
 Calls Tryd.prog 30 #[.slice s m cc] w fun e w' => ∃ (p q : Pic) (a a2 : Option Addr) (c n c2 n2 : Nat) (x y qq top : Int), e = .returned (.tuple #[.agg #[.int .i64 p.w, .int .i64 p.h, .slice a n c], .agg #[.int .i64 q.w, .int .i64 q.h, .slice a2 n2 c2], .int .i64 x, .int .i64 y, .int .i64 qq, .int .i64 top]) ∧ (-1 ≤ qq ∧ qq ≤ 16) ∧ (n = p.px.length ∧ n ≤ 1024 ∧ Sl w' a n (p.px.map (Value.int .i64))) ∧ (n2 = q.px.length ∧ n2 ≤ 1024 ∧ Sl w' a2 n2 (q.px.map (Value.int .i64))) ∧ Ext w w' := by
 have e0 : Ext w ((w.alloc (.cells #[.int .i64 0, .int .i64 0, .slice none 0 0] 25)).alloc (.cells #[.int .i64 0, .int .i64 0, .slice none 0 0] 25)) := (Ext.alloc w _).trans (Ext.alloc _ _)
 have R0 : PB0 ((w.alloc (.cells #[.int .i64 0, .int .i64 0, .slice none 0 0] 25)).alloc (.cells #[.int .i64 0, .int .i64 0, .slice none 0 0] 25)) w.heap.size := ⟨0, 0, none, 0, 0, (Ext.alloc _ _).blk (blk_new w _)⟩
 have R1 : PB0 ((w.alloc (.cells #[.int .i64 0, .int .i64 0, .slice none 0 0] 25)).alloc (.cells #[.int .i64 0, .int .i64 0, .slice none 0 0] 25)) (w.heap.size + 1) := ⟨0, 0, none, 0, 0, by have := blk_new (w.alloc (.cells #[.int .i64 0, .int .i64 0, .slice none 0 0] 25)) (.cells #[.int .i64 0, .int .i64 0, .slice none 0 0] 25); rwa [World.size_alloc] at this⟩
 have z0 : w.heap.size + 2 ≤ ((w.alloc (.cells #[.int .i64 0, .int .i64 0, .slice none 0 0] 25)).alloc (.cells #[.int .i64 0, .int .i64 0, .slice none 0 0] 25)).heap.size := by simp
 go_enter Tryd.func30, Tryd.ntmps30
 go_upto_region 1 with fail
 try simp only [World.size_alloc]
 generalize ((w.alloc (.cells #[.int .i64 0, .int .i64 0, .slice none 0 0] 25)).alloc (.cells #[.int .i64 0, .int .i64 0, .slice none 0 0] 25)) = w0 at *
 go_wp2_with fail
 refine (open_any s cc m bs _ hc hc2 (r.ext e0) hz).mono ?_
 rintro e w1 ⟨b, rfl, rd, e1, hb⟩
 have hRb : w.heap.size + 2 ≤ b := by omega
 have E1 := e0.trans e1
 have r1 : RdP w1 b 0 := ⟨0, by omega, rd⟩
 have S0 := R0.ext e1
 have S1 := R1.ext e1
 clear e0 e1 R0 R1 z0 rd hb hz 
 go_wp2_with fail
 refine (l20Pair_c b 0 14 _ r1 (by omega) (by omega) (by omega)).mono ?_
 rintro e w2 ⟨p, q, a, a2, c, n, c2, n2, rfl, A2, B2, r2, g2⟩
 have hb1 := r1.lt
 have G2 := grown_trans (ext_gr E1 : w.grownBy _ (some b)) g2
 have S2 := S0.gr g2 (by simp; omega)
 have T2 := S1.gr g2 (by simp; omega)
 obtain ⟨O, hO⟩ : ∃ O, O = w2.heap.size := ⟨_, rfl⟩
 have D3 : DS w b 8000 10 0 O p a n c (O + 1) q a2 n2 c2 ((w2.alloc (.cells #[.int .i64 p.w, .int .i64 p.h, .slice a n c] 25)).alloc (.cells #[.int .i64 q.w, .int .i64 q.h, .slice a2 n2 c2] 25)) := by
  have e3 : Ext w2 ((w2.alloc (.cells #[.int .i64 p.w, .int .i64 p.h, .slice a n c] 25)).alloc (.cells #[.int .i64 q.w, .int .i64 q.h, .slice a2 n2 c2] 25)) := (Ext.alloc w2 _).trans (Ext.alloc _ _)
  refine ⟨⟨grown_ext G2 e3, (r2.ext e3).mono (by omega)⟩, by rw [hO]; exact (Ext.alloc _ _).blk (blk_new _ _), ?_, S2.ext e3, T2.ext e3, A2.2.2.2.2.1.ext e3, B2.2.2.2.2.1.ext e3, by omega, by rw [hO]; exact Nat.lt_of_lt_of_le hb1 g2.size, by omega, fun y hy => by have := (A2.2.2.2.2.2 y hy).1; omega, fun y hy => by have := (B2.2.2.2.2.2 y hy).1; omega⟩
  have := blk_new (w2.alloc (.cells #[.int .i64 p.w, .int .i64 p.h, .slice a n c] 25)) (.cells #[.int .i64 q.w, .int .i64 q.h, .slice a2 n2 c2] 25)
  rwa [World.size_alloc, ← hO] at this
 have HA := Lib.hid (show n = p.px.length ∧ n ≤ 1024 from ⟨A2.1, A2.2.1⟩)
 have HB := Lib.hid (show n2 = q.px.length ∧ n2 ≤ 1024 from ⟨B2.1, B2.2.1⟩)
 have hAt : (-8 ≤ p.w ∧ p.w ≤ 40) ∧ 0 ≤ p.h ∧ p.h ≤ 40 := ⟨A2.2.2.1, A2.2.2.2.1⟩
 clear A2 B2 r2 g2 G2 S2 T2 S0 S1 E1 r1 r 
 go_upto_region 3 with fail
 try simp only [World.size_alloc]
 rw [← hO]
 generalize (w2.alloc (.cells #[.int .i64 p.w, .int .i64 p.h, .slice a n c] 25)).alloc (.cells #[.int .i64 q.w, .int .i64 q.h, .slice a2 n2 c2] 25) = w3 at *
 clear hO
 obtain ⟨k0, k1, k2⟩ := D3.bx1.cells
 go_wp2_with fail
 refine (l20At_c b _ p.w p.h a c n 14 _ D3.dg.2 (by omega) (by omega) (by omega) hAt.1 hAt.2).mono ?_
 rintro e w4 ⟨x, y, rfl, hy0, hy1, r4, g4⟩
 have D4 : DS w b 8100 10 0 O p a n c (O + 1) q a2 n2 c2 w4 := D3.grb g4 ⟨grown_trans D3.dg.1 g4, r4.mono (by omega)⟩
 clear D3 r4 g4 k0 k1 k2 
 go_upto_region 4 with fail
 obtain ⟨Q, hQ⟩ : ∃ Q, Q = O + 1 := ⟨_, rfl⟩
 rw [← hQ] at D4
 rw [← hQ]
 have hQO := D4.hQ
 have hbO := D4.hO
 have hRb2 := D4.hb
 clear hQ
 have hext : ∀ (i : Nat) (own : Value) (ys : Nat → Value) (wa wb : World), wa.grownBy wb (some b) → (match i with | 0 => own = .agg #[.int .i64 p.w, .int .i64 p.h, .slice a n c] | 1 => own = .agg #[.int .i64 q.w, .int .i64 q.h, .slice a2 n2 c2] | 2 => own = .int .i64 x | 3 => own = .int .i64 (y) | 4 => own = .pointer (some ⟨b, 0, none⟩) | 5 => ∃ x : Int, own = .int .i64 x ∧ -1 ≤ x ∧ x ≤ 16 | 6 => own = .int .i64 (y) | 7 => own = .pointer (some ⟨b, 0, none⟩) | 8 => ∃ x : Int, own = .int .i64 x ∧ 0 ≤ x ∧ x < 9 | 9 => ∃ x : Int, own = .int .i64 x ∧ -1 ≤ x ∧ x ≤ 7 | 10 => SlR wa (b + 1) own 3 (-1) (32) | 11 => own = .pointer (some ⟨b, 0, none⟩) | 12 => ∃ x : Int, own = .int .i64 x ∧ 0 ≤ x ∧ x < 3 | 13 => PtR wa (b + 1) own (-1) (32) | 14 => ∃ x : Int, own = .int .i64 x ∧ -1 ≤ x ∧ x ≤ 32 | 15 => PBx wa w.heap.size p a n c | 16 => PBx wa (w.heap.size + 1) q a2 n2 c2 | 17 => own = .int .i64 x | 18 => own = .int .i64 (y) | 19 => ∃ x : Int, own = .int .i64 x ∧ -1 ≤ x ∧ x ≤ 16 | 20 => ∃ x : Int, own = .int .i64 x ∧ -1 ≤ x ∧ x ≤ 32 | _ => True) → (match i with | 0 => own = .agg #[.int .i64 p.w, .int .i64 p.h, .slice a n c] | 1 => own = .agg #[.int .i64 q.w, .int .i64 q.h, .slice a2 n2 c2] | 2 => own = .int .i64 x | 3 => own = .int .i64 (y) | 4 => own = .pointer (some ⟨b, 0, none⟩) | 5 => ∃ x : Int, own = .int .i64 x ∧ -1 ≤ x ∧ x ≤ 16 | 6 => own = .int .i64 (y) | 7 => own = .pointer (some ⟨b, 0, none⟩) | 8 => ∃ x : Int, own = .int .i64 x ∧ 0 ≤ x ∧ x < 9 | 9 => ∃ x : Int, own = .int .i64 x ∧ -1 ≤ x ∧ x ≤ 7 | 10 => SlR wb (b + 1) own 3 (-1) (32) | 11 => own = .pointer (some ⟨b, 0, none⟩) | 12 => ∃ x : Int, own = .int .i64 x ∧ 0 ≤ x ∧ x < 3 | 13 => PtR wb (b + 1) own (-1) (32) | 14 => ∃ x : Int, own = .int .i64 x ∧ -1 ≤ x ∧ x ≤ 32 | 15 => PBx wb w.heap.size p a n c | 16 => PBx wb (w.heap.size + 1) q a2 n2 c2 | 17 => own = .int .i64 x | 18 => own = .int .i64 (y) | 19 => ∃ x : Int, own = .int .i64 x ∧ -1 ≤ x ∧ x ≤ 16 | 20 => ∃ x : Int, own = .int .i64 x ∧ -1 ≤ x ∧ x ≤ 32 | _ => True) := by
  intro i own ys wa wb e h
  match i, h with
  | 0, h => exact h
  | 1, h => exact h
  | 2, h => exact h
  | 3, h => exact h
  | 4, h => exact h
  | 5, h => exact h
  | 6, h => exact h
  | 7, h => exact h
  | 8, h => exact h
  | 9, h => exact h
  | 10, h => exact h.grown e (by omega)
  | 11, h => exact h
  | 12, h => exact h
  | 13, h => exact h.grown e (by omega)
  | 14, h => exact h
  | 15, h => exact PBx.gr h e (by simp; omega)
  | 16, h => exact PBx.gr h e (by simp; omega)
  | 17, h => exact h
  | 18, h => exact h
  | 19, h => exact h
  | 20, h => exact h
  | _ + 21, _ => trivial
 have Hext := Lib.hid hext
 clear hext
 refine wp_region_inv2 (by kernel_rfl) [(4, 17), (5, 18), (6, 19), (7, 20), (26, 0), (27, 1), (28, 2), (29, 3), (30, 4), (31, 5), (32, 6), (33, 7), (34, 8), (35, 9), (36, 10), (37, 11), (38, 12), (39, 13), (40, 14)] [[], [], [], [], [], [4], [], [], [4, 5, 7], [4, 5, 7, 8], [4, 5, 6, 7, 8, 9], [], [4, 5, 7, 8, 11], [4, 5, 6, 7, 8, 9, 10, 11, 12], [4, 5, 6, 7, 8, 9, 10, 11, 12, 13], [0, 4, 5, 7, 8, 11, 12], [0, 1, 4, 5, 7, 8, 11, 12, 15], [0, 1, 2, 4, 5, 7, 8, 11, 12, 15, 16], [0, 1, 2, 3, 4, 5, 7, 8, 11, 12, 15, 16, 17], [0, 1, 2, 3, 4, 5, 7, 8, 11, 12, 15, 16, 17, 18], [0, 1, 2, 3, 4, 5, 6, 7, 8, 9, 10, 11, 12, 13, 14, 15, 16, 17, 18, 19]] (fun i own ys wx => match i with | 0 => own = .agg #[.int .i64 p.w, .int .i64 p.h, .slice a n c] | 1 => own = .agg #[.int .i64 q.w, .int .i64 q.h, .slice a2 n2 c2] | 2 => own = .int .i64 x | 3 => own = .int .i64 (y) | 4 => own = .pointer (some ⟨b, 0, none⟩) | 5 => ∃ x : Int, own = .int .i64 x ∧ -1 ≤ x ∧ x ≤ 16 | 6 => own = .int .i64 (y) | 7 => own = .pointer (some ⟨b, 0, none⟩) | 8 => ∃ x : Int, own = .int .i64 x ∧ 0 ≤ x ∧ x < 9 | 9 => ∃ x : Int, own = .int .i64 x ∧ -1 ≤ x ∧ x ≤ 7 | 10 => SlR wx (b + 1) own 3 (-1) (32) | 11 => own = .pointer (some ⟨b, 0, none⟩) | 12 => ∃ x : Int, own = .int .i64 x ∧ 0 ≤ x ∧ x < 3 | 13 => PtR wx (b + 1) own (-1) (32) | 14 => ∃ x : Int, own = .int .i64 x ∧ -1 ≤ x ∧ x ≤ 32 | 15 => PBx wx w.heap.size p a n c | 16 => PBx wx (w.heap.size + 1) q a2 n2 c2 | 17 => own = .int .i64 x | 18 => own = .int .i64 (y) | 19 => ∃ x : Int, own = .int .i64 x ∧ -1 ≤ x ∧ x ≤ 16 | 20 => ∃ x : Int, own = .int .i64 x ∧ -1 ≤ x ∧ x ≤ 32 | _ => True) (fun kx wx => DS w b 8100 10 kx O p a n c Q q a2 n2 c2 wx) (by kernel_rfl) (by kernel_rfl) (by kernel_rfl) ?g0_r1 ?gop_r1 ?gend_r1
 case g0_r1 => exact D4.grb (ext_gr (Ext.drewN _ 1)) D4.dg.drew
 case gop_r1 =>
  refine ⟨?_, ?_, ?_, ?_, ?_, ?_, ?_, ?_, ?_, ?_, ?_, ?_, ?_, ?_, ?_, ?_, ?_, ?_, ?_, ?_, ?_, trivial⟩
  ·intro kx xs wx hk hG hD hI Qo Kx hK hQo
   clear hD hI
   simp only [patchS, Nat.reduceAdd, Nat.reduceEqDiff, ↓reduceIte] at hQo ⊢
   obtain ⟨k0, k1, k2⟩ := hG.bx1.cells
   go_wp2
   exact hK.out _ _ ⟨rfl, hG.step, fun _ _ _ _ _ _ h => h⟩
  ·intro kx xs wx hk hG hD hI Qo Kx hK hQo
   clear hD hI
   simp only [patchS, Nat.reduceAdd, Nat.reduceEqDiff, ↓reduceIte] at hQo ⊢
   obtain ⟨k0, k1, k2⟩ := hG.bx2.cells
   go_wp2
   exact hK.out _ _ ⟨rfl, hG.step, fun _ _ _ _ _ _ h => h⟩
  ·intro kx xs wx hk hG hD hI Qo Kx hK hQo
   clear hD hI
   simp only [patchS, Nat.reduceAdd, Nat.reduceEqDiff, ↓reduceIte] at hQo ⊢
   go_wp2
   exact hK.out _ _ ⟨rfl, hG.step, fun _ _ _ _ _ _ h => h⟩
  ·intro kx xs wx hk hG hD hI Qo Kx hK hQo
   clear hD hI
   simp only [patchS, Nat.reduceAdd, Nat.reduceEqDiff, ↓reduceIte] at hQo ⊢
   go_wp2
   exact hK.out _ _ ⟨rfl, hG.step, fun _ _ _ _ _ _ h => h⟩
  ·intro kx xs wx hk hG hD hI Qo Kx hK hQo
   clear hD hI
   simp only [patchS, Nat.reduceAdd, Nat.reduceEqDiff, ↓reduceIte] at hQo ⊢
   go_wp2
   exact hK.out _ _ ⟨rfl, hG.step, fun _ _ _ _ _ _ h => h⟩
  ·intro kx xs wx hk hG hD hI Qo Kx hK hQo
   have d4 : (xs 4) = .pointer (some ⟨b, 0, none⟩) := hD 4 rfl
   clear hD hI
   simp only [patchS, Nat.reduceAdd, Nat.reduceEqDiff, ↓reduceIte] at hQo ⊢
   generalize xs 4 = y4 at *
   subst d4
   go_wp2_with fail
   refine (l20Q_c b _ 14 _ hG.dg.2 (DG.bd hk (by decide) (by decide) (by decide)) (by omega) (by omega)).mono ?_
   rintro e w4 ⟨xx, rfl, xa, xb, rd, gr⟩
   go_wp2
   exact hK.out _ _ ⟨⟨xx, rfl, xa, xb⟩, hG.more gr rd (by decide), fun i _ _ _ own ys h => Hext.out i own ys _ _ gr h⟩
  ·intro kx xs wx hk hG hD hI Qo Kx hK hQo
   clear hD hI
   simp only [patchS, Nat.reduceAdd, Nat.reduceEqDiff, ↓reduceIte] at hQo ⊢
   go_wp2
   exact hK.out _ _ ⟨rfl, hG.step, fun _ _ _ _ _ _ h => h⟩
  ·intro kx xs wx hk hG hD hI Qo Kx hK hQo
   clear hD hI
   simp only [patchS, Nat.reduceAdd, Nat.reduceEqDiff, ↓reduceIte] at hQo ⊢
   go_wp2
   exact hK.out _ _ ⟨rfl, hG.step, fun _ _ _ _ _ _ h => h⟩
  ·intro kx xs wx hk hG hD hI Qo Kx hK hQo
   have d7 : (xs 7) = .pointer (some ⟨b, 0, none⟩) := hD 7 rfl
   clear hD hI
   simp only [patchS, Nat.reduceAdd, Nat.reduceEqDiff, ↓reduceIte] at hQo ⊢
   generalize xs 7 = y7 at *
   subst d7
   go_wp2_with fail
   refine (pick_c _ _ _ _ hG.dg.2 (DG.small hk (by decide) (by decide) (by omega)) (by omega) (by omega)).mono ?_
   rintro e w4 ⟨xx, rfl, xa, xb, rd, gr⟩
   go_wp2
   exact hK.out _ _ ⟨⟨xx, rfl, xa, by omega⟩, hG.more gr rd (by decide), fun i _ _ _ own ys h => Hext.out i own ys _ _ gr h⟩
  ·intro kx xs wx hk hG hD hI Qo Kx hK hQo
   have d8 : ∃ x : Int, (xs 8) = .int .i64 x ∧ 0 ≤ x ∧ x < 9 := hD 8 rfl
   clear hD hI
   simp only [patchS, Nat.reduceAdd, Nat.reduceEqDiff, ↓reduceIte] at hQo ⊢
   generalize xs 8 = y8 at *
   obtain ⟨x8, rfl, x8a, x8b⟩ := d8
   go_wp2
   exact hK.out _ _ ⟨⟨_, rfl, by omega, by omega⟩, hG.step, fun _ _ _ _ _ _ h => h⟩
  ·intro kx xs wx hk hG hD hI Qo Kx hK hQo
   have d6 : (xs 6) = .int .i64 (y) := hD 6 rfl
   have d9 : ∃ x : Int, (xs 9) = .int .i64 x ∧ -1 ≤ x ∧ x ≤ 7 := hD 9 rfl
   clear hD hI
   simp only [patchS, Nat.reduceAdd, Nat.reduceEqDiff, ↓reduceIte] at hQo ⊢
   generalize xs 6 = y6 at *
   generalize xs 9 = y9 at *
   subst d6
   obtain ⟨x9, rfl, x9a, x9b⟩ := d9
   have e5 := Ext.alloc wx (.cells #[.int .i64 0, .int .i64 y, .int .i64 x9] 3)
   go_wp2
   exact hK.out _ _ ⟨⟨_, [0, y, x9], rfl, by have := hG.dg.2.lt; omega, Sl_new _ _ _, by simp <;> omega⟩, hG.ext e5, fun i _ _ _ own ys h => Hext.out i own ys _ _ (ext_gr e5) h⟩
  ·intro kx xs wx hk hG hD hI Qo Kx hK hQo
   clear hD hI
   simp only [patchS, Nat.reduceAdd, Nat.reduceEqDiff, ↓reduceIte] at hQo ⊢
   go_wp2
   exact hK.out _ _ ⟨rfl, hG.step, fun _ _ _ _ _ _ h => h⟩
  ·intro kx xs wx hk hG hD hI Qo Kx hK hQo
   have d11 : (xs 11) = .pointer (some ⟨b, 0, none⟩) := hD 11 rfl
   clear hD hI
   simp only [patchS, Nat.reduceAdd, Nat.reduceEqDiff, ↓reduceIte] at hQo ⊢
   generalize xs 11 = y11 at *
   subst d11
   go_wp2_with fail
   refine (pick_c _ _ _ _ hG.dg.2 (DG.small hk (by decide) (by decide) (by omega)) (by omega) (by omega)).mono ?_
   rintro e w4 ⟨xx, rfl, xa, xb, rd, gr⟩
   go_wp2
   exact hK.out _ _ ⟨⟨xx, rfl, xa, by omega⟩, hG.more gr rd (by decide), fun i _ _ _ own ys h => Hext.out i own ys _ _ gr h⟩
  ·intro kx xs wx hk hG hD hI Qo Kx hK hQo
   have d10 : SlR wx (b + 1) (xs 10) 3 (-1) (32) := hD 10 rfl
   have d12 : ∃ x : Int, (xs 12) = .int .i64 x ∧ 0 ≤ x ∧ x < 3 := hD 12 rfl
   clear hD hI
   simp only [patchS, Nat.reduceAdd, Nat.reduceEqDiff, ↓reduceIte] at hQo ⊢
   generalize xs 10 = y10 at *
   generalize xs 12 = y12 at *
   obtain ⟨g10, l10, rfl, n10, s10, r10⟩ := d10
   obtain ⟨x12, rfl, x12a, x12b⟩ := d12
   go_wp2
   exact hK.out _ _ ⟨SlR.at n10 s10 r10 (by omega), hG.step, fun _ _ _ _ _ _ h => h⟩
  ·intro kx xs wx hk hG hD hI Qo Kx hK hQo
   have d13 : PtR wx (b + 1) (xs 13) (-1) (32) := hD 13 rfl
   clear hD hI
   simp only [patchS, Nat.reduceAdd, Nat.reduceEqDiff, ↓reduceIte] at hQo ⊢
   generalize xs 13 = y13 at *
   obtain ⟨g13, j13, y13, rfl, n13, c13, y13a, y13b⟩ := d13
   go_wp2
   exact hK.out _ _ ⟨⟨_, rfl, by omega, by omega⟩, hG.step, fun _ _ _ _ _ _ h => h⟩
  ·intro kx xs wx hk hG hD hI Qo Kx hK hQo
   have d0 : (xs 0) = .agg #[.int .i64 p.w, .int .i64 p.h, .slice a n c] := hD 0 rfl
   clear hD hI
   simp only [patchS, Nat.reduceAdd, Nat.reduceEqDiff, ↓reduceIte] at hQo ⊢
   generalize xs 0 = y0 at *
   subst d0
   obtain ⟨x0, y0, a0, n0, c0, hr⟩ := hG.res1
   obtain ⟨-, k0, k1, k2, f0, f1, f2⟩ := bx3 hr
   go_wp2
   have hst : ∀ (wy : World), wx.grownBy wy (some w.heap.size) → ∀ (ii : Nat), ii < 21 → ii ≠ 15 → ([[], [], [], [], [], [4], [], [], [4, 5, 7], [4, 5, 7, 8], [4, 5, 6, 7, 8, 9], [], [4, 5, 7, 8, 11], [4, 5, 6, 7, 8, 9, 10, 11, 12], [4, 5, 6, 7, 8, 9, 10, 11, 12, 13], [0, 4, 5, 7, 8, 11, 12], [0, 1, 4, 5, 7, 8, 11, 12, 15], [0, 1, 2, 4, 5, 7, 8, 11, 12, 15, 16], [0, 1, 2, 3, 4, 5, 7, 8, 11, 12, 15, 16, 17], [0, 1, 2, 3, 4, 5, 7, 8, 11, 12, 15, 16, 17, 18], [0, 1, 2, 3, 4, 5, 6, 7, 8, 9, 10, 11, 12, 13, 14, 15, 16, 17, 18, 19]].getD ii []).contains 15 = false → ∀ (own : Value) (ys : Nat → Value), (match ii with | 0 => own = .agg #[.int .i64 p.w, .int .i64 p.h, .slice a n c] | 1 => own = .agg #[.int .i64 q.w, .int .i64 q.h, .slice a2 n2 c2] | 2 => own = .int .i64 x | 3 => own = .int .i64 (y) | 4 => own = .pointer (some ⟨b, 0, none⟩) | 5 => ∃ x : Int, own = .int .i64 x ∧ -1 ≤ x ∧ x ≤ 16 | 6 => own = .int .i64 (y) | 7 => own = .pointer (some ⟨b, 0, none⟩) | 8 => ∃ x : Int, own = .int .i64 x ∧ 0 ≤ x ∧ x < 9 | 9 => ∃ x : Int, own = .int .i64 x ∧ -1 ≤ x ∧ x ≤ 7 | 10 => SlR wx (b + 1) own 3 (-1) (32) | 11 => own = .pointer (some ⟨b, 0, none⟩) | 12 => ∃ x : Int, own = .int .i64 x ∧ 0 ≤ x ∧ x < 3 | 13 => PtR wx (b + 1) own (-1) (32) | 14 => ∃ x : Int, own = .int .i64 x ∧ -1 ≤ x ∧ x ≤ 32 | 15 => PBx wx w.heap.size p a n c | 16 => PBx wx (w.heap.size + 1) q a2 n2 c2 | 17 => own = .int .i64 x | 18 => own = .int .i64 (y) | 19 => ∃ x : Int, own = .int .i64 x ∧ -1 ≤ x ∧ x ≤ 16 | 20 => ∃ x : Int, own = .int .i64 x ∧ -1 ≤ x ∧ x ≤ 32 | _ => True) → (match ii with | 0 => own = .agg #[.int .i64 p.w, .int .i64 p.h, .slice a n c] | 1 => own = .agg #[.int .i64 q.w, .int .i64 q.h, .slice a2 n2 c2] | 2 => own = .int .i64 x | 3 => own = .int .i64 (y) | 4 => own = .pointer (some ⟨b, 0, none⟩) | 5 => ∃ x : Int, own = .int .i64 x ∧ -1 ≤ x ∧ x ≤ 16 | 6 => own = .int .i64 (y) | 7 => own = .pointer (some ⟨b, 0, none⟩) | 8 => ∃ x : Int, own = .int .i64 x ∧ 0 ≤ x ∧ x < 9 | 9 => ∃ x : Int, own = .int .i64 x ∧ -1 ≤ x ∧ x ≤ 7 | 10 => SlR wy (b + 1) own 3 (-1) (32) | 11 => own = .pointer (some ⟨b, 0, none⟩) | 12 => ∃ x : Int, own = .int .i64 x ∧ 0 ≤ x ∧ x < 3 | 13 => PtR wy (b + 1) own (-1) (32) | 14 => ∃ x : Int, own = .int .i64 x ∧ -1 ≤ x ∧ x ≤ 32 | 15 => PBx wy w.heap.size p a n c | 16 => PBx wy (w.heap.size + 1) q a2 n2 c2 | 17 => own = .int .i64 x | 18 => own = .int .i64 (y) | 19 => ∃ x : Int, own = .int .i64 x ∧ -1 ≤ x ∧ x ≤ 16 | 20 => ∃ x : Int, own = .int .i64 x ∧ -1 ≤ x ∧ x ≤ 32 | _ => True) := by
    intro wy hy ii hii hne hc own ys h
    match ii, h with
    | 0, h => exact h
    | 1, h => exact h
    | 2, h => exact h
    | 3, h => exact h
    | 4, h => exact h
    | 5, h => exact h
    | 6, h => exact h
    | 7, h => exact h
    | 8, h => exact h
    | 9, h => exact h
    | 10, h => exact h.grown hy (by omega)
    | 11, h => exact h
    | 12, h => exact h
    | 13, h => exact h.grown hy (by omega)
    | 14, h => exact h
    | 15, h => exact absurd rfl hne
    | 16, h => exact absurd hc (by decide)
    | 17, h => exact absurd hc (by decide)
    | 18, h => exact absurd hc (by decide)
    | 19, h => exact absurd hc (by decide)
    | 20, h => exact absurd hc (by decide)
    | _ + 21, _ => trivial
   have gB := gr_set3 wx w.heap.size (.int .i64 p.w) (.int .i64 p.h) (.slice a n c)
   exact hQo undef _ (hK.out _ _ ⟨blk_set3 hr, hG.put1 gB hr, hst _ gB⟩)
  ·intro kx xs wx hk hG hD hI Qo Kx hK hQo
   have d1 : (xs 1) = .agg #[.int .i64 q.w, .int .i64 q.h, .slice a2 n2 c2] := hD 1 rfl
   clear hD hI
   simp only [patchS, Nat.reduceAdd, Nat.reduceEqDiff, ↓reduceIte] at hQo ⊢
   generalize xs 1 = y1 at *
   subst d1
   obtain ⟨x0, y0, a0, n0, c0, hr⟩ := hG.res2
   obtain ⟨-, k0, k1, k2, f0, f1, f2⟩ := bx3 hr
   go_wp2
   have hst : ∀ (wy : World), wx.grownBy wy (some (w.heap.size + 1)) → ∀ (ii : Nat), ii < 21 → ii ≠ 16 → ([[], [], [], [], [], [4], [], [], [4, 5, 7], [4, 5, 7, 8], [4, 5, 6, 7, 8, 9], [], [4, 5, 7, 8, 11], [4, 5, 6, 7, 8, 9, 10, 11, 12], [4, 5, 6, 7, 8, 9, 10, 11, 12, 13], [0, 4, 5, 7, 8, 11, 12], [0, 1, 4, 5, 7, 8, 11, 12, 15], [0, 1, 2, 4, 5, 7, 8, 11, 12, 15, 16], [0, 1, 2, 3, 4, 5, 7, 8, 11, 12, 15, 16, 17], [0, 1, 2, 3, 4, 5, 7, 8, 11, 12, 15, 16, 17, 18], [0, 1, 2, 3, 4, 5, 6, 7, 8, 9, 10, 11, 12, 13, 14, 15, 16, 17, 18, 19]].getD ii []).contains 16 = false → ∀ (own : Value) (ys : Nat → Value), (match ii with | 0 => own = .agg #[.int .i64 p.w, .int .i64 p.h, .slice a n c] | 1 => own = .agg #[.int .i64 q.w, .int .i64 q.h, .slice a2 n2 c2] | 2 => own = .int .i64 x | 3 => own = .int .i64 (y) | 4 => own = .pointer (some ⟨b, 0, none⟩) | 5 => ∃ x : Int, own = .int .i64 x ∧ -1 ≤ x ∧ x ≤ 16 | 6 => own = .int .i64 (y) | 7 => own = .pointer (some ⟨b, 0, none⟩) | 8 => ∃ x : Int, own = .int .i64 x ∧ 0 ≤ x ∧ x < 9 | 9 => ∃ x : Int, own = .int .i64 x ∧ -1 ≤ x ∧ x ≤ 7 | 10 => SlR wx (b + 1) own 3 (-1) (32) | 11 => own = .pointer (some ⟨b, 0, none⟩) | 12 => ∃ x : Int, own = .int .i64 x ∧ 0 ≤ x ∧ x < 3 | 13 => PtR wx (b + 1) own (-1) (32) | 14 => ∃ x : Int, own = .int .i64 x ∧ -1 ≤ x ∧ x ≤ 32 | 15 => PBx wx w.heap.size p a n c | 16 => PBx wx (w.heap.size + 1) q a2 n2 c2 | 17 => own = .int .i64 x | 18 => own = .int .i64 (y) | 19 => ∃ x : Int, own = .int .i64 x ∧ -1 ≤ x ∧ x ≤ 16 | 20 => ∃ x : Int, own = .int .i64 x ∧ -1 ≤ x ∧ x ≤ 32 | _ => True) → (match ii with | 0 => own = .agg #[.int .i64 p.w, .int .i64 p.h, .slice a n c] | 1 => own = .agg #[.int .i64 q.w, .int .i64 q.h, .slice a2 n2 c2] | 2 => own = .int .i64 x | 3 => own = .int .i64 (y) | 4 => own = .pointer (some ⟨b, 0, none⟩) | 5 => ∃ x : Int, own = .int .i64 x ∧ -1 ≤ x ∧ x ≤ 16 | 6 => own = .int .i64 (y) | 7 => own = .pointer (some ⟨b, 0, none⟩) | 8 => ∃ x : Int, own = .int .i64 x ∧ 0 ≤ x ∧ x < 9 | 9 => ∃ x : Int, own = .int .i64 x ∧ -1 ≤ x ∧ x ≤ 7 | 10 => SlR wy (b + 1) own 3 (-1) (32) | 11 => own = .pointer (some ⟨b, 0, none⟩) | 12 => ∃ x : Int, own = .int .i64 x ∧ 0 ≤ x ∧ x < 3 | 13 => PtR wy (b + 1) own (-1) (32) | 14 => ∃ x : Int, own = .int .i64 x ∧ -1 ≤ x ∧ x ≤ 32 | 15 => PBx wy w.heap.size p a n c | 16 => PBx wy (w.heap.size + 1) q a2 n2 c2 | 17 => own = .int .i64 x | 18 => own = .int .i64 (y) | 19 => ∃ x : Int, own = .int .i64 x ∧ -1 ≤ x ∧ x ≤ 16 | 20 => ∃ x : Int, own = .int .i64 x ∧ -1 ≤ x ∧ x ≤ 32 | _ => True) := by
    intro wy hy ii hii hne hc own ys h
    match ii, h with
    | 0, h => exact h
    | 1, h => exact h
    | 2, h => exact h
    | 3, h => exact h
    | 4, h => exact h
    | 5, h => exact h
    | 6, h => exact h
    | 7, h => exact h
    | 8, h => exact h
    | 9, h => exact h
    | 10, h => exact h.grown hy (by omega)
    | 11, h => exact h
    | 12, h => exact h
    | 13, h => exact h.grown hy (by omega)
    | 14, h => exact h
    | 15, h => exact PBx.gr h hy (by simp)
    | 16, h => exact absurd rfl hne
    | 17, h => exact absurd hc (by decide)
    | 18, h => exact absurd hc (by decide)
    | 19, h => exact absurd hc (by decide)
    | 20, h => exact absurd hc (by decide)
    | _ + 21, _ => trivial
   have gB := gr_set3 wx (w.heap.size + 1) (.int .i64 q.w) (.int .i64 q.h) (.slice a2 n2 c2)
   exact hQo undef _ (hK.out _ _ ⟨blk_set3 hr, hG.put2 gB hr, hst _ gB⟩)
  ·intro kx xs wx hk hG hD hI Qo Kx hK hQo
   have d2 : (xs 2) = .int .i64 x := hD 2 rfl
   clear hD hI
   simp only [patchS, Nat.reduceAdd, Nat.reduceEqDiff, ↓reduceIte] at hQo ⊢
   generalize xs 2 = y2 at *
   subst d2
   go_wp2
   exact hK.out _ _ ⟨rfl, hG.step, fun _ _ _ _ _ _ h => h⟩
  ·intro kx xs wx hk hG hD hI Qo Kx hK hQo
   have d3 : (xs 3) = .int .i64 (y) := hD 3 rfl
   clear hD hI
   simp only [patchS, Nat.reduceAdd, Nat.reduceEqDiff, ↓reduceIte] at hQo ⊢
   generalize xs 3 = y3 at *
   subst d3
   go_wp2
   exact hK.out _ _ ⟨rfl, hG.step, fun _ _ _ _ _ _ h => h⟩
  ·intro kx xs wx hk hG hD hI Qo Kx hK hQo
   have d5 : ∃ x : Int, (xs 5) = .int .i64 x ∧ -1 ≤ x ∧ x ≤ 16 := hD 5 rfl
   clear hD hI
   simp only [patchS, Nat.reduceAdd, Nat.reduceEqDiff, ↓reduceIte] at hQo ⊢
   generalize xs 5 = y5 at *
   obtain ⟨x5, rfl, x5a, x5b⟩ := d5
   go_wp2
   exact hK.out _ _ ⟨⟨_, rfl, by omega, by omega⟩, hG.step, fun _ _ _ _ _ _ h => h⟩
  ·intro kx xs wx hk hG hD hI Qo Kx hK hQo
   have d14 : ∃ x : Int, (xs 14) = .int .i64 x ∧ -1 ≤ x ∧ x ≤ 32 := hD 14 rfl
   clear hD hI
   simp only [patchS, Nat.reduceAdd, Nat.reduceEqDiff, ↓reduceIte] at hQo ⊢
   generalize xs 14 = y14 at *
   obtain ⟨x14, rfl, x14a, x14b⟩ := d14
   go_wp2
   exact hK.out _ _ ⟨⟨_, rfl, by omega, by omega⟩, hG.step, fun _ _ _ _ _ _ h => h⟩
 clear Hext
 intro xs wx hV hG
 have d0 : (xs 0) = .agg #[.int .i64 p.w, .int .i64 p.h, .slice a n c] := hV 0 (by decide)
 have d1 : (xs 1) = .agg #[.int .i64 q.w, .int .i64 q.h, .slice a2 n2 c2] := hV 1 (by decide)
 have d2 : (xs 2) = .int .i64 x := hV 2 (by decide)
 have d3 : (xs 3) = .int .i64 (y) := hV 3 (by decide)
 have d4 : (xs 4) = .pointer (some ⟨b, 0, none⟩) := hV 4 (by decide)
 have d5 : ∃ x : Int, (xs 5) = .int .i64 x ∧ -1 ≤ x ∧ x ≤ 16 := hV 5 (by decide)
 have d6 : (xs 6) = .int .i64 (y) := hV 6 (by decide)
 have d7 : (xs 7) = .pointer (some ⟨b, 0, none⟩) := hV 7 (by decide)
 have d8 : ∃ x : Int, (xs 8) = .int .i64 x ∧ 0 ≤ x ∧ x < 9 := hV 8 (by decide)
 have d9 : ∃ x : Int, (xs 9) = .int .i64 x ∧ -1 ≤ x ∧ x ≤ 7 := hV 9 (by decide)
 have d10 : SlR wx (b + 1) (xs 10) 3 (-1) (32) := hV 10 (by decide)
 have d11 : (xs 11) = .pointer (some ⟨b, 0, none⟩) := hV 11 (by decide)
 have d12 : ∃ x : Int, (xs 12) = .int .i64 x ∧ 0 ≤ x ∧ x < 3 := hV 12 (by decide)
 have d13 : PtR wx (b + 1) (xs 13) (-1) (32) := hV 13 (by decide)
 have d14 : ∃ x : Int, (xs 14) = .int .i64 x ∧ -1 ≤ x ∧ x ≤ 32 := hV 14 (by decide)
 have d15 : PBx wx w.heap.size p a n c := hV 15 (by decide)
 have d16 : PBx wx (w.heap.size + 1) q a2 n2 c2 := hV 16 (by decide)
 have d17 : (xs 17) = .int .i64 x := hV 17 (by decide)
 have d18 : (xs 18) = .int .i64 (y) := hV 18 (by decide)
 have d19 : ∃ x : Int, (xs 19) = .int .i64 x ∧ -1 ≤ x ∧ x ≤ 16 := hV 19 (by decide)
 have d20 : ∃ x : Int, (xs 20) = .int .i64 x ∧ -1 ≤ x ∧ x ≤ 32 := hV 20 (by decide)
 clear hV
 simp only [patchS, Nat.reduceAdd, Nat.reduceEqDiff, ↓reduceIte]
 generalize xs 0 = y0 at *
 generalize xs 1 = y1 at *
 generalize xs 2 = y2 at *
 generalize xs 3 = y3 at *
 generalize xs 4 = y4 at *
 generalize xs 5 = y5 at *
 generalize xs 6 = y6 at *
 generalize xs 7 = y7 at *
 generalize xs 8 = y8 at *
 generalize xs 9 = y9 at *
 generalize xs 10 = y10 at *
 generalize xs 11 = y11 at *
 generalize xs 12 = y12 at *
 generalize xs 13 = y13 at *
 generalize xs 14 = y14 at *
 generalize xs 15 = y15 at *
 generalize xs 16 = y16 at *
 generalize xs 17 = y17 at *
 generalize xs 18 = y18 at *
 generalize xs 19 = y19 at *
 generalize xs 20 = y20 at *
 replace hG : DS w b 8100 10 21 O p a n c Q q a2 n2 c2 wx := hG
 clear d0 d1 d2 d3 d4 d5 d6 d7 d8 d9 d10 d11 d12 d13 d14
 subst d17 d18
 obtain ⟨x19, rfl, x19a, x19b⟩ := d19
 obtain ⟨x20, rfl, x20a, x20b⟩ := d20
 go_wp2
 refine bodyPost_ret (results_cctttt rfl _ _ (w.heap.size) #[.int .i64 p.w, .int .i64 p.h, .slice a n c] rfl (run_loadVar_row _ _ 25 _ _ _ _ d15 Tryd.underlying25 rfl size_Picture) (w.heap.size + 1) #[.int .i64 q.w, .int .i64 q.h, .slice a2 n2 c2] rfl (run_loadVar_row _ _ 25 _ _ _ _ d16 Tryd.underlying25 rfl size_Picture)) rfl ?_
 exact ⟨p, q, a, a2, c, n, c2, n2, x, _, _, _, rfl, ⟨x19a, x19b⟩, ⟨HA.out.1, HA.out.2, hG.sl1⟩, ⟨HB.out.1, HB.out.2, hG.sl2⟩, hG.lift⟩
end Go.Proofs.YtbnhaegidfbgbaaDoor
