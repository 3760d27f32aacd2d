/- Half samples, the samples that predict a macroblock: both sides. | The 64 samples that predict a macroblock: both sides. -/
import Derived.Test.YtbnhaegidfbgbaaDoorQg5
namespace Go.Proofs.YtbnhaegidfbgbaaDoor
open Go.RowKit
set_option maxHeartbeats 1000000
theorem tm_even {x : Int} (h : x % 2 = 0) : (x.tmod 2 == 0) = true := by simp [Int.tmod_eq_zero_of_dvd (Int.dvd_of_emod_eq_zero h)]
theorem tm_odd {x : Int} (h : ¬ x % 2 = 0) : (x.tmod 2 == 0) = false := by
 simp only [beq_eq_false_iff_ne, ne_eq]
 intro h2
 exact h (Int.emod_eq_zero_of_dvd (Int.dvd_of_tmod_eq_zero h2))
theorem half_ee {p : Pic} {x y : Int} (hx : x % 2 = 0) (hy : y % 2 = 0) : hlf p x y = pat p (x / 2) (y / 2) := by unfold hlf; rw [if_pos hy, if_pos hx]
theorem half_oe {p : Pic} {x y : Int} (hx : ¬ x % 2 = 0) (hy : y % 2 = 0) : hlf p x y = (pat p (x / 2) (y / 2) + pat p (x / 2 + 1) (y / 2) + 1) / 2 := by unfold hlf; rw [if_pos hy, if_neg hx]
theorem half_eo {p : Pic} {x y : Int} (hx : x % 2 = 0) (hy : ¬ y % 2 = 0) : hlf p x y = (pat p (x / 2) (y / 2) + pat p (x / 2) (y / 2 + 1) + 1) / 2 := by unfold hlf; rw [if_neg hy, if_pos hx]
theorem half_oo {p : Pic} {x y : Int} (hx : ¬ x % 2 = 0) (hy : ¬ y % 2 = 0) : hlf p x y = (pat p (x / 2) (y / 2) + pat p (x / 2 + 1) (y / 2) + pat p (x / 2) (y / 2 + 1) + pat p (x / 2 + 1) (y / 2 + 1) + 2) / 4 := by unfold hlf; rw [if_neg hy, if_neg hx]
set_option maxRecDepth 100000 in
theorem half_at_ee (p : Pic) (x y : Int) (a : Option Addr) (c n : Nat) (w : World) (hv : p.valid) (hn : n = p.px.length) (r : Sl w a n (p.px.map (Value.int .i64)))
 (x1 : -2000 ≤ x) (x2 : x ≤ 2000) (y1 : -2000 ≤ y) (y2 : y ≤ 2000) (hx : x % 2 = 0) (hy : y % 2 = 0) :
 Calls Tryd.prog 88 #[.agg #[.int .i64 p.w, .int .i64 p.h, .slice a n c], .int .i64 x, .int .i64 y] w fun e w' => e = .returned (.int .i64 (hlf p x y)) ∧ Ext w w' := by
 have hh := half_ee (p := p) hx hy
 have dx : (x / 2 == (x + 1) / 2) = true := by simp; omega
 have dy : (y / 2 == (y + 1) / 2) = true := by simp; omega
 have HH := Lib.hid hh
 clear hx hy hh
 have p0 := blk_new w (.cells #[.int .i64 p.w, .int .i64 p.h, .slice a n c] 25)
 have E0 := Ext.alloc w (.cells #[.int .i64 p.w, .int .i64 p.h, .slice a n c] 25)
 obtain ⟨B, hB⟩ : ∃ B, B = w.heap.size := ⟨_, rfl⟩
 rw [← hB] at p0
 have HB := Lib.hid hB
 have HN := Lib.hid hn
 have HV := Lib.hid hv
 clear hn hv
 obtain ⟨-, k0, k1, k2, -⟩ := bx3 p0
 go_enter Tryd.func88, Tryd.ntmps88
 go_wp2_with fail
 rw [← hB]
 clear hB
 generalize w.alloc (.cells #[.int .i64 p.w, .int .i64 p.h, .slice a n c] 25) = w0 at *
 refine (at_any p (x / 2) (y / 2) a c n _ HV.out HN.out (r.ext E0)).mono ?_
 rintro e w2 ⟨rfl, e2⟩
 go_wp2
 go_ret
 exact ⟨(ret_intH HH).symm, E0.trans e2⟩
set_option maxRecDepth 100000 in
theorem half_at_oe (p : Pic) (x y : Int) (a : Option Addr) (c n : Nat) (w : World) (hv : p.valid) (hn : n = p.px.length) (r : Sl w a n (p.px.map (Value.int .i64)))
 (x1 : -2000 ≤ x) (x2 : x ≤ 2000) (y1 : -2000 ≤ y) (y2 : y ≤ 2000) (hx : ¬ x % 2 = 0) (hy : y % 2 = 0) :
 Calls Tryd.prog 88 #[.agg #[.int .i64 p.w, .int .i64 p.h, .slice a n c], .int .i64 x, .int .i64 y] w fun e w' => e = .returned (.int .i64 (hlf p x y)) ∧ Ext w w' := by
 have hh := half_oe (p := p) hx hy
 have dx : (x / 2 == (x + 1) / 2) = false := by simp; omega
 have dy : (y / 2 == (y + 1) / 2) = true := by simp; omega
 rw [show x / 2 + 1 = (x + 1) / 2 by omega] at hh
 have HH := Lib.hid hh
 clear hx hy hh
 have p0 := blk_new w (.cells #[.int .i64 p.w, .int .i64 p.h, .slice a n c] 25)
 have E0 := Ext.alloc w (.cells #[.int .i64 p.w, .int .i64 p.h, .slice a n c] 25)
 obtain ⟨B, hB⟩ : ∃ B, B = w.heap.size := ⟨_, rfl⟩
 rw [← hB] at p0
 have HB := Lib.hid hB
 have HN := Lib.hid hn
 have HV := Lib.hid hv
 clear hn hv
 obtain ⟨s0, hs0⟩ : ∃ s0, s0 = pat p (x / 2) (y / 2) := ⟨_, rfl⟩
 have b0 := pat_rng HV.out (x / 2) (y / 2)
 rw [← hs0] at b0
 have H0 := Lib.hid hs0
 clear hs0
 obtain ⟨s1, hs1⟩ : ∃ s1, s1 = pat p ((x + 1) / 2) (y / 2) := ⟨_, rfl⟩
 have b1 := pat_rng HV.out ((x + 1) / 2) (y / 2)
 rw [← hs1] at b1
 have H1 := Lib.hid hs1
 clear hs1
 rw [← H0.out, ← H1.out] at HH
 go_enter Tryd.func88, Tryd.ntmps88
 go_wp2_with fail
 rw [← hB]
 clear hB
 generalize w.alloc (.cells #[.int .i64 p.w, .int .i64 p.h, .slice a n c] 25) = w0 at *
 refine wp_region_inv2 (by kernel_rfl) [(6, 11), (38, 0), (39, 1), (40, 2), (41, 3), (42, 4), (43, 5), (44, 6), (45, 7), (46, 8), (47, 9), (48, 10)] [[], [], [], [0, 1, 2], [], [], [], [0, 1, 2, 3, 4, 5, 6], [0, 1, 2, 3, 4, 5, 6, 7], [0, 1, 2, 3, 4, 5, 6, 7, 8], [0, 1, 2, 3, 4, 5, 6, 7, 8, 9], [0, 1, 2, 3, 4, 5, 6, 7, 8, 9, 10]] (fun i own ys wx => match i with | 0 => own = .agg #[.int .i64 p.w, .int .i64 p.h, .slice a n c] | 1 => own = .int .i64 (x / 2) | 2 => own = .int .i64 (y / 2) | 3 => own = .int .i64 s0 | 4 => own = .agg #[.int .i64 p.w, .int .i64 p.h, .slice a n c] | 5 => own = .int .i64 ((x + 1) / 2) | 6 => own = .int .i64 (y / 2) | 7 => own = .int .i64 s1 | 8 => own = .int .i64 (s0 + s1) | 9 => own = .int .i64 (s0 + s1 + 1) | 10 => own = .int .i64 ((s0 + s1 + 1) / 2) | 11 => own = .int .i64 ((s0 + s1 + 1) / 2) | _ => True) (fun kx wx => Ext w0 wx) (by kernel_rfl) (by kernel_rfl) (by kernel_rfl) ?g0_r1 ?gop_r1 ?gend_r1
 case g0_r1 => exact Ext.drewN _ 1
 case gop_r1 =>
  refine ⟨?_, ?_, ?_, ?_, ?_, ?_, ?_, ?_, ?_, ?_, ?_, ?_, trivial⟩
  ·intro kx xs wx hk hG hD hI Qo Kx hK hQo
   clear hD hI
   simp only [patchS, Nat.reduceAdd, Nat.reduceEqDiff, ↓reduceIte] at hQo ⊢
   obtain ⟨-, k0, k1, k2, -⟩ := bx3 (hG.blk p0)
   go_wp2
   exact hK.out _ _ ⟨rfl, hG, fun _ _ _ _ _ _ h => h⟩
  ·intro kx xs wx hk hG hD hI Qo Kx hK hQo
   clear hD hI
   simp only [patchS, Nat.reduceAdd, Nat.reduceEqDiff, ↓reduceIte] at hQo ⊢
   go_wp2
   exact hK.out _ _ ⟨rfl, hG, fun _ _ _ _ _ _ h => h⟩
  ·intro kx xs wx hk hG hD hI Qo Kx hK hQo
   clear hD hI
   simp only [patchS, Nat.reduceAdd, Nat.reduceEqDiff, ↓reduceIte] at hQo ⊢
   go_wp2
   exact hK.out _ _ ⟨rfl, hG, fun _ _ _ _ _ _ h => h⟩
  ·intro kx xs wx hk hG hD hI Qo Kx hK hQo
   have d0 : (xs 0) = .agg #[.int .i64 p.w, .int .i64 p.h, .slice a n c] := hD 0 rfl
   have d1 : (xs 1) = .int .i64 (x / 2) := hD 1 rfl
   have d2 : (xs 2) = .int .i64 (y / 2) := hD 2 rfl
   clear hD hI
   simp only [patchS, Nat.reduceAdd, Nat.reduceEqDiff, ↓reduceIte] at hQo ⊢
   generalize xs 0 = y0 at *
   generalize xs 1 = y1 at *
   generalize xs 2 = y2 at *
   subst d0 d1 d2
   go_wp2_with fail
   refine (at_any p (x / 2) (y / 2) a c n _ HV.out HN.out (r.ext (E0.trans hG))).mono ?_
   rintro e w2 ⟨rfl, e2⟩
   rw [← H0.out]
   go_wp2
   exact hK.out _ _ ⟨rfl, hG.trans e2, fun _ _ _ _ _ _ h => h⟩
  ·intro kx xs wx hk hG hD hI Qo Kx hK hQo
   clear hD hI
   simp only [patchS, Nat.reduceAdd, Nat.reduceEqDiff, ↓reduceIte] at hQo ⊢
   obtain ⟨-, k0, k1, k2, -⟩ := bx3 (hG.blk p0)
   go_wp2
   exact hK.out _ _ ⟨rfl, hG, fun _ _ _ _ _ _ h => h⟩
  ·intro kx xs wx hk hG hD hI Qo Kx hK hQo
   clear hD hI
   simp only [patchS, Nat.reduceAdd, Nat.reduceEqDiff, ↓reduceIte] at hQo ⊢
   go_wp2
   exact hK.out _ _ ⟨rfl, hG, fun _ _ _ _ _ _ h => h⟩
  ·intro kx xs wx hk hG hD hI Qo Kx hK hQo
   clear hD hI
   simp only [patchS, Nat.reduceAdd, Nat.reduceEqDiff, ↓reduceIte] at hQo ⊢
   go_wp2
   exact hK.out _ _ ⟨rfl, hG, fun _ _ _ _ _ _ h => h⟩
  ·intro kx xs wx hk hG hD hI Qo Kx hK hQo
   have d4 : (xs 4) = .agg #[.int .i64 p.w, .int .i64 p.h, .slice a n c] := hD 4 rfl
   have d5 : (xs 5) = .int .i64 ((x + 1) / 2) := hD 5 rfl
   have d6 : (xs 6) = .int .i64 (y / 2) := hD 6 rfl
   clear hD hI
   simp only [patchS, Nat.reduceAdd, Nat.reduceEqDiff, ↓reduceIte] at hQo ⊢
   generalize xs 4 = y4 at *
   generalize xs 5 = y5 at *
   generalize xs 6 = y6 at *
   subst d4 d5 d6
   go_wp2_with fail
   refine (at_any p ((x + 1) / 2) (y / 2) a c n _ HV.out HN.out (r.ext (E0.trans hG))).mono ?_
   rintro e w2 ⟨rfl, e2⟩
   rw [← H1.out]
   go_wp2
   exact hK.out _ _ ⟨rfl, hG.trans e2, fun _ _ _ _ _ _ h => h⟩
  ·intro kx xs wx hk hG hD hI Qo Kx hK hQo
   have d3 : (xs 3) = .int .i64 s0 := hD 3 rfl
   have d7 : (xs 7) = .int .i64 s1 := hD 7 rfl
   clear hD hI
   simp only [patchS, Nat.reduceAdd, Nat.reduceEqDiff, ↓reduceIte] at hQo ⊢
   generalize xs 3 = y3 at *
   generalize xs 7 = y7 at *
   subst d3 d7
   go_wp2
   exact hK.out _ _ ⟨rfl, hG, fun _ _ _ _ _ _ h => h⟩
  ·intro kx xs wx hk hG hD hI Qo Kx hK hQo
   have d8 : (xs 8) = .int .i64 (s0 + s1) := hD 8 rfl
   clear hD hI
   simp only [patchS, Nat.reduceAdd, Nat.reduceEqDiff, ↓reduceIte] at hQo ⊢
   generalize xs 8 = y8 at *
   subst d8
   go_wp2
   exact hK.out _ _ ⟨rfl, hG, fun _ _ _ _ _ _ h => h⟩
  ·intro kx xs wx hk hG hD hI Qo Kx hK hQo
   have d9 : (xs 9) = .int .i64 (s0 + s1 + 1) := hD 9 rfl
   clear hD hI
   simp only [patchS, Nat.reduceAdd, Nat.reduceEqDiff, ↓reduceIte] at hQo ⊢
   generalize xs 9 = y9 at *
   subst d9
   go_wp2
   exact hK.out _ _ ⟨rfl, hG, fun _ _ _ _ _ _ h => h⟩
  ·intro kx xs wx hk hG hD hI Qo Kx hK hQo
   have d10 : (xs 10) = .int .i64 ((s0 + s1 + 1) / 2) := hD 10 rfl
   clear hD hI
   simp only [patchS, Nat.reduceAdd, Nat.reduceEqDiff, ↓reduceIte] at hQo ⊢
   generalize xs 10 = y10 at *
   subst d10
   go_wp2
   exact hK.out _ _ ⟨rfl, hG, fun _ _ _ _ _ _ h => h⟩
 intro xs wx hV hG
 have d0 : (xs 0) = .agg #[.int .i64 p.w, .int .i64 p.h, .slice a n c] := hV 0 (by decide)
 have d1 : (xs 1) = .int .i64 (x / 2) := hV 1 (by decide)
 have d2 : (xs 2) = .int .i64 (y / 2) := hV 2 (by decide)
 have d3 : (xs 3) = .int .i64 s0 := hV 3 (by decide)
 have d4 : (xs 4) = .agg #[.int .i64 p.w, .int .i64 p.h, .slice a n c] := hV 4 (by decide)
 have d5 : (xs 5) = .int .i64 ((x + 1) / 2) := hV 5 (by decide)
 have d6 : (xs 6) = .int .i64 (y / 2) := hV 6 (by decide)
 have d7 : (xs 7) = .int .i64 s1 := hV 7 (by decide)
 have d8 : (xs 8) = .int .i64 (s0 + s1) := hV 8 (by decide)
 have d9 : (xs 9) = .int .i64 (s0 + s1 + 1) := hV 9 (by decide)
 have d10 : (xs 10) = .int .i64 ((s0 + s1 + 1) / 2) := hV 10 (by decide)
 have d11 : (xs 11) = .int .i64 ((s0 + s1 + 1) / 2) := hV 11 (by decide)
 clear hV
 simp only [patchS, Nat.reduceAdd, Nat.reduceEqDiff, ↓reduceIte]
 generalize xs 0 = y0 at *
 generalize xs 1 = y1 at *
 generalize xs 2 = y2 at *
 generalize xs 3 = y3 at *
 generalize xs 4 = y4 at *
 generalize xs 5 = y5 at *
 generalize xs 6 = y6 at *
 generalize xs 7 = y7 at *
 generalize xs 8 = y8 at *
 generalize xs 9 = y9 at *
 generalize xs 10 = y10 at *
 generalize xs 11 = y11 at *
 replace hG : Ext w0 wx := hG
 clear d0 d1 d2 d3 d4 d5 d6 d7 d8 d9 d10
 subst d11
 go_wp2
 go_ret
 exact ⟨(ret_intH HH).symm, E0.trans hG⟩
set_option maxRecDepth 100000 in
theorem half_at_eo (p : Pic) (x y : Int) (a : Option Addr) (c n : Nat) (w : World) (hv : p.valid) (hn : n = p.px.length) (r : Sl w a n (p.px.map (Value.int .i64)))
 (x1 : -2000 ≤ x) (x2 : x ≤ 2000) (y1 : -2000 ≤ y) (y2 : y ≤ 2000) (hx : x % 2 = 0) (hy : ¬ y % 2 = 0) :
 Calls Tryd.prog 88 #[.agg #[.int .i64 p.w, .int .i64 p.h, .slice a n c], .int .i64 x, .int .i64 y] w fun e w' => e = .returned (.int .i64 (hlf p x y)) ∧ Ext w w' := by
 have hh := half_eo (p := p) hx hy
 have dx : (x / 2 == (x + 1) / 2) = true := by simp; omega
 have dy : (y / 2 == (y + 1) / 2) = false := by simp; omega
 rw [show y / 2 + 1 = (y + 1) / 2 by omega] at hh
 have HH := Lib.hid hh
 clear hx hy hh
 have p0 := blk_new w (.cells #[.int .i64 p.w, .int .i64 p.h, .slice a n c] 25)
 have E0 := Ext.alloc w (.cells #[.int .i64 p.w, .int .i64 p.h, .slice a n c] 25)
 obtain ⟨B, hB⟩ : ∃ B, B = w.heap.size := ⟨_, rfl⟩
 rw [← hB] at p0
 have HB := Lib.hid hB
 have HN := Lib.hid hn
 have HV := Lib.hid hv
 clear hn hv
 obtain ⟨s0, hs0⟩ : ∃ s0, s0 = pat p (x / 2) (y / 2) := ⟨_, rfl⟩
 have b0 := pat_rng HV.out (x / 2) (y / 2)
 rw [← hs0] at b0
 have H0 := Lib.hid hs0
 clear hs0
 obtain ⟨s1, hs1⟩ : ∃ s1, s1 = pat p (x / 2) ((y + 1) / 2) := ⟨_, rfl⟩
 have b1 := pat_rng HV.out (x / 2) ((y + 1) / 2)
 rw [← hs1] at b1
 have H1 := Lib.hid hs1
 clear hs1
 rw [← H0.out, ← H1.out] at HH
 go_enter Tryd.func88, Tryd.ntmps88
 go_wp2_with fail
 rw [← hB]
 clear hB
 generalize w.alloc (.cells #[.int .i64 p.w, .int .i64 p.h, .slice a n c] 25) = w0 at *
 refine wp_region_inv2 (by kernel_rfl) [(6, 11), (53, 0), (54, 1), (55, 2), (56, 3), (57, 4), (58, 5), (59, 6), (60, 7), (61, 8), (62, 9), (63, 10)] [[], [], [], [0, 1, 2], [], [], [], [0, 1, 2, 3, 4, 5, 6], [0, 1, 2, 3, 4, 5, 6, 7], [0, 1, 2, 3, 4, 5, 6, 7, 8], [0, 1, 2, 3, 4, 5, 6, 7, 8, 9], [0, 1, 2, 3, 4, 5, 6, 7, 8, 9, 10]] (fun i own ys wx => match i with | 0 => own = .agg #[.int .i64 p.w, .int .i64 p.h, .slice a n c] | 1 => own = .int .i64 (x / 2) | 2 => own = .int .i64 (y / 2) | 3 => own = .int .i64 s0 | 4 => own = .agg #[.int .i64 p.w, .int .i64 p.h, .slice a n c] | 5 => own = .int .i64 (x / 2) | 6 => own = .int .i64 ((y + 1) / 2) | 7 => own = .int .i64 s1 | 8 => own = .int .i64 (s0 + s1) | 9 => own = .int .i64 (s0 + s1 + 1) | 10 => own = .int .i64 ((s0 + s1 + 1) / 2) | 11 => own = .int .i64 ((s0 + s1 + 1) / 2) | _ => True) (fun kx wx => Ext w0 wx) (by kernel_rfl) (by kernel_rfl) (by kernel_rfl) ?g0_r2 ?gop_r2 ?gend_r2
 case g0_r2 => exact Ext.drewN _ 1
 case gop_r2 =>
  refine ⟨?_, ?_, ?_, ?_, ?_, ?_, ?_, ?_, ?_, ?_, ?_, ?_, trivial⟩
  ·intro kx xs wx hk hG hD hI Qo Kx hK hQo
   clear hD hI
   simp only [patchS, Nat.reduceAdd, Nat.reduceEqDiff, ↓reduceIte] at hQo ⊢
   obtain ⟨-, k0, k1, k2, -⟩ := bx3 (hG.blk p0)
   go_wp2
   exact hK.out _ _ ⟨rfl, hG, fun _ _ _ _ _ _ h => h⟩
  ·intro kx xs wx hk hG hD hI Qo Kx hK hQo
   clear hD hI
   simp only [patchS, Nat.reduceAdd, Nat.reduceEqDiff, ↓reduceIte] at hQo ⊢
   go_wp2
   exact hK.out _ _ ⟨rfl, hG, fun _ _ _ _ _ _ h => h⟩
  ·intro kx xs wx hk hG hD hI Qo Kx hK hQo
   clear hD hI
   simp only [patchS, Nat.reduceAdd, Nat.reduceEqDiff, ↓reduceIte] at hQo ⊢
   go_wp2
   exact hK.out _ _ ⟨rfl, hG, fun _ _ _ _ _ _ h => h⟩
  ·intro kx xs wx hk hG hD hI Qo Kx hK hQo
   have d0 : (xs 0) = .agg #[.int .i64 p.w, .int .i64 p.h, .slice a n c] := hD 0 rfl
   have d1 : (xs 1) = .int .i64 (x / 2) := hD 1 rfl
   have d2 : (xs 2) = .int .i64 (y / 2) := hD 2 rfl
   clear hD hI
   simp only [patchS, Nat.reduceAdd, Nat.reduceEqDiff, ↓reduceIte] at hQo ⊢
   generalize xs 0 = y0 at *
   generalize xs 1 = y1 at *
   generalize xs 2 = y2 at *
   subst d0 d1 d2
   go_wp2_with fail
   refine (at_any p (x / 2) (y / 2) a c n _ HV.out HN.out (r.ext (E0.trans hG))).mono ?_
   rintro e w2 ⟨rfl, e2⟩
   rw [← H0.out]
   go_wp2
   exact hK.out _ _ ⟨rfl, hG.trans e2, fun _ _ _ _ _ _ h => h⟩
  ·intro kx xs wx hk hG hD hI Qo Kx hK hQo
   clear hD hI
   simp only [patchS, Nat.reduceAdd, Nat.reduceEqDiff, ↓reduceIte] at hQo ⊢
   obtain ⟨-, k0, k1, k2, -⟩ := bx3 (hG.blk p0)
   go_wp2
   exact hK.out _ _ ⟨rfl, hG, fun _ _ _ _ _ _ h => h⟩
  ·intro kx xs wx hk hG hD hI Qo Kx hK hQo
   clear hD hI
   simp only [patchS, Nat.reduceAdd, Nat.reduceEqDiff, ↓reduceIte] at hQo ⊢
   go_wp2
   exact hK.out _ _ ⟨rfl, hG, fun _ _ _ _ _ _ h => h⟩
  ·intro kx xs wx hk hG hD hI Qo Kx hK hQo
   clear hD hI
   simp only [patchS, Nat.reduceAdd, Nat.reduceEqDiff, ↓reduceIte] at hQo ⊢
   go_wp2
   exact hK.out _ _ ⟨rfl, hG, fun _ _ _ _ _ _ h => h⟩
  ·intro kx xs wx hk hG hD hI Qo Kx hK hQo
   have d4 : (xs 4) = .agg #[.int .i64 p.w, .int .i64 p.h, .slice a n c] := hD 4 rfl
   have d5 : (xs 5) = .int .i64 (x / 2) := hD 5 rfl
   have d6 : (xs 6) = .int .i64 ((y + 1) / 2) := hD 6 rfl
   clear hD hI
   simp only [patchS, Nat.reduceAdd, Nat.reduceEqDiff, ↓reduceIte] at hQo ⊢
   generalize xs 4 = y4 at *
   generalize xs 5 = y5 at *
   generalize xs 6 = y6 at *
   subst d4 d5 d6
   go_wp2_with fail
   refine (at_any p (x / 2) ((y + 1) / 2) a c n _ HV.out HN.out (r.ext (E0.trans hG))).mono ?_
   rintro e w2 ⟨rfl, e2⟩
   rw [← H1.out]
   go_wp2
   exact hK.out _ _ ⟨rfl, hG.trans e2, fun _ _ _ _ _ _ h => h⟩
  ·intro kx xs wx hk hG hD hI Qo Kx hK hQo
   have d3 : (xs 3) = .int .i64 s0 := hD 3 rfl
   have d7 : (xs 7) = .int .i64 s1 := hD 7 rfl
   clear hD hI
   simp only [patchS, Nat.reduceAdd, Nat.reduceEqDiff, ↓reduceIte] at hQo ⊢
   generalize xs 3 = y3 at *
   generalize xs 7 = y7 at *
   subst d3 d7
   go_wp2
   exact hK.out _ _ ⟨rfl, hG, fun _ _ _ _ _ _ h => h⟩
  ·intro kx xs wx hk hG hD hI Qo Kx hK hQo
   have d8 : (xs 8) = .int .i64 (s0 + s1) := hD 8 rfl
   clear hD hI
   simp only [patchS, Nat.reduceAdd, Nat.reduceEqDiff, ↓reduceIte] at hQo ⊢
   generalize xs 8 = y8 at *
   subst d8
   go_wp2
   exact hK.out _ _ ⟨rfl, hG, fun _ _ _ _ _ _ h => h⟩
  ·intro kx xs wx hk hG hD hI Qo Kx hK hQo
   have d9 : (xs 9) = .int .i64 (s0 + s1 + 1) := hD 9 rfl
   clear hD hI
   simp only [patchS, Nat.reduceAdd, Nat.reduceEqDiff, ↓reduceIte] at hQo ⊢
   generalize xs 9 = y9 at *
   subst d9
   go_wp2
   exact hK.out _ _ ⟨rfl, hG, fun _ _ _ _ _ _ h => h⟩
  ·intro kx xs wx hk hG hD hI Qo Kx hK hQo
   have d10 : (xs 10) = .int .i64 ((s0 + s1 + 1) / 2) := hD 10 rfl
   clear hD hI
   simp only [patchS, Nat.reduceAdd, Nat.reduceEqDiff, ↓reduceIte] at hQo ⊢
   generalize xs 10 = y10 at *
   subst d10
   go_wp2
   exact hK.out _ _ ⟨rfl, hG, fun _ _ _ _ _ _ h => h⟩
 intro xs wx hV hG
 have d0 : (xs 0) = .agg #[.int .i64 p.w, .int .i64 p.h, .slice a n c] := hV 0 (by decide)
 have d1 : (xs 1) = .int .i64 (x / 2) := hV 1 (by decide)
 have d2 : (xs 2) = .int .i64 (y / 2) := hV 2 (by decide)
 have d3 : (xs 3) = .int .i64 s0 := hV 3 (by decide)
 have d4 : (xs 4) = .agg #[.int .i64 p.w, .int .i64 p.h, .slice a n c] := hV 4 (by decide)
 have d5 : (xs 5) = .int .i64 (x / 2) := hV 5 (by decide)
 have d6 : (xs 6) = .int .i64 ((y + 1) / 2) := hV 6 (by decide)
 have d7 : (xs 7) = .int .i64 s1 := hV 7 (by decide)
 have d8 : (xs 8) = .int .i64 (s0 + s1) := hV 8 (by decide)
 have d9 : (xs 9) = .int .i64 (s0 + s1 + 1) := hV 9 (by decide)
 have d10 : (xs 10) = .int .i64 ((s0 + s1 + 1) / 2) := hV 10 (by decide)
 have d11 : (xs 11) = .int .i64 ((s0 + s1 + 1) / 2) := hV 11 (by decide)
 clear hV
 simp only [patchS, Nat.reduceAdd, Nat.reduceEqDiff, ↓reduceIte]
 generalize xs 0 = y0 at *
 generalize xs 1 = y1 at *
 generalize xs 2 = y2 at *
 generalize xs 3 = y3 at *
 generalize xs 4 = y4 at *
 generalize xs 5 = y5 at *
 generalize xs 6 = y6 at *
 generalize xs 7 = y7 at *
 generalize xs 8 = y8 at *
 generalize xs 9 = y9 at *
 generalize xs 10 = y10 at *
 generalize xs 11 = y11 at *
 replace hG : Ext w0 wx := hG
 clear d0 d1 d2 d3 d4 d5 d6 d7 d8 d9 d10
 subst d11
 go_wp2
 go_ret
 exact ⟨(ret_intH HH).symm, E0.trans hG⟩
set_option maxRecDepth 100000 in
theorem half_at_oo (p : Pic) (x y : Int) (a : Option Addr) (c n : Nat) (w : World) (hv : p.valid) (hn : n = p.px.length) (r : Sl w a n (p.px.map (Value.int .i64)))
 (x1 : -2000 ≤ x) (x2 : x ≤ 2000) (y1 : -2000 ≤ y) (y2 : y ≤ 2000) (hx : ¬ x % 2 = 0) (hy : ¬ y % 2 = 0) :
 Calls Tryd.prog 88 #[.agg #[.int .i64 p.w, .int .i64 p.h, .slice a n c], .int .i64 x, .int .i64 y] w fun e w' => e = .returned (.int .i64 (hlf p x y)) ∧ Ext w w' := by
 have hh := half_oo (p := p) hx hy
 have dx : (x / 2 == (x + 1) / 2) = false := by simp; omega
 have dy : (y / 2 == (y + 1) / 2) = false := by simp; omega
 rw [show x / 2 + 1 = (x + 1) / 2 by omega, show y / 2 + 1 = (y + 1) / 2 by omega] at hh
 have HH := Lib.hid hh
 clear hx hy hh
 have p0 := blk_new w (.cells #[.int .i64 p.w, .int .i64 p.h, .slice a n c] 25)
 have E0 := Ext.alloc w (.cells #[.int .i64 p.w, .int .i64 p.h, .slice a n c] 25)
 obtain ⟨B, hB⟩ : ∃ B, B = w.heap.size := ⟨_, rfl⟩
 rw [← hB] at p0
 have HB := Lib.hid hB
 have HN := Lib.hid hn
 have HV := Lib.hid hv
 clear hn hv
 obtain ⟨s0, hs0⟩ : ∃ s0, s0 = pat p (x / 2) (y / 2) := ⟨_, rfl⟩
 have b0 := pat_rng HV.out (x / 2) (y / 2)
 rw [← hs0] at b0
 have H0 := Lib.hid hs0
 clear hs0
 obtain ⟨s1, hs1⟩ : ∃ s1, s1 = pat p ((x + 1) / 2) (y / 2) := ⟨_, rfl⟩
 have b1 := pat_rng HV.out ((x + 1) / 2) (y / 2)
 rw [← hs1] at b1
 have H1 := Lib.hid hs1
 clear hs1
 obtain ⟨s2, hs2⟩ : ∃ s2, s2 = pat p (x / 2) ((y + 1) / 2) := ⟨_, rfl⟩
 have b2 := pat_rng HV.out (x / 2) ((y + 1) / 2)
 rw [← hs2] at b2
 have H2 := Lib.hid hs2
 clear hs2
 obtain ⟨s3, hs3⟩ : ∃ s3, s3 = pat p ((x + 1) / 2) ((y + 1) / 2) := ⟨_, rfl⟩
 have b3 := pat_rng HV.out ((x + 1) / 2) ((y + 1) / 2)
 rw [← hs3] at b3
 have H3 := Lib.hid hs3
 clear hs3
 rw [← H0.out, ← H1.out, ← H2.out, ← H3.out] at HH
 go_enter Tryd.func88, Tryd.ntmps88
 go_wp2_with fail
 rw [← hB]
 clear hB
 generalize w.alloc (.cells #[.int .i64 p.w, .int .i64 p.h, .slice a n c] 25) = w0 at *
 refine wp_region_inv2 (by kernel_rfl) [(6, 21), (64, 0), (65, 1), (66, 2), (67, 3), (68, 4), (69, 5), (70, 6), (71, 7), (72, 8), (73, 9), (74, 10), (75, 11), (76, 12), (77, 13), (78, 14), (79, 15), (80, 16), (81, 17), (82, 18), (83, 19), (84, 20)] [[], [], [], [0, 1, 2], [], [], [], [0, 1, 2, 3, 4, 5, 6], [0, 1, 2, 3, 4, 5, 6, 7], [], [], [], [0, 1, 2, 3, 4, 5, 6, 7, 9, 10, 11], [0, 1, 2, 3, 4, 5, 6, 7, 8, 9, 10, 11, 12], [], [], [], [0, 1, 2, 3, 4, 5, 6, 7, 9, 10, 11, 12, 14, 15, 16], [0, 1, 2, 3, 4, 5, 6, 7, 8, 9, 10, 11, 12, 13, 14, 15, 16, 17], [0, 1, 2, 3, 4, 5, 6, 7, 8, 9, 10, 11, 12, 13, 14, 15, 16, 17, 18], [0, 1, 2, 3, 4, 5, 6, 7, 8, 9, 10, 11, 12, 13, 14, 15, 16, 17, 18, 19], [0, 1, 2, 3, 4, 5, 6, 7, 8, 9, 10, 11, 12, 13, 14, 15, 16, 17, 18, 19, 20]] (fun i own ys wx => match i with | 0 => own = .agg #[.int .i64 p.w, .int .i64 p.h, .slice a n c] | 1 => own = .int .i64 (x / 2) | 2 => own = .int .i64 (y / 2) | 3 => own = .int .i64 s0 | 4 => own = .agg #[.int .i64 p.w, .int .i64 p.h, .slice a n c] | 5 => own = .int .i64 ((x + 1) / 2) | 6 => own = .int .i64 (y / 2) | 7 => own = .int .i64 s1 | 8 => own = .int .i64 (s0 + s1) | 9 => own = .agg #[.int .i64 p.w, .int .i64 p.h, .slice a n c] | 10 => own = .int .i64 (x / 2) | 11 => own = .int .i64 ((y + 1) / 2) | 12 => own = .int .i64 s2 | 13 => own = .int .i64 (s0 + s1 + s2) | 14 => own = .agg #[.int .i64 p.w, .int .i64 p.h, .slice a n c] | 15 => own = .int .i64 ((x + 1) / 2) | 16 => own = .int .i64 ((y + 1) / 2) | 17 => own = .int .i64 s3 | 18 => own = .int .i64 (s0 + s1 + s2 + s3) | 19 => own = .int .i64 (s0 + s1 + s2 + s3 + 2) | 20 => own = .int .i64 ((s0 + s1 + s2 + s3 + 2) / 4) | 21 => own = .int .i64 ((s0 + s1 + s2 + s3 + 2) / 4) | _ => True) (fun kx wx => Ext w0 wx) (by kernel_rfl) (by kernel_rfl) (by kernel_rfl) ?g0_r3 ?gop_r3 ?gend_r3
 case g0_r3 => exact Ext.drewN _ 1
 case gop_r3 =>
  refine ⟨?_, ?_, ?_, ?_, ?_, ?_, ?_, ?_, ?_, ?_, ?_, ?_, ?_, ?_, ?_, ?_, ?_, ?_, ?_, ?_, ?_, ?_, trivial⟩
  ·intro kx xs wx hk hG hD hI Qo Kx hK hQo
   clear hD hI
   simp only [patchS, Nat.reduceAdd, Nat.reduceEqDiff, ↓reduceIte] at hQo ⊢
   obtain ⟨-, k0, k1, k2, -⟩ := bx3 (hG.blk p0)
   go_wp2
   exact hK.out _ _ ⟨rfl, hG, fun _ _ _ _ _ _ h => h⟩
  ·intro kx xs wx hk hG hD hI Qo Kx hK hQo
   clear hD hI
   simp only [patchS, Nat.reduceAdd, Nat.reduceEqDiff, ↓reduceIte] at hQo ⊢
   go_wp2
   exact hK.out _ _ ⟨rfl, hG, fun _ _ _ _ _ _ h => h⟩
  ·intro kx xs wx hk hG hD hI Qo Kx hK hQo
   clear hD hI
   simp only [patchS, Nat.reduceAdd, Nat.reduceEqDiff, ↓reduceIte] at hQo ⊢
   go_wp2
   exact hK.out _ _ ⟨rfl, hG, fun _ _ _ _ _ _ h => h⟩
  ·intro kx xs wx hk hG hD hI Qo Kx hK hQo
   have d0 : (xs 0) = .agg #[.int .i64 p.w, .int .i64 p.h, .slice a n c] := hD 0 rfl
   have d1 : (xs 1) = .int .i64 (x / 2) := hD 1 rfl
   have d2 : (xs 2) = .int .i64 (y / 2) := hD 2 rfl
   clear hD hI
   simp only [patchS, Nat.reduceAdd, Nat.reduceEqDiff, ↓reduceIte] at hQo ⊢
   generalize xs 0 = y0 at *
   generalize xs 1 = y1 at *
   generalize xs 2 = y2 at *
   subst d0 d1 d2
   go_wp2_with fail
   refine (at_any p (x / 2) (y / 2) a c n _ HV.out HN.out (r.ext (E0.trans hG))).mono ?_
   rintro e w2 ⟨rfl, e2⟩
   rw [← H0.out]
   go_wp2
   exact hK.out _ _ ⟨rfl, hG.trans e2, fun _ _ _ _ _ _ h => h⟩
  ·intro kx xs wx hk hG hD hI Qo Kx hK hQo
   clear hD hI
   simp only [patchS, Nat.reduceAdd, Nat.reduceEqDiff, ↓reduceIte] at hQo ⊢
   obtain ⟨-, k0, k1, k2, -⟩ := bx3 (hG.blk p0)
   go_wp2
   exact hK.out _ _ ⟨rfl, hG, fun _ _ _ _ _ _ h => h⟩
  ·intro kx xs wx hk hG hD hI Qo Kx hK hQo
   clear hD hI
   simp only [patchS, Nat.reduceAdd, Nat.reduceEqDiff, ↓reduceIte] at hQo ⊢
   go_wp2
   exact hK.out _ _ ⟨rfl, hG, fun _ _ _ _ _ _ h => h⟩
  ·intro kx xs wx hk hG hD hI Qo Kx hK hQo
   clear hD hI
   simp only [patchS, Nat.reduceAdd, Nat.reduceEqDiff, ↓reduceIte] at hQo ⊢
   go_wp2
   exact hK.out _ _ ⟨rfl, hG, fun _ _ _ _ _ _ h => h⟩
  ·intro kx xs wx hk hG hD hI Qo Kx hK hQo
   have d4 : (xs 4) = .agg #[.int .i64 p.w, .int .i64 p.h, .slice a n c] := hD 4 rfl
   have d5 : (xs 5) = .int .i64 ((x + 1) / 2) := hD 5 rfl
   have d6 : (xs 6) = .int .i64 (y / 2) := hD 6 rfl
   clear hD hI
   simp only [patchS, Nat.reduceAdd, Nat.reduceEqDiff, ↓reduceIte] at hQo ⊢
   generalize xs 4 = y4 at *
   generalize xs 5 = y5 at *
   generalize xs 6 = y6 at *
   subst d4 d5 d6
   go_wp2_with fail
   refine (at_any p ((x + 1) / 2) (y / 2) a c n _ HV.out HN.out (r.ext (E0.trans hG))).mono ?_
   rintro e w2 ⟨rfl, e2⟩
   rw [← H1.out]
   go_wp2
   exact hK.out _ _ ⟨rfl, hG.trans e2, fun _ _ _ _ _ _ h => h⟩
  ·intro kx xs wx hk hG hD hI Qo Kx hK hQo
   have d3 : (xs 3) = .int .i64 s0 := hD 3 rfl
   have d7 : (xs 7) = .int .i64 s1 := hD 7 rfl
   clear hD hI
   simp only [patchS, Nat.reduceAdd, Nat.reduceEqDiff, ↓reduceIte] at hQo ⊢
   generalize xs 3 = y3 at *
   generalize xs 7 = y7 at *
   subst d3 d7
   go_wp2
   exact hK.out _ _ ⟨rfl, hG, fun _ _ _ _ _ _ h => h⟩
  ·intro kx xs wx hk hG hD hI Qo Kx hK hQo
   clear hD hI
   simp only [patchS, Nat.reduceAdd, Nat.reduceEqDiff, ↓reduceIte] at hQo ⊢
   obtain ⟨-, k0, k1, k2, -⟩ := bx3 (hG.blk p0)
   go_wp2
   exact hK.out _ _ ⟨rfl, hG, fun _ _ _ _ _ _ h => h⟩
  ·intro kx xs wx hk hG hD hI Qo Kx hK hQo
   clear hD hI
   simp only [patchS, Nat.reduceAdd, Nat.reduceEqDiff, ↓reduceIte] at hQo ⊢
   go_wp2
   exact hK.out _ _ ⟨rfl, hG, fun _ _ _ _ _ _ h => h⟩
  ·intro kx xs wx hk hG hD hI Qo Kx hK hQo
   clear hD hI
   simp only [patchS, Nat.reduceAdd, Nat.reduceEqDiff, ↓reduceIte] at hQo ⊢
   go_wp2
   exact hK.out _ _ ⟨rfl, hG, fun _ _ _ _ _ _ h => h⟩
  ·intro kx xs wx hk hG hD hI Qo Kx hK hQo
   have d9 : (xs 9) = .agg #[.int .i64 p.w, .int .i64 p.h, .slice a n c] := hD 9 rfl
   have d10 : (xs 10) = .int .i64 (x / 2) := hD 10 rfl
   have d11 : (xs 11) = .int .i64 ((y + 1) / 2) := hD 11 rfl
   clear hD hI
   simp only [patchS, Nat.reduceAdd, Nat.reduceEqDiff, ↓reduceIte] at hQo ⊢
   generalize xs 9 = y9 at *
   generalize xs 10 = y10 at *
   generalize xs 11 = y11 at *
   subst d9 d10 d11
   go_wp2_with fail
   refine (at_any p (x / 2) ((y + 1) / 2) a c n _ HV.out HN.out (r.ext (E0.trans hG))).mono ?_
   rintro e w2 ⟨rfl, e2⟩
   rw [← H2.out]
   go_wp2
   exact hK.out _ _ ⟨rfl, hG.trans e2, fun _ _ _ _ _ _ h => h⟩
  ·intro kx xs wx hk hG hD hI Qo Kx hK hQo
   have d8 : (xs 8) = .int .i64 (s0 + s1) := hD 8 rfl
   have d12 : (xs 12) = .int .i64 s2 := hD 12 rfl
   clear hD hI
   simp only [patchS, Nat.reduceAdd, Nat.reduceEqDiff, ↓reduceIte] at hQo ⊢
   generalize xs 8 = y8 at *
   generalize xs 12 = y12 at *
   subst d8 d12
   go_wp2
   exact hK.out _ _ ⟨rfl, hG, fun _ _ _ _ _ _ h => h⟩
  ·intro kx xs wx hk hG hD hI Qo Kx hK hQo
   clear hD hI
   simp only [patchS, Nat.reduceAdd, Nat.reduceEqDiff, ↓reduceIte] at hQo ⊢
   obtain ⟨-, k0, k1, k2, -⟩ := bx3 (hG.blk p0)
   go_wp2
   exact hK.out _ _ ⟨rfl, hG, fun _ _ _ _ _ _ h => h⟩
  ·intro kx xs wx hk hG hD hI Qo Kx hK hQo
   clear hD hI
   simp only [patchS, Nat.reduceAdd, Nat.reduceEqDiff, ↓reduceIte] at hQo ⊢
   go_wp2
   exact hK.out _ _ ⟨rfl, hG, fun _ _ _ _ _ _ h => h⟩
  ·intro kx xs wx hk hG hD hI Qo Kx hK hQo
   clear hD hI
   simp only [patchS, Nat.reduceAdd, Nat.reduceEqDiff, ↓reduceIte] at hQo ⊢
   go_wp2
   exact hK.out _ _ ⟨rfl, hG, fun _ _ _ _ _ _ h => h⟩
  ·intro kx xs wx hk hG hD hI Qo Kx hK hQo
   have d14 : (xs 14) = .agg #[.int .i64 p.w, .int .i64 p.h, .slice a n c] := hD 14 rfl
   have d15 : (xs 15) = .int .i64 ((x + 1) / 2) := hD 15 rfl
   have d16 : (xs 16) = .int .i64 ((y + 1) / 2) := hD 16 rfl
   clear hD hI
   simp only [patchS, Nat.reduceAdd, Nat.reduceEqDiff, ↓reduceIte] at hQo ⊢
   generalize xs 14 = y14 at *
   generalize xs 15 = y15 at *
   generalize xs 16 = y16 at *
   subst d14 d15 d16
   go_wp2_with fail
   refine (at_any p ((x + 1) / 2) ((y + 1) / 2) a c n _ HV.out HN.out (r.ext (E0.trans hG))).mono ?_
   rintro e w2 ⟨rfl, e2⟩
   rw [← H3.out]
   go_wp2
   exact hK.out _ _ ⟨rfl, hG.trans e2, fun _ _ _ _ _ _ h => h⟩
  ·intro kx xs wx hk hG hD hI Qo Kx hK hQo
   have d13 : (xs 13) = .int .i64 (s0 + s1 + s2) := hD 13 rfl
   have d17 : (xs 17) = .int .i64 s3 := hD 17 rfl
   clear hD hI
   simp only [patchS, Nat.reduceAdd, Nat.reduceEqDiff, ↓reduceIte] at hQo ⊢
   generalize xs 13 = y13 at *
   generalize xs 17 = y17 at *
   subst d13 d17
   go_wp2
   exact hK.out _ _ ⟨rfl, hG, fun _ _ _ _ _ _ h => h⟩
  ·intro kx xs wx hk hG hD hI Qo Kx hK hQo
   have d18 : (xs 18) = .int .i64 (s0 + s1 + s2 + s3) := hD 18 rfl
   clear hD hI
   simp only [patchS, Nat.reduceAdd, Nat.reduceEqDiff, ↓reduceIte] at hQo ⊢
   generalize xs 18 = y18 at *
   subst d18
   go_wp2
   exact hK.out _ _ ⟨rfl, hG, fun _ _ _ _ _ _ h => h⟩
  ·intro kx xs wx hk hG hD hI Qo Kx hK hQo
   have d19 : (xs 19) = .int .i64 (s0 + s1 + s2 + s3 + 2) := hD 19 rfl
   clear hD hI
   simp only [patchS, Nat.reduceAdd, Nat.reduceEqDiff, ↓reduceIte] at hQo ⊢
   generalize xs 19 = y19 at *
   subst d19
   go_wp2
   exact hK.out _ _ ⟨rfl, hG, fun _ _ _ _ _ _ h => h⟩
  ·intro kx xs wx hk hG hD hI Qo Kx hK hQo
   have d20 : (xs 20) = .int .i64 ((s0 + s1 + s2 + s3 + 2) / 4) := hD 20 rfl
   clear hD hI
   simp only [patchS, Nat.reduceAdd, Nat.reduceEqDiff, ↓reduceIte] at hQo ⊢
   generalize xs 20 = y20 at *
   subst d20
   go_wp2
   exact hK.out _ _ ⟨rfl, hG, fun _ _ _ _ _ _ h => h⟩
 intro xs wx hV hG
 have d0 : (xs 0) = .agg #[.int .i64 p.w, .int .i64 p.h, .slice a n c] := hV 0 (by decide)
 have d1 : (xs 1) = .int .i64 (x / 2) := hV 1 (by decide)
 have d2 : (xs 2) = .int .i64 (y / 2) := hV 2 (by decide)
 have d3 : (xs 3) = .int .i64 s0 := hV 3 (by decide)
 have d4 : (xs 4) = .agg #[.int .i64 p.w, .int .i64 p.h, .slice a n c] := hV 4 (by decide)
 have d5 : (xs 5) = .int .i64 ((x + 1) / 2) := hV 5 (by decide)
 have d6 : (xs 6) = .int .i64 (y / 2) := hV 6 (by decide)
 have d7 : (xs 7) = .int .i64 s1 := hV 7 (by decide)
 have d8 : (xs 8) = .int .i64 (s0 + s1) := hV 8 (by decide)
 have d9 : (xs 9) = .agg #[.int .i64 p.w, .int .i64 p.h, .slice a n c] := hV 9 (by decide)
 have d10 : (xs 10) = .int .i64 (x / 2) := hV 10 (by decide)
 have d11 : (xs 11) = .int .i64 ((y + 1) / 2) := hV 11 (by decide)
 have d12 : (xs 12) = .int .i64 s2 := hV 12 (by decide)
 have d13 : (xs 13) = .int .i64 (s0 + s1 + s2) := hV 13 (by decide)
 have d14 : (xs 14) = .agg #[.int .i64 p.w, .int .i64 p.h, .slice a n c] := hV 14 (by decide)
 have d15 : (xs 15) = .int .i64 ((x + 1) / 2) := hV 15 (by decide)
 have d16 : (xs 16) = .int .i64 ((y + 1) / 2) := hV 16 (by decide)
 have d17 : (xs 17) = .int .i64 s3 := hV 17 (by decide)
 have d18 : (xs 18) = .int .i64 (s0 + s1 + s2 + s3) := hV 18 (by decide)
 have d19 : (xs 19) = .int .i64 (s0 + s1 + s2 + s3 + 2) := hV 19 (by decide)
 have d20 : (xs 20) = .int .i64 ((s0 + s1 + s2 + s3 + 2) / 4) := hV 20 (by decide)
 have d21 : (xs 21) = .int .i64 ((s0 + s1 + s2 + s3 + 2) / 4) := hV 21 (by decide)
 clear hV
 simp only [patchS, Nat.reduceAdd, Nat.reduceEqDiff, ↓reduceIte]
 generalize xs 0 = y0 at *
 generalize xs 1 = y1 at *
 generalize xs 2 = y2 at *
 generalize xs 3 = y3 at *
 generalize xs 4 = y4 at *
 generalize xs 5 = y5 at *
 generalize xs 6 = y6 at *
 generalize xs 7 = y7 at *
 generalize xs 8 = y8 at *
 generalize xs 9 = y9 at *
 generalize xs 10 = y10 at *
 generalize xs 11 = y11 at *
 generalize xs 12 = y12 at *
 generalize xs 13 = y13 at *
 generalize xs 14 = y14 at *
 generalize xs 15 = y15 at *
 generalize xs 16 = y16 at *
 generalize xs 17 = y17 at *
 generalize xs 18 = y18 at *
 generalize xs 19 = y19 at *
 generalize xs 20 = y20 at *
 generalize xs 21 = y21 at *
 replace hG : Ext w0 wx := hG
 clear d0 d1 d2 d3 d4 d5 d6 d7 d8 d9 d10 d11 d12 d13 d14 d15 d16 d17 d18 d19 d20
 subst d21
 go_wp2
 go_ret
 exact ⟨(ret_intH HH).symm, E0.trans hG⟩
theorem half_any (p : Pic) (x y : Int) (a : Option Addr) (c n : Nat) (w : World) (hv : p.valid) (hn : n = p.px.length) (r : Sl w a n (p.px.map (Value.int .i64)))
 (x1 : -2000 ≤ x) (x2 : x ≤ 2000) (y1 : -2000 ≤ y) (y2 : y ≤ 2000) :
 Calls Tryd.prog 88 #[.agg #[.int .i64 p.w, .int .i64 p.h, .slice a n c], .int .i64 x, .int .i64 y] w fun e w' => e = .returned (.int .i64 (hlf p x y)) ∧ Ext w w' := by
 by_cases hx : x % 2 = 0
 ·by_cases hy : y % 2 = 0
  ·exact half_at_ee p x y a c n w hv hn r x1 x2 y1 y2 hx hy
  ·exact half_at_eo p x y a c n w hv hn r x1 x2 y1 y2 hx hy
 ·by_cases hy : y % 2 = 0
  ·exact half_at_oe p x y a c n w hv hn r x1 x2 y1 y2 hx hy
  ·exact half_at_oo p x y a c n w hv hn r x1 x2 y1 y2 hx hy
set_option maxRecDepth 100000 in
theorem l7Half_ee (p : Pic) (x y : Int) (a : Option Addr) (c n : Nat) (w : World) (hv : p.valid) (hn : n = p.px.length) (r : Sl w a n (p.px.map (Value.int .i64)))
 (x1 : -2000 ≤ x) (x2 : x ≤ 2000) (y1 : -2000 ≤ y) (y2 : y ≤ 2000) (hx : x % 2 = 0) (hy : y % 2 = 0) :
 Calls Tryd.prog 128 #[.agg #[.int .i64 p.w, .int .i64 p.h, .slice a n c], .int .i64 x, .int .i64 y] w fun e w' => e = .returned (.int .i64 (hlf p x y)) ∧ Ext w w' := by
 have hh := half_ee (p := p) hx hy
 have dx : (x.tmod 2 == 0) = true := tm_even hx
 have dy : (y.tmod 2 == 0) = true := tm_even hy
 have HH := Lib.hid hh
 clear hx hy hh
 have p0 := blk_new w (.cells #[.int .i64 p.w, .int .i64 p.h, .slice a n c] 25)
 have E0 := Ext.alloc w (.cells #[.int .i64 p.w, .int .i64 p.h, .slice a n c] 25)
 obtain ⟨B, hB⟩ : ∃ B, B = w.heap.size := ⟨_, rfl⟩
 rw [← hB] at p0
 have HB := Lib.hid hB
 have HN := Lib.hid hn
 have HV := Lib.hid hv
 clear hn hv
 obtain ⟨s0, hs0⟩ : ∃ s0, s0 = pat p (x / 2) (y / 2) := ⟨_, rfl⟩
 have b0 := pat_rng HV.out (x / 2) (y / 2)
 rw [← hs0] at b0
 have H0 := Lib.hid hs0
 clear hs0
 rw [← H0.out] at HH
 obtain ⟨-, k0, k1, k2, -⟩ := bx3 p0
 go_enter Tryd.func128, Tryd.ntmps128
 go_wp2_with fail
 refine (l7Floor_any _ 2 _ (by omega) (by omega) (by omega) (by omega)).mono ?_
 rintro e w2 ⟨rfl, rfl⟩
 go_wp2_with fail
 refine (l7Floor_any _ 2 _ (by omega) (by omega) (by omega) (by omega)).mono ?_
 rintro e w2 ⟨rfl, rfl⟩
 go_wp2_with fail
 refine (l1At_any p (x / 2) (y / 2) a c n _ HV.out HN.out (r.ext E0)).mono ?_
 rintro e w2 ⟨rfl, e2⟩
 rw [← H0.out]
 have p2 := e2.blk p0
 have E2 := E0.trans e2
 rw [← hB]
 clear hB p0 k0 k1 k2 E0 e2
 obtain ⟨-, k0, k1, k2, -⟩ := bx3 p2
 go_wp2
 go_ret
 exact ⟨(ret_intH HH).symm, E2⟩
set_option maxRecDepth 100000 in
theorem l7Half_oe (p : Pic) (x y : Int) (a : Option Addr) (c n : Nat) (w : World) (hv : p.valid) (hn : n = p.px.length) (r : Sl w a n (p.px.map (Value.int .i64)))
 (x1 : -2000 ≤ x) (x2 : x ≤ 2000) (y1 : -2000 ≤ y) (y2 : y ≤ 2000) (hx : ¬ x % 2 = 0) (hy : y % 2 = 0) :
 Calls Tryd.prog 128 #[.agg #[.int .i64 p.w, .int .i64 p.h, .slice a n c], .int .i64 x, .int .i64 y] w fun e w' => e = .returned (.int .i64 (hlf p x y)) ∧ Ext w w' := by
 have hh := half_oe (p := p) hx hy
 have dx : (x.tmod 2 == 0) = false := tm_odd hx
 have dy : (y.tmod 2 == 0) = true := tm_even hy
 have HH := Lib.hid hh
 clear hx hy hh
 have p0 := blk_new w (.cells #[.int .i64 p.w, .int .i64 p.h, .slice a n c] 25)
 have E0 := Ext.alloc w (.cells #[.int .i64 p.w, .int .i64 p.h, .slice a n c] 25)
 obtain ⟨B, hB⟩ : ∃ B, B = w.heap.size := ⟨_, rfl⟩
 rw [← hB] at p0
 have HB := Lib.hid hB
 have HN := Lib.hid hn
 have HV := Lib.hid hv
 clear hn hv
 obtain ⟨s0, hs0⟩ : ∃ s0, s0 = pat p (x / 2) (y / 2) := ⟨_, rfl⟩
 have b0 := pat_rng HV.out (x / 2) (y / 2)
 rw [← hs0] at b0
 have H0 := Lib.hid hs0
 clear hs0
 obtain ⟨s1, hs1⟩ : ∃ s1, s1 = pat p (x / 2 + 1) (y / 2) := ⟨_, rfl⟩
 have b1 := pat_rng HV.out (x / 2 + 1) (y / 2)
 rw [← hs1] at b1
 have H1 := Lib.hid hs1
 clear hs1
 rw [← H0.out, ← H1.out] at HH
 obtain ⟨-, k0, k1, k2, -⟩ := bx3 p0
 go_enter Tryd.func128, Tryd.ntmps128
 go_wp2_with fail
 refine (l7Floor_any _ 2 _ (by omega) (by omega) (by omega) (by omega)).mono ?_
 rintro e w2 ⟨rfl, rfl⟩
 go_wp2_with fail
 refine (l7Floor_any _ 2 _ (by omega) (by omega) (by omega) (by omega)).mono ?_
 rintro e w2 ⟨rfl, rfl⟩
 go_wp2_with fail
 refine (l1At_any p (x / 2) (y / 2) a c n _ HV.out HN.out (r.ext E0)).mono ?_
 rintro e w2 ⟨rfl, e2⟩
 rw [← H0.out]
 have p2 := e2.blk p0
 have E2 := E0.trans e2
 rw [← hB]
 clear hB p0 k0 k1 k2 E0 e2
 obtain ⟨-, k0, k1, k2, -⟩ := bx3 p2
 go_wp2_with fail
 refine (l1At_any p (x / 2 + 1) (y / 2) a c n _ HV.out HN.out (r.ext E2)).mono ?_
 rintro e w3 ⟨rfl, e3⟩
 rw [← H1.out]
 go_wp2
 go_ret
 exact ⟨(ret_intH HH).symm, E2.trans e3⟩
set_option maxRecDepth 100000 in
theorem l7Half_eo (p : Pic) (x y : Int) (a : Option Addr) (c n : Nat) (w : World) (hv : p.valid) (hn : n = p.px.length) (r : Sl w a n (p.px.map (Value.int .i64)))
 (x1 : -2000 ≤ x) (x2 : x ≤ 2000) (y1 : -2000 ≤ y) (y2 : y ≤ 2000) (hx : x % 2 = 0) (hy : ¬ y % 2 = 0) :
 Calls Tryd.prog 128 #[.agg #[.int .i64 p.w, .int .i64 p.h, .slice a n c], .int .i64 x, .int .i64 y] w fun e w' => e = .returned (.int .i64 (hlf p x y)) ∧ Ext w w' := by
 have hh := half_eo (p := p) hx hy
 have dx : (x.tmod 2 == 0) = true := tm_even hx
 have dy : (y.tmod 2 == 0) = false := tm_odd hy
 have HH := Lib.hid hh
 clear hx hy hh
 have p0 := blk_new w (.cells #[.int .i64 p.w, .int .i64 p.h, .slice a n c] 25)
 have E0 := Ext.alloc w (.cells #[.int .i64 p.w, .int .i64 p.h, .slice a n c] 25)
 obtain ⟨B, hB⟩ : ∃ B, B = w.heap.size := ⟨_, rfl⟩
 rw [← hB] at p0
 have HB := Lib.hid hB
 have HN := Lib.hid hn
 have HV := Lib.hid hv
 clear hn hv
 obtain ⟨s0, hs0⟩ : ∃ s0, s0 = pat p (x / 2) (y / 2) := ⟨_, rfl⟩
 have b0 := pat_rng HV.out (x / 2) (y / 2)
 rw [← hs0] at b0
 have H0 := Lib.hid hs0
 clear hs0
 obtain ⟨s1, hs1⟩ : ∃ s1, s1 = pat p (x / 2) (y / 2 + 1) := ⟨_, rfl⟩
 have b1 := pat_rng HV.out (x / 2) (y / 2 + 1)
 rw [← hs1] at b1
 have H1 := Lib.hid hs1
 clear hs1
 rw [← H0.out, ← H1.out] at HH
 obtain ⟨-, k0, k1, k2, -⟩ := bx3 p0
 go_enter Tryd.func128, Tryd.ntmps128
 go_wp2_with fail
 refine (l7Floor_any _ 2 _ (by omega) (by omega) (by omega) (by omega)).mono ?_
 rintro e w2 ⟨rfl, rfl⟩
 go_wp2_with fail
 refine (l7Floor_any _ 2 _ (by omega) (by omega) (by omega) (by omega)).mono ?_
 rintro e w2 ⟨rfl, rfl⟩
 go_wp2_with fail
 refine (l1At_any p (x / 2) (y / 2) a c n _ HV.out HN.out (r.ext E0)).mono ?_
 rintro e w2 ⟨rfl, e2⟩
 rw [← H0.out]
 have p2 := e2.blk p0
 have E2 := E0.trans e2
 rw [← hB]
 clear hB p0 k0 k1 k2 E0 e2
 obtain ⟨-, k0, k1, k2, -⟩ := bx3 p2
 go_wp2_with fail
 refine (l1At_any p (x / 2) (y / 2 + 1) a c n _ HV.out HN.out (r.ext E2)).mono ?_
 rintro e w3 ⟨rfl, e3⟩
 rw [← H1.out]
 go_wp2
 go_ret
 exact ⟨(ret_intH HH).symm, E2.trans e3⟩
set_option maxRecDepth 100000 in
theorem l7Half_oo (p : Pic) (x y : Int) (a : Option Addr) (c n : Nat) (w : World) (hv : p.valid) (hn : n = p.px.length) (r : Sl w a n (p.px.map (Value.int .i64)))
 (x1 : -2000 ≤ x) (x2 : x ≤ 2000) (y1 : -2000 ≤ y) (y2 : y ≤ 2000) (hx : ¬ x % 2 = 0) (hy : ¬ y % 2 = 0) :
 Calls Tryd.prog 128 #[.agg #[.int .i64 p.w, .int .i64 p.h, .slice a n c], .int .i64 x, .int .i64 y] w fun e w' => e = .returned (.int .i64 (hlf p x y)) ∧ Ext w w' := by
 have hh := half_oo (p := p) hx hy
 have dx : (x.tmod 2 == 0) = false := tm_odd hx
 have dy : (y.tmod 2 == 0) = false := tm_odd hy
 have HH := Lib.hid hh
 clear hx hy hh
 have p0 := blk_new w (.cells #[.int .i64 p.w, .int .i64 p.h, .slice a n c] 25)
 have E0 := Ext.alloc w (.cells #[.int .i64 p.w, .int .i64 p.h, .slice a n c] 25)
 obtain ⟨B, hB⟩ : ∃ B, B = w.heap.size := ⟨_, rfl⟩
 rw [← hB] at p0
 have HB := Lib.hid hB
 have HN := Lib.hid hn
 have HV := Lib.hid hv
 clear hn hv
 obtain ⟨s0, hs0⟩ : ∃ s0, s0 = pat p (x / 2) (y / 2) := ⟨_, rfl⟩
 have b0 := pat_rng HV.out (x / 2) (y / 2)
 rw [← hs0] at b0
 have H0 := Lib.hid hs0
 clear hs0
 obtain ⟨s1, hs1⟩ : ∃ s1, s1 = pat p (x / 2 + 1) (y / 2) := ⟨_, rfl⟩
 have b1 := pat_rng HV.out (x / 2 + 1) (y / 2)
 rw [← hs1] at b1
 have H1 := Lib.hid hs1
 clear hs1
 obtain ⟨s2, hs2⟩ : ∃ s2, s2 = pat p (x / 2) (y / 2 + 1) := ⟨_, rfl⟩
 have b2 := pat_rng HV.out (x / 2) (y / 2 + 1)
 rw [← hs2] at b2
 have H2 := Lib.hid hs2
 clear hs2
 obtain ⟨s3, hs3⟩ : ∃ s3, s3 = pat p (x / 2 + 1) (y / 2 + 1) := ⟨_, rfl⟩
 have b3 := pat_rng HV.out (x / 2 + 1) (y / 2 + 1)
 rw [← hs3] at b3
 have H3 := Lib.hid hs3
 clear hs3
 rw [← H0.out, ← H1.out, ← H2.out, ← H3.out] at HH
 obtain ⟨-, k0, k1, k2, -⟩ := bx3 p0
 go_enter Tryd.func128, Tryd.ntmps128
 go_wp2_with fail
 refine (l7Floor_any _ 2 _ (by omega) (by omega) (by omega) (by omega)).mono ?_
 rintro e w2 ⟨rfl, rfl⟩
 go_wp2_with fail
 refine (l7Floor_any _ 2 _ (by omega) (by omega) (by omega) (by omega)).mono ?_
 rintro e w2 ⟨rfl, rfl⟩
 go_wp2_with fail
 refine (l1At_any p (x / 2) (y / 2) a c n _ HV.out HN.out (r.ext E0)).mono ?_
 rintro e w2 ⟨rfl, e2⟩
 rw [← H0.out]
 have p2 := e2.blk p0
 have E2 := E0.trans e2
 rw [← hB]
 clear hB p0 k0 k1 k2 E0 e2
 obtain ⟨-, k0, k1, k2, -⟩ := bx3 p2
 clear k0 k1 k2
 go_wp2_with fail
 refine wp_region_inv2 (by kernel_rfl) [(6, 22), (54, 0), (55, 1), (56, 2), (57, 3), (58, 4), (59, 5), (60, 6), (61, 7), (62, 8), (63, 9), (64, 10), (65, 11), (66, 12), (67, 13), (68, 14), (69, 15), (70, 16), (71, 17), (72, 18), (73, 19), (74, 20), (75, 21)] [[], [], [], [2], [], [1, 2, 3, 4], [0, 1, 2, 3, 4, 5], [], [], [], [9], [1, 2, 3, 4, 5, 7, 8, 9, 10], [0, 1, 2, 3, 4, 5, 6, 7, 8, 9, 10, 11], [], [], [14], [], [16], [1, 2, 3, 4, 5, 7, 8, 9, 10, 11, 13, 14, 15, 16, 17], [0, 1, 2, 3, 4, 5, 6, 7, 8, 9, 10, 11, 12, 13, 14, 15, 16, 17, 18], [0, 1, 2, 3, 4, 5, 6, 7, 8, 9, 10, 11, 12, 13, 14, 15, 16, 17, 18, 19], [0, 1, 2, 3, 4, 5, 6, 7, 8, 9, 10, 11, 12, 13, 14, 15, 16, 17, 18, 19, 20], [0, 1, 2, 3, 4, 5, 6, 7, 8, 9, 10, 11, 12, 13, 14, 15, 16, 17, 18, 19, 20, 21]] (fun i own ys wx => match i with | 0 => own = .int .i64 s0 | 1 => own = .agg #[.int .i64 p.w, .int .i64 p.h, .slice a n c] | 2 => own = .int .i64 (x / 2) | 3 => own = .int .i64 (x / 2 + 1) | 4 => own = .int .i64 (y / 2) | 5 => own = .int .i64 s1 | 6 => own = .int .i64 (s0 + s1) | 7 => own = .agg #[.int .i64 p.w, .int .i64 p.h, .slice a n c] | 8 => own = .int .i64 (x / 2) | 9 => own = .int .i64 (y / 2) | 10 => own = .int .i64 (y / 2 + 1) | 11 => own = .int .i64 s2 | 12 => own = .int .i64 (s0 + s1 + s2) | 13 => own = .agg #[.int .i64 p.w, .int .i64 p.h, .slice a n c] | 14 => own = .int .i64 (x / 2) | 15 => own = .int .i64 (x / 2 + 1) | 16 => own = .int .i64 (y / 2) | 17 => own = .int .i64 (y / 2 + 1) | 18 => own = .int .i64 s3 | 19 => own = .int .i64 (s0 + s1 + s2 + s3) | 20 => own = .int .i64 (s0 + s1 + s2 + s3 + 2) | 21 => own = .int .i64 ((s0 + s1 + s2 + s3 + 2) / 4) | 22 => own = .int .i64 ((s0 + s1 + s2 + s3 + 2) / 4) | _ => True) (fun kx wx => Ext w2 wx) (by kernel_rfl) (by kernel_rfl) (by kernel_rfl) ?g0_r4 ?gop_r4 ?gend_r4
 case g0_r4 => exact Ext.drewN _ 1
 case gop_r4 =>
  refine ⟨?_, ?_, ?_, ?_, ?_, ?_, ?_, ?_, ?_, ?_, ?_, ?_, ?_, ?_, ?_, ?_, ?_, ?_, ?_, ?_, ?_, ?_, ?_, trivial⟩
  ·intro kx xs wx hk hG hD hI Qo Kx hK hQo
   clear hD hI
   simp only [patchS, Nat.reduceAdd, Nat.reduceEqDiff, ↓reduceIte] at hQo ⊢
   go_wp2
   exact hK.out _ _ ⟨rfl, hG, fun _ _ _ _ _ _ h => h⟩
  ·intro kx xs wx hk hG hD hI Qo Kx hK hQo
   clear hD hI
   simp only [patchS, Nat.reduceAdd, Nat.reduceEqDiff, ↓reduceIte] at hQo ⊢
   obtain ⟨-, k0, k1, k2, -⟩ := bx3 (hG.blk p2)
   go_wp2
   exact hK.out _ _ ⟨rfl, hG, fun _ _ _ _ _ _ h => h⟩
  ·intro kx xs wx hk hG hD hI Qo Kx hK hQo
   clear hD hI
   simp only [patchS, Nat.reduceAdd, Nat.reduceEqDiff, ↓reduceIte] at hQo ⊢
   go_wp2
   exact hK.out _ _ ⟨rfl, hG, fun _ _ _ _ _ _ h => h⟩
  ·intro kx xs wx hk hG hD hI Qo Kx hK hQo
   have d2 : (xs 2) = .int .i64 (x / 2) := hD 2 rfl
   clear hD hI
   simp only [patchS, Nat.reduceAdd, Nat.reduceEqDiff, ↓reduceIte] at hQo ⊢
   generalize xs 2 = y2 at *
   subst d2
   go_wp2
   exact hK.out _ _ ⟨rfl, hG, fun _ _ _ _ _ _ h => h⟩
  ·intro kx xs wx hk hG hD hI Qo Kx hK hQo
   clear hD hI
   simp only [patchS, Nat.reduceAdd, Nat.reduceEqDiff, ↓reduceIte] at hQo ⊢
   go_wp2
   exact hK.out _ _ ⟨rfl, hG, fun _ _ _ _ _ _ h => h⟩
  ·intro kx xs wx hk hG hD hI Qo Kx hK hQo
   have d1 : (xs 1) = .agg #[.int .i64 p.w, .int .i64 p.h, .slice a n c] := hD 1 rfl
   have d3 : (xs 3) = .int .i64 (x / 2 + 1) := hD 3 rfl
   have d4 : (xs 4) = .int .i64 (y / 2) := hD 4 rfl
   clear hD hI
   simp only [patchS, Nat.reduceAdd, Nat.reduceEqDiff, ↓reduceIte] at hQo ⊢
   generalize xs 1 = y1 at *
   generalize xs 3 = y3 at *
   generalize xs 4 = y4 at *
   subst d1 d3 d4
   go_wp2_with fail
   refine (l1At_any p (x / 2 + 1) (y / 2) a c n _ HV.out HN.out (r.ext (E2.trans hG))).mono ?_
   rintro e w3 ⟨rfl, e3⟩
   rw [← H1.out]
   go_wp2
   exact hK.out _ _ ⟨rfl, hG.trans e3, fun _ _ _ _ _ _ h => h⟩
  ·intro kx xs wx hk hG hD hI Qo Kx hK hQo
   have d0 : (xs 0) = .int .i64 s0 := hD 0 rfl
   have d5 : (xs 5) = .int .i64 s1 := hD 5 rfl
   clear hD hI
   simp only [patchS, Nat.reduceAdd, Nat.reduceEqDiff, ↓reduceIte] at hQo ⊢
   generalize xs 0 = y0 at *
   generalize xs 5 = y5 at *
   subst d0 d5
   go_wp2
   exact hK.out _ _ ⟨rfl, hG, fun _ _ _ _ _ _ h => h⟩
  ·intro kx xs wx hk hG hD hI Qo Kx hK hQo
   clear hD hI
   simp only [patchS, Nat.reduceAdd, Nat.reduceEqDiff, ↓reduceIte] at hQo ⊢
   obtain ⟨-, k0, k1, k2, -⟩ := bx3 (hG.blk p2)
   go_wp2
   exact hK.out _ _ ⟨rfl, hG, fun _ _ _ _ _ _ h => h⟩
  ·intro kx xs wx hk hG hD hI Qo Kx hK hQo
   clear hD hI
   simp only [patchS, Nat.reduceAdd, Nat.reduceEqDiff, ↓reduceIte] at hQo ⊢
   go_wp2
   exact hK.out _ _ ⟨rfl, hG, fun _ _ _ _ _ _ h => h⟩
  ·intro kx xs wx hk hG hD hI Qo Kx hK hQo
   clear hD hI
   simp only [patchS, Nat.reduceAdd, Nat.reduceEqDiff, ↓reduceIte] at hQo ⊢
   go_wp2
   exact hK.out _ _ ⟨rfl, hG, fun _ _ _ _ _ _ h => h⟩
  ·intro kx xs wx hk hG hD hI Qo Kx hK hQo
   have d9 : (xs 9) = .int .i64 (y / 2) := hD 9 rfl
   clear hD hI
   simp only [patchS, Nat.reduceAdd, Nat.reduceEqDiff, ↓reduceIte] at hQo ⊢
   generalize xs 9 = y9 at *
   subst d9
   go_wp2
   exact hK.out _ _ ⟨rfl, hG, fun _ _ _ _ _ _ h => h⟩
  ·intro kx xs wx hk hG hD hI Qo Kx hK hQo
   have d7 : (xs 7) = .agg #[.int .i64 p.w, .int .i64 p.h, .slice a n c] := hD 7 rfl
   have d8 : (xs 8) = .int .i64 (x / 2) := hD 8 rfl
   have d10 : (xs 10) = .int .i64 (y / 2 + 1) := hD 10 rfl
   clear hD hI
   simp only [patchS, Nat.reduceAdd, Nat.reduceEqDiff, ↓reduceIte] at hQo ⊢
   generalize xs 7 = y7 at *
   generalize xs 8 = y8 at *
   generalize xs 10 = y10 at *
   subst d7 d8 d10
   go_wp2_with fail
   refine (l1At_any p (x / 2) (y / 2 + 1) a c n _ HV.out HN.out (r.ext (E2.trans hG))).mono ?_
   rintro e w3 ⟨rfl, e3⟩
   rw [← H2.out]
   go_wp2
   exact hK.out _ _ ⟨rfl, hG.trans e3, fun _ _ _ _ _ _ h => h⟩
  ·intro kx xs wx hk hG hD hI Qo Kx hK hQo
   have d6 : (xs 6) = .int .i64 (s0 + s1) := hD 6 rfl
   have d11 : (xs 11) = .int .i64 s2 := hD 11 rfl
   clear hD hI
   simp only [patchS, Nat.reduceAdd, Nat.reduceEqDiff, ↓reduceIte] at hQo ⊢
   generalize xs 6 = y6 at *
   generalize xs 11 = y11 at *
   subst d6 d11
   go_wp2
   exact hK.out _ _ ⟨rfl, hG, fun _ _ _ _ _ _ h => h⟩
  ·intro kx xs wx hk hG hD hI Qo Kx hK hQo
   clear hD hI
   simp only [patchS, Nat.reduceAdd, Nat.reduceEqDiff, ↓reduceIte] at hQo ⊢
   obtain ⟨-, k0, k1, k2, -⟩ := bx3 (hG.blk p2)
   go_wp2
   exact hK.out _ _ ⟨rfl, hG, fun _ _ _ _ _ _ h => h⟩
  ·intro kx xs wx hk hG hD hI Qo Kx hK hQo
   clear hD hI
   simp only [patchS, Nat.reduceAdd, Nat.reduceEqDiff, ↓reduceIte] at hQo ⊢
   go_wp2
   exact hK.out _ _ ⟨rfl, hG, fun _ _ _ _ _ _ h => h⟩
  ·intro kx xs wx hk hG hD hI Qo Kx hK hQo
   have d14 : (xs 14) = .int .i64 (x / 2) := hD 14 rfl
   clear hD hI
   simp only [patchS, Nat.reduceAdd, Nat.reduceEqDiff, ↓reduceIte] at hQo ⊢
   generalize xs 14 = y14 at *
   subst d14
   go_wp2
   exact hK.out _ _ ⟨rfl, hG, fun _ _ _ _ _ _ h => h⟩
  ·intro kx xs wx hk hG hD hI Qo Kx hK hQo
   clear hD hI
   simp only [patchS, Nat.reduceAdd, Nat.reduceEqDiff, ↓reduceIte] at hQo ⊢
   go_wp2
   exact hK.out _ _ ⟨rfl, hG, fun _ _ _ _ _ _ h => h⟩
  ·intro kx xs wx hk hG hD hI Qo Kx hK hQo
   have d16 : (xs 16) = .int .i64 (y / 2) := hD 16 rfl
   clear hD hI
   simp only [patchS, Nat.reduceAdd, Nat.reduceEqDiff, ↓reduceIte] at hQo ⊢
   generalize xs 16 = y16 at *
   subst d16
   go_wp2
   exact hK.out _ _ ⟨rfl, hG, fun _ _ _ _ _ _ h => h⟩
  ·intro kx xs wx hk hG hD hI Qo Kx hK hQo
   have d13 : (xs 13) = .agg #[.int .i64 p.w, .int .i64 p.h, .slice a n c] := hD 13 rfl
   have d15 : (xs 15) = .int .i64 (x / 2 + 1) := hD 15 rfl
   have d17 : (xs 17) = .int .i64 (y / 2 + 1) := hD 17 rfl
   clear hD hI
   simp only [patchS, Nat.reduceAdd, Nat.reduceEqDiff, ↓reduceIte] at hQo ⊢
   generalize xs 13 = y13 at *
   generalize xs 15 = y15 at *
   generalize xs 17 = y17 at *
   subst d13 d15 d17
   go_wp2_with fail
   refine (l1At_any p (x / 2 + 1) (y / 2 + 1) a c n _ HV.out HN.out (r.ext (E2.trans hG))).mono ?_
   rintro e w3 ⟨rfl, e3⟩
   rw [← H3.out]
   go_wp2
   exact hK.out _ _ ⟨rfl, hG.trans e3, fun _ _ _ _ _ _ h => h⟩
  ·intro kx xs wx hk hG hD hI Qo Kx hK hQo
   have d12 : (xs 12) = .int .i64 (s0 + s1 + s2) := hD 12 rfl
   have d18 : (xs 18) = .int .i64 s3 := hD 18 rfl
   clear hD hI
   simp only [patchS, Nat.reduceAdd, Nat.reduceEqDiff, ↓reduceIte] at hQo ⊢
   generalize xs 12 = y12 at *
   generalize xs 18 = y18 at *
   subst d12 d18
   go_wp2
   exact hK.out _ _ ⟨rfl, hG, fun _ _ _ _ _ _ h => h⟩
  ·intro kx xs wx hk hG hD hI Qo Kx hK hQo
   have d19 : (xs 19) = .int .i64 (s0 + s1 + s2 + s3) := hD 19 rfl
   clear hD hI
   simp only [patchS, Nat.reduceAdd, Nat.reduceEqDiff, ↓reduceIte] at hQo ⊢
   generalize xs 19 = y19 at *
   subst d19
   go_wp2
   exact hK.out _ _ ⟨rfl, hG, fun _ _ _ _ _ _ h => h⟩
  ·intro kx xs wx hk hG hD hI Qo Kx hK hQo
   have d20 : (xs 20) = .int .i64 (s0 + s1 + s2 + s3 + 2) := hD 20 rfl
   clear hD hI
   simp only [patchS, Nat.reduceAdd, Nat.reduceEqDiff, ↓reduceIte] at hQo ⊢
   generalize xs 20 = y20 at *
   subst d20
   go_wp2
   exact hK.out _ _ ⟨rfl, hG, fun _ _ _ _ _ _ h => h⟩
  ·intro kx xs wx hk hG hD hI Qo Kx hK hQo
   have d21 : (xs 21) = .int .i64 ((s0 + s1 + s2 + s3 + 2) / 4) := hD 21 rfl
   clear hD hI
   simp only [patchS, Nat.reduceAdd, Nat.reduceEqDiff, ↓reduceIte] at hQo ⊢
   generalize xs 21 = y21 at *
   subst d21
   go_wp2
   exact hK.out _ _ ⟨rfl, hG, fun _ _ _ _ _ _ h => h⟩
 intro xs wx hV hG
 have d0 : (xs 0) = .int .i64 s0 := hV 0 (by decide)
 have d1 : (xs 1) = .agg #[.int .i64 p.w, .int .i64 p.h, .slice a n c] := hV 1 (by decide)
 have d2 : (xs 2) = .int .i64 (x / 2) := hV 2 (by decide)
 have d3 : (xs 3) = .int .i64 (x / 2 + 1) := hV 3 (by decide)
 have d4 : (xs 4) = .int .i64 (y / 2) := hV 4 (by decide)
 have d5 : (xs 5) = .int .i64 s1 := hV 5 (by decide)
 have d6 : (xs 6) = .int .i64 (s0 + s1) := hV 6 (by decide)
 have d7 : (xs 7) = .agg #[.int .i64 p.w, .int .i64 p.h, .slice a n c] := hV 7 (by decide)
 have d8 : (xs 8) = .int .i64 (x / 2) := hV 8 (by decide)
 have d9 : (xs 9) = .int .i64 (y / 2) := hV 9 (by decide)
 have d10 : (xs 10) = .int .i64 (y / 2 + 1) := hV 10 (by decide)
 have d11 : (xs 11) = .int .i64 s2 := hV 11 (by decide)
 have d12 : (xs 12) = .int .i64 (s0 + s1 + s2) := hV 12 (by decide)
 have d13 : (xs 13) = .agg #[.int .i64 p.w, .int .i64 p.h, .slice a n c] := hV 13 (by decide)
 have d14 : (xs 14) = .int .i64 (x / 2) := hV 14 (by decide)
 have d15 : (xs 15) = .int .i64 (x / 2 + 1) := hV 15 (by decide)
 have d16 : (xs 16) = .int .i64 (y / 2) := hV 16 (by decide)
 have d17 : (xs 17) = .int .i64 (y / 2 + 1) := hV 17 (by decide)
 have d18 : (xs 18) = .int .i64 s3 := hV 18 (by decide)
 have d19 : (xs 19) = .int .i64 (s0 + s1 + s2 + s3) := hV 19 (by decide)
 have d20 : (xs 20) = .int .i64 (s0 + s1 + s2 + s3 + 2) := hV 20 (by decide)
 have d21 : (xs 21) = .int .i64 ((s0 + s1 + s2 + s3 + 2) / 4) := hV 21 (by decide)
 have d22 : (xs 22) = .int .i64 ((s0 + s1 + s2 + s3 + 2) / 4) := hV 22 (by decide)
 clear hV
 simp only [patchS, Nat.reduceAdd, Nat.reduceEqDiff, ↓reduceIte]
 generalize xs 0 = y0 at *
 generalize xs 1 = y1 at *
 generalize xs 2 = y2 at *
 generalize xs 3 = y3 at *
 generalize xs 4 = y4 at *
 generalize xs 5 = y5 at *
 generalize xs 6 = y6 at *
 generalize xs 7 = y7 at *
 generalize xs 8 = y8 at *
 generalize xs 9 = y9 at *
 generalize xs 10 = y10 at *
 generalize xs 11 = y11 at *
 generalize xs 12 = y12 at *
 generalize xs 13 = y13 at *
 generalize xs 14 = y14 at *
 generalize xs 15 = y15 at *
 generalize xs 16 = y16 at *
 generalize xs 17 = y17 at *
 generalize xs 18 = y18 at *
 generalize xs 19 = y19 at *
 generalize xs 20 = y20 at *
 generalize xs 21 = y21 at *
 generalize xs 22 = y22 at *
 replace hG : Ext w2 wx := hG
 clear d0 d1 d2 d3 d4 d5 d6 d7 d8 d9 d10 d11 d12 d13 d14 d15 d16 d17 d18 d19 d20 d21
 subst d22
 go_wp2
 go_ret
 exact ⟨(ret_intH HH).symm, E2.trans hG⟩
theorem l7Half_any (p : Pic) (x y : Int) (a : Option Addr) (c n : Nat) (w : World) (hv : p.valid) (hn : n = p.px.length) (r : Sl w a n (p.px.map (Value.int .i64)))
 (x1 : -2000 ≤ x) (x2 : x ≤ 2000) (y1 : -2000 ≤ y) (y2 : y ≤ 2000) :
 Calls Tryd.prog 128 #[.agg #[.int .i64 p.w, .int .i64 p.h, .slice a n c], .int .i64 x, .int .i64 y] w fun e w' => e = .returned (.int .i64 (hlf p x y)) ∧ Ext w w' := by
 by_cases hx : x % 2 = 0
 ·by_cases hy : y % 2 = 0
  ·exact l7Half_ee p x y a c n w hv hn r x1 x2 y1 y2 hx hy
  ·exact l7Half_eo p x y a c n w hv hn r x1 x2 y1 y2 hx hy
 ·by_cases hy : y % 2 = 0
  ·exact l7Half_oe p x y a c n w hv hn r x1 x2 y1 y2 hx hy
  ·exact l7Half_oo p x y a c n w hv hn r x1 x2 y1 y2 hx hy
end Go.Proofs.YtbnhaegidfbgbaaDoor
namespace Go.Proofs.YtbnhaegidfbgbaaDoor
open Go.RowKit
set_option maxHeartbeats 1000000
theorem blk_snoc (p : Pic) (x y vx vy : Int) {J I : Nat} (hJ : J < 8) (hI : I < 8) : ((blkL p x y vx vy).take (8 * J + (I + 1))).map (Value.int .i64) = ((blkL p x y vx vy).take (8 * J + I)).map (Value.int .i64) ++ [.int .i64 (hlf p (2 * (x + (I : Int)) + vx) (2 * (y + (J : Int)) + vy))] := by
 rw [show 8 * J + (I + 1) = 8 * J + I + 1 by omega, take_snoc_nth _ _ (by rw [blkL_len]; omega), nth_blkL _ _ _ _ _ (by omega), show (8 * J + I) % 8 = I by omega, show (8 * J + I) / 8 = J by omega]
 simp
theorem mul8 (J : Nat) : 8 * (J + 1) = 8 * J + 8 := by omega
set_option maxRecDepth 100000 in
theorem moved_any (p : Pic) (x y vx vy : Int) (a : Option Addr) (c n : Nat) (w : World) (hv : p.valid) (hn : n = p.px.length) (r : Sl w a n (p.px.map (Value.int .i64))) (x1 : 0 ≤ x) (x2 : x ≤ 100) (y1 : 0 ≤ y) (y2 : y ≤ 100) (v1 : -16 ≤ vx) (v2 : vx ≤ 16) (v3 : -16 ≤ vy) (v4 : vy ≤ 16) :
 Calls Tryd.prog 42 #[.agg #[.int .i64 p.w, .int .i64 p.h, .slice a n c], .int .i64 x, .int .i64 y, .agg #[.int .i64 vx, .int .i64 vy]] w fun e w' => ∃ a' c', e = .returned (.slice a' 64 c') ∧ w'.ownsRow w.heap.size 3 1 (.slice a' 64 c') 64 ((blkL p x y vx vy).map (Value.int .i64)) ∧ Ext w w' := by
 have p0 := blk_alloc (blk_new w (.cells #[.int .i64 p.w, .int .i64 p.h, .slice a n c] 25)) (.cells #[.int .i64 vx, .int .i64 vy] 27)
 have q0 := blk_new (w.alloc (.cells #[.int .i64 p.w, .int .i64 p.h, .slice a n c] 25)) (.cells #[.int .i64 vx, .int .i64 vy] 27)
 have E0 := (Ext.alloc w (.cells #[.int .i64 p.w, .int .i64 p.h, .slice a n c] 25)).trans (Ext.alloc _ (.cells #[.int .i64 vx, .int .i64 vy] 27))
 simp only [World.size_alloc] at q0
 obtain ⟨B, hB⟩ : ∃ B, B = w.heap.size := ⟨_, rfl⟩
 rw [← hB] at p0 q0 ⊢
 have HB := Lib.hid hB
 have HN := Lib.hid hn
 have HV := Lib.hid hv
 clear hn hv
 go_enter Tryd.func42, Tryd.ntmps42
 go_wp2_with (at_make; refine wpList_mk0 _ rfl _ _ 23 rfl 3 (.int .i64 0) 8 Tryd.underlying23 info_int _ 64 rfl rfl rfl (by omega) (by omega) ?_; intro w1 v1' hown hgrow)
 have E1 : Ext w w1 := Ext.grown E0 hgrow (fun k e => by cases e)
 have p1 := blk_gr p0 hgrow (by simp)
 have q1 := blk_gr q0 hgrow (by simp)
 simp only [World.size_alloc] at hown
 rw [← hB] at hown ⊢
 clear hgrow
 have X1 := Lib.hid (And.intro p1 q1)
 have hwB : w.heap.size ≤ B := by omega
 clear p0 q0 p1 q1 E0 hB
 go_loopw [9, 13] (fun v j wr => ∃ J : Nat, J ≤ 8 ∧ j = .int .i64 J ∧ Ext w wr ∧ Hid (wr.heap[B]? = some (.cells #[.int .i64 p.w, .int .i64 p.h, .slice a n c] 25 (0, 0)) ∧ wr.heap[B + 1]? = some (.cells #[.int .i64 vx, .int .i64 vy] 27 (0, 0))) ∧ wr.ownsRow (B + 2) 3 1 v (8 * J) (((blkL p x y vx vy).take (8 * J)).map (Value.int .i64))) (fun _ j _ => 8 - (intOf j).toNat)
 case atStart => exact ⟨0, by omega, rfl, E1, X1, by simpa using hown⟩
 case round =>
  obtain ⟨J, hJ, rfl, EJ, XJ, oJ⟩ := hrel
  obtain ⟨wo, rfl⟩ : ∃ wo : World, wo = wr := ⟨_, rfl⟩
  by_cases hltJ : J < 8
  ·have hdJ : decide ((J : Int) < 8) = true := by simp; omega
   go_wp2_with fail
   go_loopw [9, 16] (fun v i wr2 => ∃ I : Nat, I ≤ 8 ∧ i = .int .i64 I ∧ Ext w wr2 ∧ Hid (wr2.heap[B]? = some (.cells #[.int .i64 p.w, .int .i64 p.h, .slice a n c] 25 (0, 0)) ∧ wr2.heap[B + 1]? = some (.cells #[.int .i64 vx, .int .i64 vy] 27 (0, 0))) ∧ wr2.ownsRow (B + 2) 3 1 v (8 * J + I) (((blkL p x y vx vy).take (8 * J + I)).map (Value.int .i64))) (fun _ i _ => 8 - (intOf i).toNat)
   case atStart => exact ⟨0, by omega, rfl, EJ, XJ, oJ⟩
   case round =>
    obtain ⟨I, hI, rfl, EI, XI, oI⟩ := hrel
    clear EJ oJ XJ
    by_cases hltI : I < 8
    ·have hdI : decide ((I : Int) < 8) = true := by simp; omega
     have Hsn := Lib.hid (blk_snoc p x y vx vy hltJ hltI)
     obtain ⟨-, k0, k1, k2, -⟩ := bx3 XI.out.1
     obtain ⟨-, g0, g1, -⟩ := bx2 XI.out.2
     go_wp2_with fail
     refine (half_any p (2 * (x + (I : Int)) + vx) (2 * (y + (J : Int)) + vy) a c n _ HV.out HN.out (r.ext EI) (by omega) (by omega) (by omega) (by omega)).mono ?_
     rintro e w3 ⟨rfl, e3⟩
     have E3 := EI.trans e3
     have X3 := Lib.hid (And.intro (e3.blk XI.out.1) (e3.blk XI.out.2))
     have o3 := owns_ext oI e3
     have hs3 : B + 2 ≤ w3.heap.size := by have := lt_of_block X3.out.2; omega
     clear EI oI XI e3 k0 k1 k2 g0 g1
     go_wp2_with (at_builtin; refine wpList_app _ o3 hs3 _ rfl _ _ 23 rfl (.int .i64 0) 8 Tryd.underlying23 info_int rfl rfl rfl rfl (by omega) (by omega) ?_; intro v4 w4 own4 gr4 _)
     go_roundw
     case rel =>
      rw [← Hsn.out] at own4
      have hge := owns_ge o3
      exact ⟨I + 1, by omega, by go_num, Ext.grown E3 gr4 (fun k e => by have := hge k e; omega), Lib.hid ⟨blk_gr X3.out.1 gr4 (fun e => by have := hge _ e; omega), blk_gr X3.out.2 gr4 (fun e => by have := hge _ e; omega)⟩, own4⟩
     case measure => simp [intOf]; omega
    ·obtain rfl : I = 8 := by omega
     go_wp2
     go_roundw
     case rel => exact ⟨J + 1, by omega, by go_num, EI, XI, by rw [mul8]; exact oI⟩
     case measure => simp [intOf]; omega
  ·obtain rfl : J = 8 := by omega
   rw [List.take_of_length_le (by rw [blkL_len]; omega)] at oJ
   obtain ⟨a8, c8, rfl⟩ := owns_form oJ
   go_wp2
   go_ret
   exact ⟨_, _, rfl, owns_mono oJ (by omega), EJ⟩
set_option maxRecDepth 100000 in
theorem l7Block_any (p : Pic) (x y vx vy : Int) (a : Option Addr) (c n : Nat) (w : World) (hv : p.valid) (hn : n = p.px.length) (r : Sl w a n (p.px.map (Value.int .i64))) (x1 : 0 ≤ x) (x2 : x ≤ 100) (y1 : 0 ≤ y) (y2 : y ≤ 100) (v1 : -16 ≤ vx) (v2 : vx ≤ 16) (v3 : -16 ≤ vy) (v4 : vy ≤ 16) :
 Calls Tryd.prog 93 #[.agg #[.int .i64 p.w, .int .i64 p.h, .slice a n c], .int .i64 x, .int .i64 y, .agg #[.int .i64 vx, .int .i64 vy]] w fun e w' => ∃ a' c', e = .returned (.slice a' 64 c') ∧ w'.ownsRow w.heap.size 3 1 (.slice a' 64 c') 64 ((blkL p x y vx vy).map (Value.int .i64)) ∧ Ext w w' := by
 have p0 := blk_alloc (blk_new w (.cells #[.int .i64 p.w, .int .i64 p.h, .slice a n c] 25)) (.cells #[.int .i64 vx, .int .i64 vy] 27)
 have q0 := blk_new (w.alloc (.cells #[.int .i64 p.w, .int .i64 p.h, .slice a n c] 25)) (.cells #[.int .i64 vx, .int .i64 vy] 27)
 have E0 := (Ext.alloc w (.cells #[.int .i64 p.w, .int .i64 p.h, .slice a n c] 25)).trans (Ext.alloc _ (.cells #[.int .i64 vx, .int .i64 vy] 27))
 simp only [World.size_alloc] at q0
 obtain ⟨B, hB⟩ : ∃ B, B = w.heap.size := ⟨_, rfl⟩
 rw [← hB] at p0 q0 ⊢
 have HB := Lib.hid hB
 have HN := Lib.hid hn
 have HV := Lib.hid hv
 clear hn hv
 have hown := World.ownsRow_made (base := B + 2) (e := 3) (size := 1) ((w.alloc (.cells #[.int .i64 p.w, .int .i64 p.h, .slice a n c] 25)).alloc (.cells #[.int .i64 vx, .int .i64 vy] 27)) #[] 0 (by simp; omega) (by simp) rfl
 have EA := Ext.alloc ((w.alloc (.cells #[.int .i64 p.w, .int .i64 p.h, .slice a n c] 25)).alloc (.cells #[.int .i64 vx, .int .i64 vy] 27)) (.cells #[] 3)
 have E1 := E0.trans EA
 have p1 := EA.blk p0
 have q1 := EA.blk q0
 simp only [World.size_alloc] at hown
 rw [← hB] at hown
 clear EA
 go_enter Tryd.func93, Tryd.ntmps93
 go_wp2_with fail
 try simp only [World.size_alloc]
 rw [← hB]
 generalize (((w.alloc (.cells #[.int .i64 p.w, .int .i64 p.h, .slice a n c] 25)).alloc (.cells #[.int .i64 vx, .int .i64 vy] 27)).alloc (.cells #[] 3)) = w1 at *
 have X1 := Lib.hid (And.intro p1 q1)
 have hwB : w.heap.size ≤ B := by omega
 clear p0 q0 p1 q1 E0 hB
 go_loopw [9, 10] (fun v j wr => ∃ J : Nat, J ≤ 8 ∧ j = .int .i64 J ∧ Ext w wr ∧ Hid (wr.heap[B]? = some (.cells #[.int .i64 p.w, .int .i64 p.h, .slice a n c] 25 (0, 0)) ∧ wr.heap[B + 1]? = some (.cells #[.int .i64 vx, .int .i64 vy] 27 (0, 0))) ∧ wr.ownsRow (B + 2) 3 1 v (8 * J) (((blkL p x y vx vy).take (8 * J)).map (Value.int .i64))) (fun _ j _ => 8 - (intOf j).toNat)
 case atStart => exact ⟨0, by omega, rfl, E1, X1, by simpa using hown⟩
 case round =>
  obtain ⟨J, hJ, rfl, EJ, XJ, oJ⟩ := hrel
  obtain ⟨wo, rfl⟩ : ∃ wo : World, wo = wr := ⟨_, rfl⟩
  by_cases hltJ : J < 8
  ·have hdJ : decide ((J : Int) < 8) = true := by simp; omega
   go_wp2_with fail
   go_loopw [9, 11] (fun v i wr2 => ∃ I : Nat, I ≤ 8 ∧ i = .int .i64 I ∧ Ext w wr2 ∧ Hid (wr2.heap[B]? = some (.cells #[.int .i64 p.w, .int .i64 p.h, .slice a n c] 25 (0, 0)) ∧ wr2.heap[B + 1]? = some (.cells #[.int .i64 vx, .int .i64 vy] 27 (0, 0))) ∧ wr2.ownsRow (B + 2) 3 1 v (8 * J + I) (((blkL p x y vx vy).take (8 * J + I)).map (Value.int .i64))) (fun _ i _ => 8 - (intOf i).toNat)
   case atStart => exact ⟨0, by omega, rfl, EJ, XJ, oJ⟩
   case round =>
    obtain ⟨I, hI, rfl, EI, XI, oI⟩ := hrel
    clear EJ oJ XJ
    by_cases hltI : I < 8
    ·have hdI : decide ((I : Int) < 8) = true := by simp; omega
     have Hsn := Lib.hid (blk_snoc p x y vx vy hltJ hltI)
     obtain ⟨-, k0, k1, k2, -⟩ := bx3 XI.out.1
     obtain ⟨-, g0, g1, -⟩ := bx2 XI.out.2
     go_wp2_with fail
     refine (l7Half_any p (2 * (x + (I : Int)) + vx) (2 * (y + (J : Int)) + vy) a c n _ HV.out HN.out (r.ext EI) (by omega) (by omega) (by omega) (by omega)).mono ?_
     rintro e w3 ⟨rfl, e3⟩
     have E3 := EI.trans e3
     have X3 := Lib.hid (And.intro (e3.blk XI.out.1) (e3.blk XI.out.2))
     have o3 := owns_ext oI e3
     have hs3 : B + 2 ≤ w3.heap.size := by have := lt_of_block X3.out.2; omega
     clear EI oI XI e3 k0 k1 k2 g0 g1
     go_wp2_with (at_builtin; refine wpList_app _ o3 hs3 _ rfl _ _ 23 rfl (.int .i64 0) 8 Tryd.underlying23 info_int rfl rfl rfl rfl (by omega) (by omega) ?_; intro v4 w4 own4 gr4 _)
     go_roundw
     case rel =>
      rw [← Hsn.out] at own4
      have hge := owns_ge o3
      exact ⟨I + 1, by omega, by go_num, Ext.grown E3 gr4 (fun k e => by have := hge k e; omega), Lib.hid ⟨blk_gr X3.out.1 gr4 (fun e => by have := hge _ e; omega), blk_gr X3.out.2 gr4 (fun e => by have := hge _ e; omega)⟩, own4⟩
     case measure => simp [intOf]; omega
    ·obtain rfl : I = 8 := by omega
     go_wp2
     go_roundw
     case rel => exact ⟨J + 1, by omega, by go_num, EI, XI, by rw [mul8]; exact oI⟩
     case measure => simp [intOf]; omega
  ·obtain rfl : J = 8 := by omega
   rw [List.take_of_length_le (by rw [blkL_len]; omega)] at oJ
   obtain ⟨a8, c8, rfl⟩ := owns_form oJ
   go_wp2
   go_ret
   exact ⟨_, _, rfl, owns_mono oJ (by omega), EJ⟩
end Go.Proofs.YtbnhaegidfbgbaaDoor
