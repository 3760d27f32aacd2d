/- Half samples, the samples that predict a macroblock: both sides. | The 64 samples that predict a macroblock: both sides. | The transform of a block: both sides. | The transform of a block: the program's. -/
import Derived.Test.YtbnhaegidfbgbaaGreatDoorQm5
set_option linter.unusedVariables false
set_option linter.unusedSimpArgs false
namespace Go.Proofs.YtbnhaegidfbgbaaGreatDoor
open Go.RowKit
set_option maxHeartbeats 1000000
theorem tm_even {x : Int} (h : x % 2 = 0) : (x.tmod 2 == 0) = true := by simp [Int.tmod_eq_zero_of_dvd (Int.dvd_of_emod_eq_zero h)]
theorem tm_odd {x : Int} (h : ¬ x % 2 = 0) : (x.tmod 2 == 0) = false := by
 simp only [beq_eq_false_iff_ne, ne_eq]
 intro h2
 exact h (Int.emod_eq_zero_of_dvd (Int.dvd_of_tmod_eq_zero h2))
theorem half_ee {p : Pic} {x y : Int} (hx : x % 2 = 0) (hy : y % 2 = 0) : hlf p x y = pat p (x / 2) (y / 2) := by unfold hlf; rw [if_pos hy, if_pos hx]
theorem half_oe {p : Pic} {x y : Int} (hx : ¬ x % 2 = 0) (hy : y % 2 = 0) : hlf p x y = (pat p (x / 2) (y / 2) + pat p (x / 2 + 1) (y / 2) + 1) / 2 := by unfold hlf; rw [if_pos hy, if_neg hx]
theorem half_eo {p : Pic} {x y : Int} (hx : x % 2 = 0) (hy : ¬ y % 2 = 0) : hlf p x y = (pat p (x / 2) (y / 2) + pat p (x / 2) (y / 2 + 1) + 1) / 2 := by unfold hlf; rw [if_neg hy, if_pos hx]
theorem half_oo {p : Pic} {x y : Int} (hx : ¬ x % 2 = 0) (hy : ¬ y % 2 = 0) : hlf p x y = (pat p (x / 2) (y / 2) + pat p (x / 2 + 1) (y / 2) + pat p (x / 2) (y / 2 + 1) + pat p (x / 2 + 1) (y / 2 + 1) + 2) / 4 := by unfold hlf; rw [if_neg hy, if_neg hx]
set_option maxRecDepth 100000 in
theorem half_at_ee (p : Pic) (x y : Int) (a : Option Addr) (c n : Nat) (w : World) (hv : p.valid) (hn : n = p.px.length) (r : Sl w a n (p.px.map (Value.int .i64)))
 (x1 : -2000 ≤ x) (x2 : x ≤ 2000) (y1 : -2000 ≤ y) (y2 : y ≤ 2000) (hx : x % 2 = 0) (hy : y % 2 = 0) :
 Calls Tryz.prog 104 #[.agg #[.int .i64 p.w, .int .i64 p.h, .slice a n c], .int .i64 x, .int .i64 y] w fun e w' => e = .returned (.int .i64 (hlf p x y)) ∧ Ext w w' := by
 have hh := half_ee (p := p) hx hy
 have dx : (x / 2 == (x + 1) / 2) = true := by simp; omega
 have dy : (y / 2 == (y + 1) / 2) = true := by simp; omega
 have HH := Lib.hid hh
 clear hx hy hh
 have p0 := blk_new w (.cells #[.int .i64 p.w, .int .i64 p.h, .slice a n c] 25)
 have E0 := Ext.alloc w (.cells #[.int .i64 p.w, .int .i64 p.h, .slice a n c] 25)
 obtain ⟨B, hB⟩ : ∃ B, B = w.heap.size := ⟨_, rfl⟩
 rw [← hB] at p0
 have HB := Lib.hid hB
 have HN := Lib.hid hn
 have HV := Lib.hid hv
 clear hn hv
 obtain ⟨-, k0, k1, k2, -⟩ := bx3 p0
 go_enter Tryz.func104, Tryz.ntmps104
 go_wp2_with fail
 rw [← hB]
 clear hB
 generalize w.alloc (.cells #[.int .i64 p.w, .int .i64 p.h, .slice a n c] 25) = w0 at *
 refine (at_any p (x / 2) (y / 2) a c n _ HV.out HN.out (r.ext E0)).mono ?_
 rintro e w2 ⟨rfl, e2⟩
 go_wp2
 go_ret
 exact ⟨(ret_intH HH).symm, E0.trans e2⟩
set_option maxRecDepth 100000 in
theorem half_at_oe (p : Pic) (x y : Int) (a : Option Addr) (c n : Nat) (w : World) (hv : p.valid) (hn : n = p.px.length) (r : Sl w a n (p.px.map (Value.int .i64)))
 (x1 : -2000 ≤ x) (x2 : x ≤ 2000) (y1 : -2000 ≤ y) (y2 : y ≤ 2000) (hx : ¬ x % 2 = 0) (hy : y % 2 = 0) :
 Calls Tryz.prog 104 #[.agg #[.int .i64 p.w, .int .i64 p.h, .slice a n c], .int .i64 x, .int .i64 y] w fun e w' => e = .returned (.int .i64 (hlf p x y)) ∧ Ext w w' := by
 have hh := half_oe (p := p) hx hy
 have dx : (x / 2 == (x + 1) / 2) = false := by simp; omega
 have dy : (y / 2 == (y + 1) / 2) = true := by simp; omega
 rw [show x / 2 + 1 = (x + 1) / 2 by omega] at hh
 have HH := Lib.hid hh
 clear hx hy hh
 have p0 := blk_new w (.cells #[.int .i64 p.w, .int .i64 p.h, .slice a n c] 25)
 have E0 := Ext.alloc w (.cells #[.int .i64 p.w, .int .i64 p.h, .slice a n c] 25)
 obtain ⟨B, hB⟩ : ∃ B, B = w.heap.size := ⟨_, rfl⟩
 rw [← hB] at p0
 have HB := Lib.hid hB
 have HN := Lib.hid hn
 have HV := Lib.hid hv
 clear hn hv
 obtain ⟨s0, hs0⟩ : ∃ s0, s0 = pat p (x / 2) (y / 2) := ⟨_, rfl⟩
 have b0 := pat_rng HV.out (x / 2) (y / 2)
 rw [← hs0] at b0
 have H0 := Lib.hid hs0
 clear hs0
 obtain ⟨s1, hs1⟩ : ∃ s1, s1 = pat p ((x + 1) / 2) (y / 2) := ⟨_, rfl⟩
 have b1 := pat_rng HV.out ((x + 1) / 2) (y / 2)
 rw [← hs1] at b1
 have H1 := Lib.hid hs1
 clear hs1
 rw [← H0.out, ← H1.out] at HH
 go_enter Tryz.func104, Tryz.ntmps104
 go_wp2_with fail
 rw [← hB]
 clear hB
 generalize w.alloc (.cells #[.int .i64 p.w, .int .i64 p.h, .slice a n c] 25) = w0 at *
 refine wp_region_inv2 (by kernel_rfl) [(6, 11), (38, 0), (39, 1), (40, 2), (41, 3), (42, 4), (43, 5), (44, 6), (45, 7), (46, 8), (47, 9), (48, 10)] [[], [], [], [0, 1, 2], [], [], [], [0, 1, 2, 3, 4, 5, 6], [0, 1, 2, 3, 4, 5, 6, 7], [0, 1, 2, 3, 4, 5, 6, 7, 8], [0, 1, 2, 3, 4, 5, 6, 7, 8, 9], [0, 1, 2, 3, 4, 5, 6, 7, 8, 9, 10]] (fun i own ys wx => match i with | 0 => own = .agg #[.int .i64 p.w, .int .i64 p.h, .slice a n c] | 1 => own = .int .i64 (x / 2) | 2 => own = .int .i64 (y / 2) | 3 => own = .int .i64 s0 | 4 => own = .agg #[.int .i64 p.w, .int .i64 p.h, .slice a n c] | 5 => own = .int .i64 ((x + 1) / 2) | 6 => own = .int .i64 (y / 2) | 7 => own = .int .i64 s1 | 8 => own = .int .i64 (s0 + s1) | 9 => own = .int .i64 (s0 + s1 + 1) | 10 => own = .int .i64 ((s0 + s1 + 1) / 2) | 11 => own = .int .i64 ((s0 + s1 + 1) / 2) | _ => True) (fun kx wx => Ext w0 wx) (by kernel_rfl) (by kernel_rfl) (by kernel_rfl) ?g0_r1 ?gop_r1 ?gend_r1
 case g0_r1 => exact Ext.drewN _ 1
 case gop_r1 =>
  refine ⟨?o0, ?_, ?_, ?o3, ?o4, ?_, ?_, ?o7, ?o8, ?o9, ?o10, ?o11, trivial⟩ <;> (intro kx xs wx hk hG hD hI Qo Kx hK hQo; simp only [patchS, Nat.reduceAdd, Nat.reduceEqDiff, ↓reduceIte] at hQo ⊢)
  case o0 =>
   clear hD hI
   obtain ⟨-, k0, k1, k2, -⟩ := bx3 (hG.blk p0)
   go_wp2
   exact hK.out _ _ ⟨rfl, hG, fun _ _ _ _ _ _ h => h⟩
  case o3 =>
   have d0 : _ = _ := hD 0 rfl
   have d1 : _ = _ := hD 1 rfl
   have d2 : _ = _ := hD 2 rfl
   clear hD hI
   generalize xs 0 = y0 at *
   generalize xs 1 = y1 at *
   generalize xs 2 = y2 at *
   subst d0 d1 d2
   go_wp2_with fail
   refine (at_any p (x / 2) (y / 2) a c n _ HV.out HN.out (r.ext (E0.trans hG))).mono ?_
   rintro e w2 ⟨rfl, e2⟩
   rw [← H0.out]
   go_wp2
   exact hK.out _ _ ⟨rfl, hG.trans e2, fun _ _ _ _ _ _ h => h⟩
  case o4 =>
   clear hD hI
   obtain ⟨-, k0, k1, k2, -⟩ := bx3 (hG.blk p0)
   go_wp2
   exact hK.out _ _ ⟨rfl, hG, fun _ _ _ _ _ _ h => h⟩
  case o7 =>
   have d4 : _ = _ := hD 4 rfl
   have d5 : _ = _ := hD 5 rfl
   have d6 : _ = _ := hD 6 rfl
   clear hD hI
   generalize xs 4 = y4 at *
   generalize xs 5 = y5 at *
   generalize xs 6 = y6 at *
   subst d4 d5 d6
   go_wp2_with fail
   refine (at_any p ((x + 1) / 2) (y / 2) a c n _ HV.out HN.out (r.ext (E0.trans hG))).mono ?_
   rintro e w2 ⟨rfl, e2⟩
   rw [← H1.out]
   go_wp2
   exact hK.out _ _ ⟨rfl, hG.trans e2, fun _ _ _ _ _ _ h => h⟩
  case o8 =>
   have d3 : _ = _ := hD 3 rfl
   have d7 : _ = _ := hD 7 rfl
   clear hD hI
   generalize xs 3 = y3 at *
   generalize xs 7 = y7 at *
   subst d3 d7
   go_wp2
   exact hK.out _ _ ⟨rfl, hG, fun _ _ _ _ _ _ h => h⟩
  case o9 =>
   have d8 : _ = _ := hD 8 rfl
   clear hD hI
   generalize xs 8 = y8 at *
   subst d8
   go_wp2
   exact hK.out _ _ ⟨rfl, hG, fun _ _ _ _ _ _ h => h⟩
  case o10 =>
   have d9 : _ = _ := hD 9 rfl
   clear hD hI
   generalize xs 9 = y9 at *
   subst d9
   go_wp2
   exact hK.out _ _ ⟨rfl, hG, fun _ _ _ _ _ _ h => h⟩
  case o11 =>
   have d10 : _ = _ := hD 10 rfl
   clear hD hI
   generalize xs 10 = y10 at *
   subst d10
   go_wp2
   exact hK.out _ _ ⟨rfl, hG, fun _ _ _ _ _ _ h => h⟩
  all_goals
   clear hD hI
   go_wp2
   exact hK.out _ _ ⟨rfl, hG, fun _ _ _ _ _ _ h => h⟩
 intro xs wx hV hG
 have d11 : _ = _ := hV 11 (by decide)
 clear hV
 simp only [patchS, Nat.reduceAdd, Nat.reduceEqDiff, ↓reduceIte]
 generalize xs 0 = y0 at *
 generalize xs 1 = y1 at *
 generalize xs 2 = y2 at *
 generalize xs 3 = y3 at *
 generalize xs 4 = y4 at *
 generalize xs 5 = y5 at *
 generalize xs 6 = y6 at *
 generalize xs 7 = y7 at *
 generalize xs 8 = y8 at *
 generalize xs 9 = y9 at *
 generalize xs 10 = y10 at *
 generalize xs 11 = y11 at *
 replace hG : Ext w0 wx := hG
 subst d11
 go_wp2
 go_ret
 exact ⟨(ret_intH HH).symm, E0.trans hG⟩
set_option maxRecDepth 100000 in
theorem half_at_eo (p : Pic) (x y : Int) (a : Option Addr) (c n : Nat) (w : World) (hv : p.valid) (hn : n = p.px.length) (r : Sl w a n (p.px.map (Value.int .i64)))
 (x1 : -2000 ≤ x) (x2 : x ≤ 2000) (y1 : -2000 ≤ y) (y2 : y ≤ 2000) (hx : x % 2 = 0) (hy : ¬ y % 2 = 0) :
 Calls Tryz.prog 104 #[.agg #[.int .i64 p.w, .int .i64 p.h, .slice a n c], .int .i64 x, .int .i64 y] w fun e w' => e = .returned (.int .i64 (hlf p x y)) ∧ Ext w w' := by
 have hh := half_eo (p := p) hx hy
 have dx : (x / 2 == (x + 1) / 2) = true := by simp; omega
 have dy : (y / 2 == (y + 1) / 2) = false := by simp; omega
 rw [show y / 2 + 1 = (y + 1) / 2 by omega] at hh
 have HH := Lib.hid hh
 clear hx hy hh
 have p0 := blk_new w (.cells #[.int .i64 p.w, .int .i64 p.h, .slice a n c] 25)
 have E0 := Ext.alloc w (.cells #[.int .i64 p.w, .int .i64 p.h, .slice a n c] 25)
 obtain ⟨B, hB⟩ : ∃ B, B = w.heap.size := ⟨_, rfl⟩
 rw [← hB] at p0
 have HB := Lib.hid hB
 have HN := Lib.hid hn
 have HV := Lib.hid hv
 clear hn hv
 obtain ⟨s0, hs0⟩ : ∃ s0, s0 = pat p (x / 2) (y / 2) := ⟨_, rfl⟩
 have b0 := pat_rng HV.out (x / 2) (y / 2)
 rw [← hs0] at b0
 have H0 := Lib.hid hs0
 clear hs0
 obtain ⟨s1, hs1⟩ : ∃ s1, s1 = pat p (x / 2) ((y + 1) / 2) := ⟨_, rfl⟩
 have b1 := pat_rng HV.out (x / 2) ((y + 1) / 2)
 rw [← hs1] at b1
 have H1 := Lib.hid hs1
 clear hs1
 rw [← H0.out, ← H1.out] at HH
 go_enter Tryz.func104, Tryz.ntmps104
 go_wp2_with fail
 rw [← hB]
 clear hB
 generalize w.alloc (.cells #[.int .i64 p.w, .int .i64 p.h, .slice a n c] 25) = w0 at *
 refine wp_region_inv2 (by kernel_rfl) [(6, 11), (53, 0), (54, 1), (55, 2), (56, 3), (57, 4), (58, 5), (59, 6), (60, 7), (61, 8), (62, 9), (63, 10)] [[], [], [], [0, 1, 2], [], [], [], [0, 1, 2, 3, 4, 5, 6], [0, 1, 2, 3, 4, 5, 6, 7], [0, 1, 2, 3, 4, 5, 6, 7, 8], [0, 1, 2, 3, 4, 5, 6, 7, 8, 9], [0, 1, 2, 3, 4, 5, 6, 7, 8, 9, 10]] (fun i own ys wx => match i with | 0 => own = .agg #[.int .i64 p.w, .int .i64 p.h, .slice a n c] | 1 => own = .int .i64 (x / 2) | 2 => own = .int .i64 (y / 2) | 3 => own = .int .i64 s0 | 4 => own = .agg #[.int .i64 p.w, .int .i64 p.h, .slice a n c] | 5 => own = .int .i64 (x / 2) | 6 => own = .int .i64 ((y + 1) / 2) | 7 => own = .int .i64 s1 | 8 => own = .int .i64 (s0 + s1) | 9 => own = .int .i64 (s0 + s1 + 1) | 10 => own = .int .i64 ((s0 + s1 + 1) / 2) | 11 => own = .int .i64 ((s0 + s1 + 1) / 2) | _ => True) (fun kx wx => Ext w0 wx) (by kernel_rfl) (by kernel_rfl) (by kernel_rfl) ?g0_r2 ?gop_r2 ?gend_r2
 case g0_r2 => exact Ext.drewN _ 1
 case gop_r2 =>
  refine ⟨?o0, ?_, ?_, ?o3, ?o4, ?_, ?_, ?o7, ?o8, ?o9, ?o10, ?o11, trivial⟩ <;> (intro kx xs wx hk hG hD hI Qo Kx hK hQo; simp only [patchS, Nat.reduceAdd, Nat.reduceEqDiff, ↓reduceIte] at hQo ⊢)
  case o0 =>
   clear hD hI
   obtain ⟨-, k0, k1, k2, -⟩ := bx3 (hG.blk p0)
   go_wp2
   exact hK.out _ _ ⟨rfl, hG, fun _ _ _ _ _ _ h => h⟩
  case o3 =>
   have d0 : _ = _ := hD 0 rfl
   have d1 : _ = _ := hD 1 rfl
   have d2 : _ = _ := hD 2 rfl
   clear hD hI
   generalize xs 0 = y0 at *
   generalize xs 1 = y1 at *
   generalize xs 2 = y2 at *
   subst d0 d1 d2
   go_wp2_with fail
   refine (at_any p (x / 2) (y / 2) a c n _ HV.out HN.out (r.ext (E0.trans hG))).mono ?_
   rintro e w2 ⟨rfl, e2⟩
   rw [← H0.out]
   go_wp2
   exact hK.out _ _ ⟨rfl, hG.trans e2, fun _ _ _ _ _ _ h => h⟩
  case o4 =>
   clear hD hI
   obtain ⟨-, k0, k1, k2, -⟩ := bx3 (hG.blk p0)
   go_wp2
   exact hK.out _ _ ⟨rfl, hG, fun _ _ _ _ _ _ h => h⟩
  case o7 =>
   have d4 : _ = _ := hD 4 rfl
   have d5 : _ = _ := hD 5 rfl
   have d6 : _ = _ := hD 6 rfl
   clear hD hI
   generalize xs 4 = y4 at *
   generalize xs 5 = y5 at *
   generalize xs 6 = y6 at *
   subst d4 d5 d6
   go_wp2_with fail
   refine (at_any p (x / 2) ((y + 1) / 2) a c n _ HV.out HN.out (r.ext (E0.trans hG))).mono ?_
   rintro e w2 ⟨rfl, e2⟩
   rw [← H1.out]
   go_wp2
   exact hK.out _ _ ⟨rfl, hG.trans e2, fun _ _ _ _ _ _ h => h⟩
  case o8 =>
   have d3 : _ = _ := hD 3 rfl
   have d7 : _ = _ := hD 7 rfl
   clear hD hI
   generalize xs 3 = y3 at *
   generalize xs 7 = y7 at *
   subst d3 d7
   go_wp2
   exact hK.out _ _ ⟨rfl, hG, fun _ _ _ _ _ _ h => h⟩
  case o9 =>
   have d8 : _ = _ := hD 8 rfl
   clear hD hI
   generalize xs 8 = y8 at *
   subst d8
   go_wp2
   exact hK.out _ _ ⟨rfl, hG, fun _ _ _ _ _ _ h => h⟩
  case o10 =>
   have d9 : _ = _ := hD 9 rfl
   clear hD hI
   generalize xs 9 = y9 at *
   subst d9
   go_wp2
   exact hK.out _ _ ⟨rfl, hG, fun _ _ _ _ _ _ h => h⟩
  case o11 =>
   have d10 : _ = _ := hD 10 rfl
   clear hD hI
   generalize xs 10 = y10 at *
   subst d10
   go_wp2
   exact hK.out _ _ ⟨rfl, hG, fun _ _ _ _ _ _ h => h⟩
  all_goals
   clear hD hI
   go_wp2
   exact hK.out _ _ ⟨rfl, hG, fun _ _ _ _ _ _ h => h⟩
 intro xs wx hV hG
 have d11 : _ = _ := hV 11 (by decide)
 clear hV
 simp only [patchS, Nat.reduceAdd, Nat.reduceEqDiff, ↓reduceIte]
 generalize xs 0 = y0 at *
 generalize xs 1 = y1 at *
 generalize xs 2 = y2 at *
 generalize xs 3 = y3 at *
 generalize xs 4 = y4 at *
 generalize xs 5 = y5 at *
 generalize xs 6 = y6 at *
 generalize xs 7 = y7 at *
 generalize xs 8 = y8 at *
 generalize xs 9 = y9 at *
 generalize xs 10 = y10 at *
 generalize xs 11 = y11 at *
 replace hG : Ext w0 wx := hG
 subst d11
 go_wp2
 go_ret
 exact ⟨(ret_intH HH).symm, E0.trans hG⟩
set_option maxRecDepth 100000 in
theorem half_at_oo (p : Pic) (x y : Int) (a : Option Addr) (c n : Nat) (w : World) (hv : p.valid) (hn : n = p.px.length) (r : Sl w a n (p.px.map (Value.int .i64)))
 (x1 : -2000 ≤ x) (x2 : x ≤ 2000) (y1 : -2000 ≤ y) (y2 : y ≤ 2000) (hx : ¬ x % 2 = 0) (hy : ¬ y % 2 = 0) :
 Calls Tryz.prog 104 #[.agg #[.int .i64 p.w, .int .i64 p.h, .slice a n c], .int .i64 x, .int .i64 y] w fun e w' => e = .returned (.int .i64 (hlf p x y)) ∧ Ext w w' := by
 have hh := half_oo (p := p) hx hy
 have dx : (x / 2 == (x + 1) / 2) = false := by simp; omega
 have dy : (y / 2 == (y + 1) / 2) = false := by simp; omega
 rw [show x / 2 + 1 = (x + 1) / 2 by omega, show y / 2 + 1 = (y + 1) / 2 by omega] at hh
 have HH := Lib.hid hh
 clear hx hy hh
 have p0 := blk_new w (.cells #[.int .i64 p.w, .int .i64 p.h, .slice a n c] 25)
 have E0 := Ext.alloc w (.cells #[.int .i64 p.w, .int .i64 p.h, .slice a n c] 25)
 obtain ⟨B, hB⟩ : ∃ B, B = w.heap.size := ⟨_, rfl⟩
 rw [← hB] at p0
 have HB := Lib.hid hB
 have HN := Lib.hid hn
 have HV := Lib.hid hv
 clear hn hv
 obtain ⟨s0, hs0⟩ : ∃ s0, s0 = pat p (x / 2) (y / 2) := ⟨_, rfl⟩
 have b0 := pat_rng HV.out (x / 2) (y / 2)
 rw [← hs0] at b0
 have H0 := Lib.hid hs0
 clear hs0
 obtain ⟨s1, hs1⟩ : ∃ s1, s1 = pat p ((x + 1) / 2) (y / 2) := ⟨_, rfl⟩
 have b1 := pat_rng HV.out ((x + 1) / 2) (y / 2)
 rw [← hs1] at b1
 have H1 := Lib.hid hs1
 clear hs1
 obtain ⟨s2, hs2⟩ : ∃ s2, s2 = pat p (x / 2) ((y + 1) / 2) := ⟨_, rfl⟩
 have b2 := pat_rng HV.out (x / 2) ((y + 1) / 2)
 rw [← hs2] at b2
 have H2 := Lib.hid hs2
 clear hs2
 obtain ⟨s3, hs3⟩ : ∃ s3, s3 = pat p ((x + 1) / 2) ((y + 1) / 2) := ⟨_, rfl⟩
 have b3 := pat_rng HV.out ((x + 1) / 2) ((y + 1) / 2)
 rw [← hs3] at b3
 have H3 := Lib.hid hs3
 clear hs3
 rw [← H0.out, ← H1.out, ← H2.out, ← H3.out] at HH
 go_enter Tryz.func104, Tryz.ntmps104
 go_wp2_with fail
 rw [← hB]
 clear hB
 generalize w.alloc (.cells #[.int .i64 p.w, .int .i64 p.h, .slice a n c] 25) = w0 at *
 refine wp_region_inv2 (by kernel_rfl) [(6, 21), (64, 0), (65, 1), (66, 2), (67, 3), (68, 4), (69, 5), (70, 6), (71, 7), (72, 8), (73, 9), (74, 10), (75, 11), (76, 12), (77, 13), (78, 14), (79, 15), (80, 16), (81, 17), (82, 18), (83, 19), (84, 20)] [[], [], [], [0, 1, 2], [], [], [], [0, 1, 2, 3, 4, 5, 6], [0, 1, 2, 3, 4, 5, 6, 7], [], [], [], [0, 1, 2, 3, 4, 5, 6, 7, 9, 10, 11], [0, 1, 2, 3, 4, 5, 6, 7, 8, 9, 10, 11, 12], [], [], [], [0, 1, 2, 3, 4, 5, 6, 7, 9, 10, 11, 12, 14, 15, 16], [0, 1, 2, 3, 4, 5, 6, 7, 8, 9, 10, 11, 12, 13, 14, 15, 16, 17], [0, 1, 2, 3, 4, 5, 6, 7, 8, 9, 10, 11, 12, 13, 14, 15, 16, 17, 18], [0, 1, 2, 3, 4, 5, 6, 7, 8, 9, 10, 11, 12, 13, 14, 15, 16, 17, 18, 19], [0, 1, 2, 3, 4, 5, 6, 7, 8, 9, 10, 11, 12, 13, 14, 15, 16, 17, 18, 19, 20]] (fun i own ys wx => match i with | 0 => own = .agg #[.int .i64 p.w, .int .i64 p.h, .slice a n c] | 1 => own = .int .i64 (x / 2) | 2 => own = .int .i64 (y / 2) | 3 => own = .int .i64 s0 | 4 => own = .agg #[.int .i64 p.w, .int .i64 p.h, .slice a n c] | 5 => own = .int .i64 ((x + 1) / 2) | 6 => own = .int .i64 (y / 2) | 7 => own = .int .i64 s1 | 8 => own = .int .i64 (s0 + s1) | 9 => own = .agg #[.int .i64 p.w, .int .i64 p.h, .slice a n c] | 10 => own = .int .i64 (x / 2) | 11 => own = .int .i64 ((y + 1) / 2) | 12 => own = .int .i64 s2 | 13 => own = .int .i64 (s0 + s1 + s2) | 14 => own = .agg #[.int .i64 p.w, .int .i64 p.h, .slice a n c] | 15 => own = .int .i64 ((x + 1) / 2) | 16 => own = .int .i64 ((y + 1) / 2) | 17 => own = .int .i64 s3 | 18 => own = .int .i64 (s0 + s1 + s2 + s3) | 19 => own = .int .i64 (s0 + s1 + s2 + s3 + 2) | 20 => own = .int .i64 ((s0 + s1 + s2 + s3 + 2) / 4) | 21 => own = .int .i64 ((s0 + s1 + s2 + s3 + 2) / 4) | _ => True) (fun kx wx => Ext w0 wx) (by kernel_rfl) (by kernel_rfl) (by kernel_rfl) ?g0_r3 ?gop_r3 ?gend_r3
 case g0_r3 => exact Ext.drewN _ 1
 case gop_r3 =>
  refine ⟨?o0, ?_, ?_, ?o3, ?o4, ?_, ?_, ?o7, ?o8, ?o9, ?_, ?_, ?o12, ?o13, ?o14, ?_, ?_, ?o17, ?o18, ?o19, ?o20, ?o21, trivial⟩ <;> (intro kx xs wx hk hG hD hI Qo Kx hK hQo; simp only [patchS, Nat.reduceAdd, Nat.reduceEqDiff, ↓reduceIte] at hQo ⊢)
  case o0 =>
   clear hD hI
   obtain ⟨-, k0, k1, k2, -⟩ := bx3 (hG.blk p0)
   go_wp2
   exact hK.out _ _ ⟨rfl, hG, fun _ _ _ _ _ _ h => h⟩
  case o3 =>
   have d0 : _ = _ := hD 0 rfl
   have d1 : _ = _ := hD 1 rfl
   have d2 : _ = _ := hD 2 rfl
   clear hD hI
   generalize xs 0 = y0 at *
   generalize xs 1 = y1 at *
   generalize xs 2 = y2 at *
   subst d0 d1 d2
   go_wp2_with fail
   refine (at_any p (x / 2) (y / 2) a c n _ HV.out HN.out (r.ext (E0.trans hG))).mono ?_
   rintro e w2 ⟨rfl, e2⟩
   rw [← H0.out]
   go_wp2
   exact hK.out _ _ ⟨rfl, hG.trans e2, fun _ _ _ _ _ _ h => h⟩
  case o4 =>
   clear hD hI
   obtain ⟨-, k0, k1, k2, -⟩ := bx3 (hG.blk p0)
   go_wp2
   exact hK.out _ _ ⟨rfl, hG, fun _ _ _ _ _ _ h => h⟩
  case o7 =>
   have d4 : _ = _ := hD 4 rfl
   have d5 : _ = _ := hD 5 rfl
   have d6 : _ = _ := hD 6 rfl
   clear hD hI
   generalize xs 4 = y4 at *
   generalize xs 5 = y5 at *
   generalize xs 6 = y6 at *
   subst d4 d5 d6
   go_wp2_with fail
   refine (at_any p ((x + 1) / 2) (y / 2) a c n _ HV.out HN.out (r.ext (E0.trans hG))).mono ?_
   rintro e w2 ⟨rfl, e2⟩
   rw [← H1.out]
   go_wp2
   exact hK.out _ _ ⟨rfl, hG.trans e2, fun _ _ _ _ _ _ h => h⟩
  case o8 =>
   have d3 : _ = _ := hD 3 rfl
   have d7 : _ = _ := hD 7 rfl
   clear hD hI
   generalize xs 3 = y3 at *
   generalize xs 7 = y7 at *
   subst d3 d7
   go_wp2
   exact hK.out _ _ ⟨rfl, hG, fun _ _ _ _ _ _ h => h⟩
  case o9 =>
   clear hD hI
   obtain ⟨-, k0, k1, k2, -⟩ := bx3 (hG.blk p0)
   go_wp2
   exact hK.out _ _ ⟨rfl, hG, fun _ _ _ _ _ _ h => h⟩
  case o12 =>
   have d9 : _ = _ := hD 9 rfl
   have d10 : _ = _ := hD 10 rfl
   have d11 : _ = _ := hD 11 rfl
   clear hD hI
   generalize xs 9 = y9 at *
   generalize xs 10 = y10 at *
   generalize xs 11 = y11 at *
   subst d9 d10 d11
   go_wp2_with fail
   refine (at_any p (x / 2) ((y + 1) / 2) a c n _ HV.out HN.out (r.ext (E0.trans hG))).mono ?_
   rintro e w2 ⟨rfl, e2⟩
   rw [← H2.out]
   go_wp2
   exact hK.out _ _ ⟨rfl, hG.trans e2, fun _ _ _ _ _ _ h => h⟩
  case o13 =>
   have d8 : _ = _ := hD 8 rfl
   have d12 : _ = _ := hD 12 rfl
   clear hD hI
   generalize xs 8 = y8 at *
   generalize xs 12 = y12 at *
   subst d8 d12
   go_wp2
   exact hK.out _ _ ⟨rfl, hG, fun _ _ _ _ _ _ h => h⟩
  case o14 =>
   clear hD hI
   obtain ⟨-, k0, k1, k2, -⟩ := bx3 (hG.blk p0)
   go_wp2
   exact hK.out _ _ ⟨rfl, hG, fun _ _ _ _ _ _ h => h⟩
  case o17 =>
   have d14 : _ = _ := hD 14 rfl
   have d15 : _ = _ := hD 15 rfl
   have d16 : _ = _ := hD 16 rfl
   clear hD hI
   generalize xs 14 = y14 at *
   generalize xs 15 = y15 at *
   generalize xs 16 = y16 at *
   subst d14 d15 d16
   go_wp2_with fail
   refine (at_any p ((x + 1) / 2) ((y + 1) / 2) a c n _ HV.out HN.out (r.ext (E0.trans hG))).mono ?_
   rintro e w2 ⟨rfl, e2⟩
   rw [← H3.out]
   go_wp2
   exact hK.out _ _ ⟨rfl, hG.trans e2, fun _ _ _ _ _ _ h => h⟩
  case o18 =>
   have d13 : _ = _ := hD 13 rfl
   have d17 : _ = _ := hD 17 rfl
   clear hD hI
   generalize xs 13 = y13 at *
   generalize xs 17 = y17 at *
   subst d13 d17
   go_wp2
   exact hK.out _ _ ⟨rfl, hG, fun _ _ _ _ _ _ h => h⟩
  case o19 =>
   have d18 : _ = _ := hD 18 rfl
   clear hD hI
   generalize xs 18 = y18 at *
   subst d18
   go_wp2
   exact hK.out _ _ ⟨rfl, hG, fun _ _ _ _ _ _ h => h⟩
  case o20 =>
   have d19 : _ = _ := hD 19 rfl
   clear hD hI
   generalize xs 19 = y19 at *
   subst d19
   go_wp2
   exact hK.out _ _ ⟨rfl, hG, fun _ _ _ _ _ _ h => h⟩
  case o21 =>
   have d20 : _ = _ := hD 20 rfl
   clear hD hI
   generalize xs 20 = y20 at *
   subst d20
   go_wp2
   exact hK.out _ _ ⟨rfl, hG, fun _ _ _ _ _ _ h => h⟩
  all_goals
   clear hD hI
   go_wp2
   exact hK.out _ _ ⟨rfl, hG, fun _ _ _ _ _ _ h => h⟩
 intro xs wx hV hG
 have d21 : _ = _ := hV 21 (by decide)
 clear hV
 simp only [patchS, Nat.reduceAdd, Nat.reduceEqDiff, ↓reduceIte]
 generalize xs 0 = y0 at *
 generalize xs 1 = y1 at *
 generalize xs 2 = y2 at *
 generalize xs 3 = y3 at *
 generalize xs 4 = y4 at *
 generalize xs 5 = y5 at *
 generalize xs 6 = y6 at *
 generalize xs 7 = y7 at *
 generalize xs 8 = y8 at *
 generalize xs 9 = y9 at *
 generalize xs 10 = y10 at *
 generalize xs 11 = y11 at *
 generalize xs 12 = y12 at *
 generalize xs 13 = y13 at *
 generalize xs 14 = y14 at *
 generalize xs 15 = y15 at *
 generalize xs 16 = y16 at *
 generalize xs 17 = y17 at *
 generalize xs 18 = y18 at *
 generalize xs 19 = y19 at *
 generalize xs 20 = y20 at *
 generalize xs 21 = y21 at *
 replace hG : Ext w0 wx := hG
 subst d21
 go_wp2
 go_ret
 exact ⟨(ret_intH HH).symm, E0.trans hG⟩
theorem half_any (p : Pic) (x y : Int) (a : Option Addr) (c n : Nat) (w : World) (hv : p.valid) (hn : n = p.px.length) (r : Sl w a n (p.px.map (Value.int .i64)))
 (x1 : -2000 ≤ x) (x2 : x ≤ 2000) (y1 : -2000 ≤ y) (y2 : y ≤ 2000) :
 Calls Tryz.prog 104 #[.agg #[.int .i64 p.w, .int .i64 p.h, .slice a n c], .int .i64 x, .int .i64 y] w fun e w' => e = .returned (.int .i64 (hlf p x y)) ∧ Ext w w' := by
 by_cases hx : x % 2 = 0
 ·by_cases hy : y % 2 = 0
  ·exact half_at_ee p x y a c n w hv hn r x1 x2 y1 y2 hx hy
  ·exact half_at_eo p x y a c n w hv hn r x1 x2 y1 y2 hx hy
 ·by_cases hy : y % 2 = 0
  ·exact half_at_oe p x y a c n w hv hn r x1 x2 y1 y2 hx hy
  ·exact half_at_oo p x y a c n w hv hn r x1 x2 y1 y2 hx hy
set_option maxRecDepth 100000 in
theorem l7Half_ee (p : Pic) (x y : Int) (a : Option Addr) (c n : Nat) (w : World) (hv : p.valid) (hn : n = p.px.length) (r : Sl w a n (p.px.map (Value.int .i64)))
 (x1 : -2000 ≤ x) (x2 : x ≤ 2000) (y1 : -2000 ≤ y) (y2 : y ≤ 2000) (hx : x % 2 = 0) (hy : y % 2 = 0) :
 Calls Tryz.prog 162 #[.agg #[.int .i64 p.w, .int .i64 p.h, .slice a n c], .int .i64 x, .int .i64 y] w fun e w' => e = .returned (.int .i64 (hlf p x y)) ∧ Ext w w' := by
 have hh := half_ee (p := p) hx hy
 have dx : (x.tmod 2 == 0) = true := tm_even hx
 have dy : (y.tmod 2 == 0) = true := tm_even hy
 have HH := Lib.hid hh
 clear hx hy hh
 have p0 := blk_new w (.cells #[.int .i64 p.w, .int .i64 p.h, .slice a n c] 25)
 have E0 := Ext.alloc w (.cells #[.int .i64 p.w, .int .i64 p.h, .slice a n c] 25)
 obtain ⟨B, hB⟩ : ∃ B, B = w.heap.size := ⟨_, rfl⟩
 rw [← hB] at p0
 have HB := Lib.hid hB
 have HN := Lib.hid hn
 have HV := Lib.hid hv
 clear hn hv
 obtain ⟨s0, hs0⟩ : ∃ s0, s0 = pat p (x / 2) (y / 2) := ⟨_, rfl⟩
 have b0 := pat_rng HV.out (x / 2) (y / 2)
 rw [← hs0] at b0
 have H0 := Lib.hid hs0
 clear hs0
 rw [← H0.out] at HH
 obtain ⟨-, k0, k1, k2, -⟩ := bx3 p0
 go_enter Tryz.func162, Tryz.ntmps162
 go_wp2_with fail
 refine (l7Floor_any _ 2 _ (by omega) (by omega) (by omega) (by omega)).mono ?_
 rintro e w2 ⟨rfl, rfl⟩
 go_wp2_with fail
 refine (l7Floor_any _ 2 _ (by omega) (by omega) (by omega) (by omega)).mono ?_
 rintro e w2 ⟨rfl, rfl⟩
 go_wp2_with fail
 refine (l1At_any p (x / 2) (y / 2) a c n _ HV.out HN.out (r.ext E0)).mono ?_
 rintro e w2 ⟨rfl, e2⟩
 rw [← H0.out]
 have p2 := e2.blk p0
 have E2 := E0.trans e2
 rw [← hB]
 clear hB p0 k0 k1 k2 E0 e2
 obtain ⟨-, k0, k1, k2, -⟩ := bx3 p2
 go_wp2
 go_ret
 exact ⟨(ret_intH HH).symm, E2⟩
set_option maxRecDepth 100000 in
theorem l7Half_oe (p : Pic) (x y : Int) (a : Option Addr) (c n : Nat) (w : World) (hv : p.valid) (hn : n = p.px.length) (r : Sl w a n (p.px.map (Value.int .i64)))
 (x1 : -2000 ≤ x) (x2 : x ≤ 2000) (y1 : -2000 ≤ y) (y2 : y ≤ 2000) (hx : ¬ x % 2 = 0) (hy : y % 2 = 0) :
 Calls Tryz.prog 162 #[.agg #[.int .i64 p.w, .int .i64 p.h, .slice a n c], .int .i64 x, .int .i64 y] w fun e w' => e = .returned (.int .i64 (hlf p x y)) ∧ Ext w w' := by
 have hh := half_oe (p := p) hx hy
 have dx : (x.tmod 2 == 0) = false := tm_odd hx
 have dy : (y.tmod 2 == 0) = true := tm_even hy
 have HH := Lib.hid hh
 clear hx hy hh
 have p0 := blk_new w (.cells #[.int .i64 p.w, .int .i64 p.h, .slice a n c] 25)
 have E0 := Ext.alloc w (.cells #[.int .i64 p.w, .int .i64 p.h, .slice a n c] 25)
 obtain ⟨B, hB⟩ : ∃ B, B = w.heap.size := ⟨_, rfl⟩
 rw [← hB] at p0
 have HB := Lib.hid hB
 have HN := Lib.hid hn
 have HV := Lib.hid hv
 clear hn hv
 obtain ⟨s0, hs0⟩ : ∃ s0, s0 = pat p (x / 2) (y / 2) := ⟨_, rfl⟩
 have b0 := pat_rng HV.out (x / 2) (y / 2)
 rw [← hs0] at b0
 have H0 := Lib.hid hs0
 clear hs0
 obtain ⟨s1, hs1⟩ : ∃ s1, s1 = pat p (x / 2 + 1) (y / 2) := ⟨_, rfl⟩
 have b1 := pat_rng HV.out (x / 2 + 1) (y / 2)
 rw [← hs1] at b1
 have H1 := Lib.hid hs1
 clear hs1
 rw [← H0.out, ← H1.out] at HH
 obtain ⟨-, k0, k1, k2, -⟩ := bx3 p0
 go_enter Tryz.func162, Tryz.ntmps162
 go_wp2_with fail
 refine (l7Floor_any _ 2 _ (by omega) (by omega) (by omega) (by omega)).mono ?_
 rintro e w2 ⟨rfl, rfl⟩
 go_wp2_with fail
 refine (l7Floor_any _ 2 _ (by omega) (by omega) (by omega) (by omega)).mono ?_
 rintro e w2 ⟨rfl, rfl⟩
 go_wp2_with fail
 refine (l1At_any p (x / 2) (y / 2) a c n _ HV.out HN.out (r.ext E0)).mono ?_
 rintro e w2 ⟨rfl, e2⟩
 rw [← H0.out]
 have p2 := e2.blk p0
 have E2 := E0.trans e2
 rw [← hB]
 clear hB p0 k0 k1 k2 E0 e2
 obtain ⟨-, k0, k1, k2, -⟩ := bx3 p2
 go_wp2_with fail
 refine (l1At_any p (x / 2 + 1) (y / 2) a c n _ HV.out HN.out (r.ext E2)).mono ?_
 rintro e w3 ⟨rfl, e3⟩
 rw [← H1.out]
 go_wp2
 go_ret
 exact ⟨(ret_intH HH).symm, E2.trans e3⟩
set_option maxRecDepth 100000 in
theorem l7Half_eo (p : Pic) (x y : Int) (a : Option Addr) (c n : Nat) (w : World) (hv : p.valid) (hn : n = p.px.length) (r : Sl w a n (p.px.map (Value.int .i64)))
 (x1 : -2000 ≤ x) (x2 : x ≤ 2000) (y1 : -2000 ≤ y) (y2 : y ≤ 2000) (hx : x % 2 = 0) (hy : ¬ y % 2 = 0) :
 Calls Tryz.prog 162 #[.agg #[.int .i64 p.w, .int .i64 p.h, .slice a n c], .int .i64 x, .int .i64 y] w fun e w' => e = .returned (.int .i64 (hlf p x y)) ∧ Ext w w' := by
 have hh := half_eo (p := p) hx hy
 have dx : (x.tmod 2 == 0) = true := tm_even hx
 have dy : (y.tmod 2 == 0) = false := tm_odd hy
 have HH := Lib.hid hh
 clear hx hy hh
 have p0 := blk_new w (.cells #[.int .i64 p.w, .int .i64 p.h, .slice a n c] 25)
 have E0 := Ext.alloc w (.cells #[.int .i64 p.w, .int .i64 p.h, .slice a n c] 25)
 obtain ⟨B, hB⟩ : ∃ B, B = w.heap.size := ⟨_, rfl⟩
 rw [← hB] at p0
 have HB := Lib.hid hB
 have HN := Lib.hid hn
 have HV := Lib.hid hv
 clear hn hv
 obtain ⟨s0, hs0⟩ : ∃ s0, s0 = pat p (x / 2) (y / 2) := ⟨_, rfl⟩
 have b0 := pat_rng HV.out (x / 2) (y / 2)
 rw [← hs0] at b0
 have H0 := Lib.hid hs0
 clear hs0
 obtain ⟨s1, hs1⟩ : ∃ s1, s1 = pat p (x / 2) (y / 2 + 1) := ⟨_, rfl⟩
 have b1 := pat_rng HV.out (x / 2) (y / 2 + 1)
 rw [← hs1] at b1
 have H1 := Lib.hid hs1
 clear hs1
 rw [← H0.out, ← H1.out] at HH
 obtain ⟨-, k0, k1, k2, -⟩ := bx3 p0
 go_enter Tryz.func162, Tryz.ntmps162
 go_wp2_with fail
 refine (l7Floor_any _ 2 _ (by omega) (by omega) (by omega) (by omega)).mono ?_
 rintro e w2 ⟨rfl, rfl⟩
 go_wp2_with fail
 refine (l7Floor_any _ 2 _ (by omega) (by omega) (by omega) (by omega)).mono ?_
 rintro e w2 ⟨rfl, rfl⟩
 go_wp2_with fail
 refine (l1At_any p (x / 2) (y / 2) a c n _ HV.out HN.out (r.ext E0)).mono ?_
 rintro e w2 ⟨rfl, e2⟩
 rw [← H0.out]
 have p2 := e2.blk p0
 have E2 := E0.trans e2
 rw [← hB]
 clear hB p0 k0 k1 k2 E0 e2
 obtain ⟨-, k0, k1, k2, -⟩ := bx3 p2
 go_wp2_with fail
 refine (l1At_any p (x / 2) (y / 2 + 1) a c n _ HV.out HN.out (r.ext E2)).mono ?_
 rintro e w3 ⟨rfl, e3⟩
 rw [← H1.out]
 go_wp2
 go_ret
 exact ⟨(ret_intH HH).symm, E2.trans e3⟩
set_option maxRecDepth 100000 in
theorem l7Half_oo (p : Pic) (x y : Int) (a : Option Addr) (c n : Nat) (w : World) (hv : p.valid) (hn : n = p.px.length) (r : Sl w a n (p.px.map (Value.int .i64)))
 (x1 : -2000 ≤ x) (x2 : x ≤ 2000) (y1 : -2000 ≤ y) (y2 : y ≤ 2000) (hx : ¬ x % 2 = 0) (hy : ¬ y % 2 = 0) :
 Calls Tryz.prog 162 #[.agg #[.int .i64 p.w, .int .i64 p.h, .slice a n c], .int .i64 x, .int .i64 y] w fun e w' => e = .returned (.int .i64 (hlf p x y)) ∧ Ext w w' := by
 have hh := half_oo (p := p) hx hy
 have dx : (x.tmod 2 == 0) = false := tm_odd hx
 have dy : (y.tmod 2 == 0) = false := tm_odd hy
 have HH := Lib.hid hh
 clear hx hy hh
 have p0 := blk_new w (.cells #[.int .i64 p.w, .int .i64 p.h, .slice a n c] 25)
 have E0 := Ext.alloc w (.cells #[.int .i64 p.w, .int .i64 p.h, .slice a n c] 25)
 obtain ⟨B, hB⟩ : ∃ B, B = w.heap.size := ⟨_, rfl⟩
 rw [← hB] at p0
 have HB := Lib.hid hB
 have HN := Lib.hid hn
 have HV := Lib.hid hv
 clear hn hv
 obtain ⟨s0, hs0⟩ : ∃ s0, s0 = pat p (x / 2) (y / 2) := ⟨_, rfl⟩
 have b0 := pat_rng HV.out (x / 2) (y / 2)
 rw [← hs0] at b0
 have H0 := Lib.hid hs0
 clear hs0
 obtain ⟨s1, hs1⟩ : ∃ s1, s1 = pat p (x / 2 + 1) (y / 2) := ⟨_, rfl⟩
 have b1 := pat_rng HV.out (x / 2 + 1) (y / 2)
 rw [← hs1] at b1
 have H1 := Lib.hid hs1
 clear hs1
 obtain ⟨s2, hs2⟩ : ∃ s2, s2 = pat p (x / 2) (y / 2 + 1) := ⟨_, rfl⟩
 have b2 := pat_rng HV.out (x / 2) (y / 2 + 1)
 rw [← hs2] at b2
 have H2 := Lib.hid hs2
 clear hs2
 obtain ⟨s3, hs3⟩ : ∃ s3, s3 = pat p (x / 2 + 1) (y / 2 + 1) := ⟨_, rfl⟩
 have b3 := pat_rng HV.out (x / 2 + 1) (y / 2 + 1)
 rw [← hs3] at b3
 have H3 := Lib.hid hs3
 clear hs3
 rw [← H0.out, ← H1.out, ← H2.out, ← H3.out] at HH
 obtain ⟨-, k0, k1, k2, -⟩ := bx3 p0
 go_enter Tryz.func162, Tryz.ntmps162
 go_wp2_with fail
 refine (l7Floor_any _ 2 _ (by omega) (by omega) (by omega) (by omega)).mono ?_
 rintro e w2 ⟨rfl, rfl⟩
 go_wp2_with fail
 refine (l7Floor_any _ 2 _ (by omega) (by omega) (by omega) (by omega)).mono ?_
 rintro e w2 ⟨rfl, rfl⟩
 go_wp2_with fail
 refine (l1At_any p (x / 2) (y / 2) a c n _ HV.out HN.out (r.ext E0)).mono ?_
 rintro e w2 ⟨rfl, e2⟩
 rw [← H0.out]
 have p2 := e2.blk p0
 have E2 := E0.trans e2
 rw [← hB]
 clear hB p0 k0 k1 k2 E0 e2
 obtain ⟨-, k0, k1, k2, -⟩ := bx3 p2
 clear k0 k1 k2
 go_wp2_with fail
 refine wp_region_inv2 (by kernel_rfl) [(6, 22), (54, 0), (55, 1), (56, 2), (57, 3), (58, 4), (59, 5), (60, 6), (61, 7), (62, 8), (63, 9), (64, 10), (65, 11), (66, 12), (67, 13), (68, 14), (69, 15), (70, 16), (71, 17), (72, 18), (73, 19), (74, 20), (75, 21)] [[], [], [], [2], [], [1, 2, 3, 4], [0, 1, 2, 3, 4, 5], [], [], [], [9], [1, 2, 3, 4, 5, 7, 8, 9, 10], [0, 1, 2, 3, 4, 5, 6, 7, 8, 9, 10, 11], [], [], [14], [], [16], [1, 2, 3, 4, 5, 7, 8, 9, 10, 11, 13, 14, 15, 16, 17], [0, 1, 2, 3, 4, 5, 6, 7, 8, 9, 10, 11, 12, 13, 14, 15, 16, 17, 18], [0, 1, 2, 3, 4, 5, 6, 7, 8, 9, 10, 11, 12, 13, 14, 15, 16, 17, 18, 19], [0, 1, 2, 3, 4, 5, 6, 7, 8, 9, 10, 11, 12, 13, 14, 15, 16, 17, 18, 19, 20], [0, 1, 2, 3, 4, 5, 6, 7, 8, 9, 10, 11, 12, 13, 14, 15, 16, 17, 18, 19, 20, 21]] (fun i own ys wx => match i with | 0 => own = .int .i64 s0 | 1 => own = .agg #[.int .i64 p.w, .int .i64 p.h, .slice a n c] | 2 => own = .int .i64 (x / 2) | 3 => own = .int .i64 (x / 2 + 1) | 4 => own = .int .i64 (y / 2) | 5 => own = .int .i64 s1 | 6 => own = .int .i64 (s0 + s1) | 7 => own = .agg #[.int .i64 p.w, .int .i64 p.h, .slice a n c] | 8 => own = .int .i64 (x / 2) | 9 => own = .int .i64 (y / 2) | 10 => own = .int .i64 (y / 2 + 1) | 11 => own = .int .i64 s2 | 12 => own = .int .i64 (s0 + s1 + s2) | 13 => own = .agg #[.int .i64 p.w, .int .i64 p.h, .slice a n c] | 14 => own = .int .i64 (x / 2) | 15 => own = .int .i64 (x / 2 + 1) | 16 => own = .int .i64 (y / 2) | 17 => own = .int .i64 (y / 2 + 1) | 18 => own = .int .i64 s3 | 19 => own = .int .i64 (s0 + s1 + s2 + s3) | 20 => own = .int .i64 (s0 + s1 + s2 + s3 + 2) | 21 => own = .int .i64 ((s0 + s1 + s2 + s3 + 2) / 4) | 22 => own = .int .i64 ((s0 + s1 + s2 + s3 + 2) / 4) | _ => True) (fun kx wx => Ext w2 wx) (by kernel_rfl) (by kernel_rfl) (by kernel_rfl) ?g0_r4 ?gop_r4 ?gend_r4
 case g0_r4 => exact Ext.drewN _ 1
 case gop_r4 =>
  refine ⟨?_, ?o1, ?_, ?o3, ?_, ?o5, ?o6, ?o7, ?_, ?_, ?o10, ?o11, ?o12, ?o13, ?_, ?o15, ?_, ?o17, ?o18, ?o19, ?o20, ?o21, ?o22, trivial⟩ <;> (intro kx xs wx hk hG hD hI Qo Kx hK hQo; simp only [patchS, Nat.reduceAdd, Nat.reduceEqDiff, ↓reduceIte] at hQo ⊢)
  case o1 =>
   clear hD hI
   obtain ⟨-, k0, k1, k2, -⟩ := bx3 (hG.blk p2)
   go_wp2
   exact hK.out _ _ ⟨rfl, hG, fun _ _ _ _ _ _ h => h⟩
  case o3 =>
   have d2 : _ = _ := hD 2 rfl
   clear hD hI
   generalize xs 2 = y2 at *
   subst d2
   go_wp2
   exact hK.out _ _ ⟨rfl, hG, fun _ _ _ _ _ _ h => h⟩
  case o5 =>
   have d1 : _ = _ := hD 1 rfl
   have d3 : _ = _ := hD 3 rfl
   have d4 : _ = _ := hD 4 rfl
   clear hD hI
   generalize xs 1 = y1 at *
   generalize xs 3 = y3 at *
   generalize xs 4 = y4 at *
   subst d1 d3 d4
   go_wp2_with fail
   refine (l1At_any p (x / 2 + 1) (y / 2) a c n _ HV.out HN.out (r.ext (E2.trans hG))).mono ?_
   rintro e w3 ⟨rfl, e3⟩
   rw [← H1.out]
   go_wp2
   exact hK.out _ _ ⟨rfl, hG.trans e3, fun _ _ _ _ _ _ h => h⟩
  case o6 =>
   have d0 : _ = _ := hD 0 rfl
   have d5 : _ = _ := hD 5 rfl
   clear hD hI
   generalize xs 0 = y0 at *
   generalize xs 5 = y5 at *
   subst d0 d5
   go_wp2
   exact hK.out _ _ ⟨rfl, hG, fun _ _ _ _ _ _ h => h⟩
  case o7 =>
   clear hD hI
   obtain ⟨-, k0, k1, k2, -⟩ := bx3 (hG.blk p2)
   go_wp2
   exact hK.out _ _ ⟨rfl, hG, fun _ _ _ _ _ _ h => h⟩
  case o10 =>
   have d9 : _ = _ := hD 9 rfl
   clear hD hI
   generalize xs 9 = y9 at *
   subst d9
   go_wp2
   exact hK.out _ _ ⟨rfl, hG, fun _ _ _ _ _ _ h => h⟩
  case o11 =>
   have d7 : _ = _ := hD 7 rfl
   have d8 : _ = _ := hD 8 rfl
   have d10 : _ = _ := hD 10 rfl
   clear hD hI
   generalize xs 7 = y7 at *
   generalize xs 8 = y8 at *
   generalize xs 10 = y10 at *
   subst d7 d8 d10
   go_wp2_with fail
   refine (l1At_any p (x / 2) (y / 2 + 1) a c n _ HV.out HN.out (r.ext (E2.trans hG))).mono ?_
   rintro e w3 ⟨rfl, e3⟩
   rw [← H2.out]
   go_wp2
   exact hK.out _ _ ⟨rfl, hG.trans e3, fun _ _ _ _ _ _ h => h⟩
  case o12 =>
   have d6 : _ = _ := hD 6 rfl
   have d11 : _ = _ := hD 11 rfl
   clear hD hI
   generalize xs 6 = y6 at *
   generalize xs 11 = y11 at *
   subst d6 d11
   go_wp2
   exact hK.out _ _ ⟨rfl, hG, fun _ _ _ _ _ _ h => h⟩
  case o13 =>
   clear hD hI
   obtain ⟨-, k0, k1, k2, -⟩ := bx3 (hG.blk p2)
   go_wp2
   exact hK.out _ _ ⟨rfl, hG, fun _ _ _ _ _ _ h => h⟩
  case o15 =>
   have d14 : _ = _ := hD 14 rfl
   clear hD hI
   generalize xs 14 = y14 at *
   subst d14
   go_wp2
   exact hK.out _ _ ⟨rfl, hG, fun _ _ _ _ _ _ h => h⟩
  case o17 =>
   have d16 : _ = _ := hD 16 rfl
   clear hD hI
   generalize xs 16 = y16 at *
   subst d16
   go_wp2
   exact hK.out _ _ ⟨rfl, hG, fun _ _ _ _ _ _ h => h⟩
  case o18 =>
   have d13 : _ = _ := hD 13 rfl
   have d15 : _ = _ := hD 15 rfl
   have d17 : _ = _ := hD 17 rfl
   clear hD hI
   generalize xs 13 = y13 at *
   generalize xs 15 = y15 at *
   generalize xs 17 = y17 at *
   subst d13 d15 d17
   go_wp2_with fail
   refine (l1At_any p (x / 2 + 1) (y / 2 + 1) a c n _ HV.out HN.out (r.ext (E2.trans hG))).mono ?_
   rintro e w3 ⟨rfl, e3⟩
   rw [← H3.out]
   go_wp2
   exact hK.out _ _ ⟨rfl, hG.trans e3, fun _ _ _ _ _ _ h => h⟩
  case o19 =>
   have d12 : _ = _ := hD 12 rfl
   have d18 : _ = _ := hD 18 rfl
   clear hD hI
   generalize xs 12 = y12 at *
   generalize xs 18 = y18 at *
   subst d12 d18
   go_wp2
   exact hK.out _ _ ⟨rfl, hG, fun _ _ _ _ _ _ h => h⟩
  case o20 =>
   have d19 : _ = _ := hD 19 rfl
   clear hD hI
   generalize xs 19 = y19 at *
   subst d19
   go_wp2
   exact hK.out _ _ ⟨rfl, hG, fun _ _ _ _ _ _ h => h⟩
  case o21 =>
   have d20 : _ = _ := hD 20 rfl
   clear hD hI
   generalize xs 20 = y20 at *
   subst d20
   go_wp2
   exact hK.out _ _ ⟨rfl, hG, fun _ _ _ _ _ _ h => h⟩
  case o22 =>
   have d21 : _ = _ := hD 21 rfl
   clear hD hI
   generalize xs 21 = y21 at *
   subst d21
   go_wp2
   exact hK.out _ _ ⟨rfl, hG, fun _ _ _ _ _ _ h => h⟩
  all_goals
   clear hD hI
   go_wp2
   exact hK.out _ _ ⟨rfl, hG, fun _ _ _ _ _ _ h => h⟩
 intro xs wx hV hG
 have d22 : _ = _ := hV 22 (by decide)
 clear hV
 simp only [patchS, Nat.reduceAdd, Nat.reduceEqDiff, ↓reduceIte]
 generalize xs 0 = y0 at *
 generalize xs 1 = y1 at *
 generalize xs 2 = y2 at *
 generalize xs 3 = y3 at *
 generalize xs 4 = y4 at *
 generalize xs 5 = y5 at *
 generalize xs 6 = y6 at *
 generalize xs 7 = y7 at *
 generalize xs 8 = y8 at *
 generalize xs 9 = y9 at *
 generalize xs 10 = y10 at *
 generalize xs 11 = y11 at *
 generalize xs 12 = y12 at *
 generalize xs 13 = y13 at *
 generalize xs 14 = y14 at *
 generalize xs 15 = y15 at *
 generalize xs 16 = y16 at *
 generalize xs 17 = y17 at *
 generalize xs 18 = y18 at *
 generalize xs 19 = y19 at *
 generalize xs 20 = y20 at *
 generalize xs 21 = y21 at *
 generalize xs 22 = y22 at *
 replace hG : Ext w2 wx := hG
 subst d22
 go_wp2
 go_ret
 exact ⟨(ret_intH HH).symm, E2.trans hG⟩
theorem l7Half_any (p : Pic) (x y : Int) (a : Option Addr) (c n : Nat) (w : World) (hv : p.valid) (hn : n = p.px.length) (r : Sl w a n (p.px.map (Value.int .i64)))
 (x1 : -2000 ≤ x) (x2 : x ≤ 2000) (y1 : -2000 ≤ y) (y2 : y ≤ 2000) :
 Calls Tryz.prog 162 #[.agg #[.int .i64 p.w, .int .i64 p.h, .slice a n c], .int .i64 x, .int .i64 y] w fun e w' => e = .returned (.int .i64 (hlf p x y)) ∧ Ext w w' := by
 by_cases hx : x % 2 = 0
 ·by_cases hy : y % 2 = 0
  ·exact l7Half_ee p x y a c n w hv hn r x1 x2 y1 y2 hx hy
  ·exact l7Half_eo p x y a c n w hv hn r x1 x2 y1 y2 hx hy
 ·by_cases hy : y % 2 = 0
  ·exact l7Half_oe p x y a c n w hv hn r x1 x2 y1 y2 hx hy
  ·exact l7Half_oo p x y a c n w hv hn r x1 x2 y1 y2 hx hy
end Go.Proofs.YtbnhaegidfbgbaaGreatDoor
namespace Go.Proofs.YtbnhaegidfbgbaaGreatDoor
open Go.RowKit
set_option maxHeartbeats 1000000
theorem blk_snoc (p : Pic) (x y vx vy : Int) {J I : Nat} (hJ : J < 8) (hI : I < 8) : ((blkL p x y vx vy).take (8 * J + (I + 1))).map (Value.int .i64) = ((blkL p x y vx vy).take (8 * J + I)).map (Value.int .i64) ++ [.int .i64 (hlf p (2 * (x + (I : Int)) + vx) (2 * (y + (J : Int)) + vy))] := by
 rw [show 8 * J + (I + 1) = 8 * J + I + 1 by omega, take_snoc_nth _ _ (by rw [blkL_len]; omega), nth_blkL _ _ _ _ _ (by omega), show (8 * J + I) % 8 = I by omega, show (8 * J + I) / 8 = J by omega]
 simp
theorem mul8 (J : Nat) : 8 * (J + 1) = 8 * J + 8 := by omega
set_option maxRecDepth 100000 in
theorem moved_any (p : Pic) (x y vx vy : Int) (a : Option Addr) (c n : Nat) (w : World) (hv : p.valid) (hn : n = p.px.length) (r : Sl w a n (p.px.map (Value.int .i64))) (x1 : 0 ≤ x) (x2 : x ≤ 100) (y1 : 0 ≤ y) (y2 : y ≤ 100) (v1 : -16 ≤ vx) (v2 : vx ≤ 16) (v3 : -16 ≤ vy) (v4 : vy ≤ 16) :
 Calls Tryz.prog 50 #[.agg #[.int .i64 p.w, .int .i64 p.h, .slice a n c], .int .i64 x, .int .i64 y, .agg #[.int .i64 vx, .int .i64 vy]] w fun e w' => ∃ a' c', e = .returned (.slice a' 64 c') ∧ w'.ownsRow w.heap.size 3 1 (.slice a' 64 c') 64 ((blkL p x y vx vy).map (Value.int .i64)) ∧ Ext w w' := by
 have p0 := blk_alloc (blk_new w (.cells #[.int .i64 p.w, .int .i64 p.h, .slice a n c] 25)) (.cells #[.int .i64 vx, .int .i64 vy] 27)
 have q0 := blk_new (w.alloc (.cells #[.int .i64 p.w, .int .i64 p.h, .slice a n c] 25)) (.cells #[.int .i64 vx, .int .i64 vy] 27)
 have E0 := (Ext.alloc w (.cells #[.int .i64 p.w, .int .i64 p.h, .slice a n c] 25)).trans (Ext.alloc _ (.cells #[.int .i64 vx, .int .i64 vy] 27))
 simp only [World.size_alloc] at q0
 obtain ⟨B, hB⟩ : ∃ B, B = w.heap.size := ⟨_, rfl⟩
 rw [← hB] at p0 q0 ⊢
 have HB := Lib.hid hB
 have HN := Lib.hid hn
 have HV := Lib.hid hv
 clear hn hv
 go_enter Tryz.func50, Tryz.ntmps50
 go_wp2_with (at_make; refine wpList_mk0 _ rfl _ _ 23 rfl 3 (.int .i64 0) 8 Tryz.underlying23 info_int _ 64 rfl rfl rfl (by omega) (by omega) ?_; intro w1 v1' hown hgrow)
 have E1 : Ext w w1 := Ext.grown E0 hgrow (fun k e => by cases e)
 have p1 := blk_gr p0 hgrow (by simp)
 have q1 := blk_gr q0 hgrow (by simp)
 simp only [World.size_alloc] at hown
 rw [← hB] at hown ⊢
 clear hgrow
 have X1 := Lib.hid (And.intro p1 q1)
 have hwB : w.heap.size ≤ B := by omega
 clear p0 q0 p1 q1 E0 hB
 go_loopw [9, 13] (fun v j wr => ∃ J : Nat, J ≤ 8 ∧ j = .int .i64 J ∧ Ext w wr ∧ Hid (wr.heap[B]? = some (.cells #[.int .i64 p.w, .int .i64 p.h, .slice a n c] 25 (0, 0)) ∧ wr.heap[B + 1]? = some (.cells #[.int .i64 vx, .int .i64 vy] 27 (0, 0))) ∧ wr.ownsRow (B + 2) 3 1 v (8 * J) (((blkL p x y vx vy).take (8 * J)).map (Value.int .i64))) (fun _ j _ => 8 - (intOf j).toNat)
 case atStart => exact ⟨0, by omega, rfl, E1, X1, by simpa using hown⟩
 case round =>
  obtain ⟨J, hJ, rfl, EJ, XJ, oJ⟩ := hrel
  obtain ⟨wo, rfl⟩ : ∃ wo : World, wo = wr := ⟨_, rfl⟩
  by_cases hltJ : J < 8
  ·have hdJ : decide ((J : Int) < 8) = true := by simp; omega
   go_wp2_with fail
   go_loopw [9, 16] (fun v i wr2 => ∃ I : Nat, I ≤ 8 ∧ i = .int .i64 I ∧ Ext w wr2 ∧ Hid (wr2.heap[B]? = some (.cells #[.int .i64 p.w, .int .i64 p.h, .slice a n c] 25 (0, 0)) ∧ wr2.heap[B + 1]? = some (.cells #[.int .i64 vx, .int .i64 vy] 27 (0, 0))) ∧ wr2.ownsRow (B + 2) 3 1 v (8 * J + I) (((blkL p x y vx vy).take (8 * J + I)).map (Value.int .i64))) (fun _ i _ => 8 - (intOf i).toNat)
   case atStart => exact ⟨0, by omega, rfl, EJ, XJ, oJ⟩
   case round =>
    obtain ⟨I, hI, rfl, EI, XI, oI⟩ := hrel
    clear EJ oJ XJ
    by_cases hltI : I < 8
    ·have hdI : decide ((I : Int) < 8) = true := by simp; omega
     have Hsn := Lib.hid (blk_snoc p x y vx vy hltJ hltI)
     obtain ⟨-, k0, k1, k2, -⟩ := bx3 XI.out.1
     obtain ⟨-, g0, g1, -⟩ := bx2 XI.out.2
     go_wp2_with fail
     refine (half_any p (2 * (x + (I : Int)) + vx) (2 * (y + (J : Int)) + vy) a c n _ HV.out HN.out (r.ext EI) (by omega) (by omega) (by omega) (by omega)).mono ?_
     rintro e w3 ⟨rfl, e3⟩
     have E3 := EI.trans e3
     have X3 := Lib.hid (And.intro (e3.blk XI.out.1) (e3.blk XI.out.2))
     have o3 := owns_ext oI e3
     have hs3 : B + 2 ≤ w3.heap.size := by have := lt_of_block X3.out.2; omega
     clear EI oI XI e3 k0 k1 k2 g0 g1
     go_wp2_with (at_builtin; refine wpList_app _ o3 hs3 _ rfl _ _ 23 rfl (.int .i64 0) 8 Tryz.underlying23 info_int rfl rfl rfl rfl (by omega) (by omega) ?_; intro v4 w4 own4 gr4 _)
     go_roundw
     case rel =>
      rw [← Hsn.out] at own4
      have hge := owns_ge o3
      exact ⟨I + 1, by omega, by go_num, Ext.grown E3 gr4 (fun k e => by have := hge k e; omega), Lib.hid ⟨blk_gr X3.out.1 gr4 (fun e => by have := hge _ e; omega), blk_gr X3.out.2 gr4 (fun e => by have := hge _ e; omega)⟩, own4⟩
     case measure => simp [intOf]; omega
    ·obtain rfl : I = 8 := by omega
     go_wp2
     go_roundw
     case rel => exact ⟨J + 1, by omega, by go_num, EI, XI, by rw [mul8]; exact oI⟩
     case measure => simp [intOf]; omega
  ·obtain rfl : J = 8 := by omega
   rw [List.take_of_length_le (by rw [blkL_len]; omega)] at oJ
   obtain ⟨a8, c8, rfl⟩ := owns_form oJ
   go_wp2
   go_ret
   exact ⟨_, _, rfl, owns_mono oJ (by omega), EJ⟩
set_option maxRecDepth 100000 in
theorem l7Block_any (p : Pic) (x y vx vy : Int) (a : Option Addr) (c n : Nat) (w : World) (hv : p.valid) (hn : n = p.px.length) (r : Sl w a n (p.px.map (Value.int .i64))) (x1 : 0 ≤ x) (x2 : x ≤ 100) (y1 : 0 ≤ y) (y2 : y ≤ 100) (v1 : -16 ≤ vx) (v2 : vx ≤ 16) (v3 : -16 ≤ vy) (v4 : vy ≤ 16) :
 Calls Tryz.prog 138 #[.agg #[.int .i64 p.w, .int .i64 p.h, .slice a n c], .int .i64 x, .int .i64 y, .agg #[.int .i64 vx, .int .i64 vy]] w fun e w' => ∃ a' c', e = .returned (.slice a' 64 c') ∧ w'.ownsRow w.heap.size 3 1 (.slice a' 64 c') 64 ((blkL p x y vx vy).map (Value.int .i64)) ∧ Ext w w' := by
 have p0 := blk_alloc (blk_new w (.cells #[.int .i64 p.w, .int .i64 p.h, .slice a n c] 25)) (.cells #[.int .i64 vx, .int .i64 vy] 27)
 have q0 := blk_new (w.alloc (.cells #[.int .i64 p.w, .int .i64 p.h, .slice a n c] 25)) (.cells #[.int .i64 vx, .int .i64 vy] 27)
 have E0 := (Ext.alloc w (.cells #[.int .i64 p.w, .int .i64 p.h, .slice a n c] 25)).trans (Ext.alloc _ (.cells #[.int .i64 vx, .int .i64 vy] 27))
 simp only [World.size_alloc] at q0
 obtain ⟨B, hB⟩ : ∃ B, B = w.heap.size := ⟨_, rfl⟩
 rw [← hB] at p0 q0 ⊢
 have HB := Lib.hid hB
 have HN := Lib.hid hn
 have HV := Lib.hid hv
 clear hn hv
 have hown := World.ownsRow_made (base := B + 2) (e := 3) (size := 1) ((w.alloc (.cells #[.int .i64 p.w, .int .i64 p.h, .slice a n c] 25)).alloc (.cells #[.int .i64 vx, .int .i64 vy] 27)) #[] 0 (by simp; omega) (by simp) rfl
 have EA := Ext.alloc ((w.alloc (.cells #[.int .i64 p.w, .int .i64 p.h, .slice a n c] 25)).alloc (.cells #[.int .i64 vx, .int .i64 vy] 27)) (.cells #[] 3)
 have E1 := E0.trans EA
 have p1 := EA.blk p0
 have q1 := EA.blk q0
 simp only [World.size_alloc] at hown
 rw [← hB] at hown
 clear EA
 go_enter Tryz.func138, Tryz.ntmps138
 go_wp2_with fail
 try simp only [World.size_alloc]
 rw [← hB]
 generalize (((w.alloc (.cells #[.int .i64 p.w, .int .i64 p.h, .slice a n c] 25)).alloc (.cells #[.int .i64 vx, .int .i64 vy] 27)).alloc (.cells #[] 3)) = w1 at *
 have X1 := Lib.hid (And.intro p1 q1)
 have hwB : w.heap.size ≤ B := by omega
 clear p0 q0 p1 q1 E0 hB
 go_loopw [9, 10] (fun v j wr => ∃ J : Nat, J ≤ 8 ∧ j = .int .i64 J ∧ Ext w wr ∧ Hid (wr.heap[B]? = some (.cells #[.int .i64 p.w, .int .i64 p.h, .slice a n c] 25 (0, 0)) ∧ wr.heap[B + 1]? = some (.cells #[.int .i64 vx, .int .i64 vy] 27 (0, 0))) ∧ wr.ownsRow (B + 2) 3 1 v (8 * J) (((blkL p x y vx vy).take (8 * J)).map (Value.int .i64))) (fun _ j _ => 8 - (intOf j).toNat)
 case atStart => exact ⟨0, by omega, rfl, E1, X1, by simpa using hown⟩
 case round =>
  obtain ⟨J, hJ, rfl, EJ, XJ, oJ⟩ := hrel
  obtain ⟨wo, rfl⟩ : ∃ wo : World, wo = wr := ⟨_, rfl⟩
  by_cases hltJ : J < 8
  ·have hdJ : decide ((J : Int) < 8) = true := by simp; omega
   go_wp2_with fail
   go_loopw [9, 11] (fun v i wr2 => ∃ I : Nat, I ≤ 8 ∧ i = .int .i64 I ∧ Ext w wr2 ∧ Hid (wr2.heap[B]? = some (.cells #[.int .i64 p.w, .int .i64 p.h, .slice a n c] 25 (0, 0)) ∧ wr2.heap[B + 1]? = some (.cells #[.int .i64 vx, .int .i64 vy] 27 (0, 0))) ∧ wr2.ownsRow (B + 2) 3 1 v (8 * J + I) (((blkL p x y vx vy).take (8 * J + I)).map (Value.int .i64))) (fun _ i _ => 8 - (intOf i).toNat)
   case atStart => exact ⟨0, by omega, rfl, EJ, XJ, oJ⟩
   case round =>
    obtain ⟨I, hI, rfl, EI, XI, oI⟩ := hrel
    clear EJ oJ XJ
    by_cases hltI : I < 8
    ·have hdI : decide ((I : Int) < 8) = true := by simp; omega
     have Hsn := Lib.hid (blk_snoc p x y vx vy hltJ hltI)
     obtain ⟨-, k0, k1, k2, -⟩ := bx3 XI.out.1
     obtain ⟨-, g0, g1, -⟩ := bx2 XI.out.2
     go_wp2_with fail
     refine (l7Half_any p (2 * (x + (I : Int)) + vx) (2 * (y + (J : Int)) + vy) a c n _ HV.out HN.out (r.ext EI) (by omega) (by omega) (by omega) (by omega)).mono ?_
     rintro e w3 ⟨rfl, e3⟩
     have E3 := EI.trans e3
     have X3 := Lib.hid (And.intro (e3.blk XI.out.1) (e3.blk XI.out.2))
     have o3 := owns_ext oI e3
     have hs3 : B + 2 ≤ w3.heap.size := by have := lt_of_block X3.out.2; omega
     clear EI oI XI e3 k0 k1 k2 g0 g1
     go_wp2_with (at_builtin; refine wpList_app _ o3 hs3 _ rfl _ _ 23 rfl (.int .i64 0) 8 Tryz.underlying23 info_int rfl rfl rfl rfl (by omega) (by omega) ?_; intro v4 w4 own4 gr4 _)
     go_roundw
     case rel =>
      rw [← Hsn.out] at own4
      have hge := owns_ge o3
      exact ⟨I + 1, by omega, by go_num, Ext.grown E3 gr4 (fun k e => by have := hge k e; omega), Lib.hid ⟨blk_gr X3.out.1 gr4 (fun e => by have := hge _ e; omega), blk_gr X3.out.2 gr4 (fun e => by have := hge _ e; omega)⟩, own4⟩
     case measure => simp [intOf]; omega
    ·obtain rfl : I = 8 := by omega
     go_wp2
     go_roundw
     case rel => exact ⟨J + 1, by omega, by go_num, EI, XI, by rw [mul8]; exact oI⟩
     case measure => simp [intOf]; omega
  ·obtain rfl : J = 8 := by omega
   rw [List.take_of_length_le (by rw [blkL_len]; omega)] at oJ
   obtain ⟨a8, c8, rfl⟩ := owns_form oJ
   go_wp2
   go_ret
   exact ⟨_, _, rfl, owns_mono oJ (by omega), EJ⟩
end Go.Proofs.YtbnhaegidfbgbaaGreatDoor
namespace Go.Proofs.YtbnhaegidfbgbaaGreatDoor
open Go.RowKit
set_option maxHeartbeats 1000000
/-- All numbers of a list are within M. -/
def bdA (M : Int) (zs : List Int) : Prop := ∀ j, -M ≤ nth zs j ∧ nth zs j ≤ M
theorem bdA_set {M : Int} {zs : List Int} {v : Int} (h : bdA M zs) (i : Nat) (h1 : -M ≤ v) (h2 : v ≤ M) : bdA M (zs.set i v) := fun j => by
 by_cases e : i = j
 ·subst e
  by_cases hl : i < zs.length
  ·rw [nth_set_same _ _ _ hl]; exact ⟨h1, h2⟩
  ·rw [List.set_eq_of_length_le (by omega)]; exact h i
 ·rw [nth_set_ne _ _ _ _ e]; exact h j
theorem bdA_mono {M M' : Int} {zs : List Int} (h : bdA M zs) (hm : M ≤ M') : bdA M' zs := fun j => by have := h j; omega
theorem bdA_of {M : Int} {zs : List Int} (hM : 0 ≤ M) (h : ∀ j, j < zs.length → -M ≤ nth zs j ∧ nth zs j ≤ M) : bdA M zs := fun j => by
 by_cases hl : j < zs.length
 ·exact h j hl
 ·rw [show nth zs j = 0 by simp [nth, List.getElem?_eq_none (show zs.length ≤ j by omega)]]; omega
theorem bfS_bd {M : Int} {zs : List Int} (h : bdA M zs) (i st : Nat) : bdA (4 * M) (bfS zs i st) := by
 have h0 := h i
 have h1 := h (i + st)
 have h2 := h (i + 2 * st)
 have h3 := h (i + 3 * st)
 unfold bfS
 refine bdA_set (bdA_set (bdA_set (bdA_set (bdA_mono h (by omega)) _ ?_ ?_) _ ?_ ?_) _ ?_ ?_) _ ?_ ?_ <;> omega
theorem bfS_len (zs : List Int) (i st : Nat) : (bfS zs i st).length = zs.length := by simp [bfS]
theorem bfR_len (zs : List Int) (k : Nat) : (bfR zs k).length = zs.length := by
 induction k with
 | zero => rfl
 | succ k ih => simp only [bfR]; rw [bfS_len, ih]
theorem bfC_len (zs : List Int) (k : Nat) : (bfC zs k).length = zs.length := by
 induction k with
 | zero => rfl
 | succ k ih => simp only [bfC]; rw [bfS_len, ih]
theorem four_bd (M : Int) (hM : 0 ≤ M) (f : Nat → List Int) (h0 : bdA M (f 0)) (hs : ∀ k N, bdA N (f k) → bdA (4 * N) (f (k + 1))) : ∀ k, k ≤ 4 → bdA (256 * M) (f k) := by
 have h1 := hs 0 _ h0
 have h2 := hs 1 _ h1
 have h3 := hs 2 _ h2
 have h4 := hs 3 _ h3
 intro k hk
 match k, hk with
 | 0, _ => exact bdA_mono h0 (by omega)
 | 1, _ => exact bdA_mono h1 (by omega)
 | 2, _ => exact bdA_mono h2 (by omega)
 | 3, _ => exact bdA_mono h3 (by omega)
 | 4, _ => exact bdA_mono h4 (by omega)
theorem bfR_bd {zs : List Int} (h : bdA 1048576 zs) : ∀ k, k ≤ 4 → bdA 268435456 (bfR zs k) :=
 fun k hk => bdA_mono (four_bd 1048576 (by omega) (bfR zs) h (fun k N hN => bfS_bd hN _ _) k hk) (by omega)
theorem bfC_bd {zs : List Int} (h : bdA 268435456 zs) : ∀ k, k ≤ 4 → bdA 68719476736 (bfC zs k) :=
 fun k hk => bdA_mono (four_bd 268435456 (by omega) (bfC zs) h (fun k N hN => bfS_bd hN _ _) k hk) (by omega)
/-- A list, the one or the other of two stores made. -/
def stY (Z : List Int) (i1 : Nat) (v1 : Int) (i2 : Nat) (v2 : Int) (b1 b2 : Bool) : List Int := if b2 then (if b1 then Z.set i1 v1 else Z).set i2 v2 else (if b1 then Z.set i1 v1 else Z)
theorem stY_one (Z : List Int) (i1 : Nat) (v1 : Int) (i2 : Nat) (v2 : Int) (b2 : Bool) (hne : i1 ≠ i2) : (stY Z i1 v1 i2 v2 false b2).set i1 v1 = stY Z i1 v1 i2 v2 true b2 := by
 cases b2
 ·rfl
 ·show (Z.set i2 v2).set i1 v1 = (Z.set i1 v1).set i2 v2
  exact List.set_comm _ _ (fun h => hne h.symm)
theorem stY_two (Z : List Int) (i1 : Nat) (v1 : Int) (i2 : Nat) (v2 : Int) (b1 : Bool) : (stY Z i1 v1 i2 v2 b1 false).set i2 v2 = stY Z i1 v1 i2 v2 b1 true := rfl
theorem stY_len (Z : List Int) (i1 : Nat) (v1 : Int) (i2 : Nat) (v2 : Int) (b1 b2 : Bool) : (stY Z i1 v1 i2 v2 b1 b2).length = Z.length := by
 cases b1 <;> cases b2 <;> simp [stY]
theorem gr_drew {w w' : World} {row : Option Nat} (h : w.grownBy w' row) : w.grownBy w'.drew row := grown_ext h (Ext.drewN _ 1)
set_option maxRecDepth 100000 in
set_option maxHeartbeats 2000000 in
theorem butterflies_any (b A0 st : Nat) (zs : List Int) (w : World) (h : IB w b 29 zs) (hl : zs.length = 16) (hb : bdA 1099511627776 zs) (h1 : 1 ≤ st) (h2 : A0 + 3 * st < 16) :
 Calls Tryz.prog 155 #[.pointer (some ⟨b, 0, none⟩), .int .i64 (A0 : Nat), .int .i64 (st : Nat)] w fun e w' => e = .returned (.tuple #[]) ∧ IB w' b 29 (bfS zs A0 st) ∧ w.grownBy w' (some b) := by
 have b0 := hb A0
 have b1 := hb (A0 + st)
 have b2 := hb (A0 + 2 * st)
 have b3 := hb (A0 + 3 * st)
 have HB := Lib.hid (show bfS zs A0 st = (((zs.set A0 (nth zs A0 + nth zs (A0 + st) + nth zs (A0 + 2 * st) + nth zs (A0 + 3 * st))).set (A0 + st) (nth zs A0 + nth zs (A0 + st) - nth zs (A0 + 2 * st) - nth zs (A0 + 3 * st))).set (A0 + 2 * st) (nth zs A0 - nth zs (A0 + st) - nth zs (A0 + 2 * st) + nth zs (A0 + 3 * st))).set (A0 + 3 * st) (nth zs A0 - nth zs (A0 + st) + nth zs (A0 + 2 * st) - nth zs (A0 + 3 * st)) from rfl)
 have c0 := h.cell (i := A0) (by omega)
 have c1 := h.cell (i := A0 + st) (by omega)
 have c2 := h.cell (i := A0 + 2 * st) (by omega)
 have c3 := h.cell (i := A0 + 3 * st) (by omega)
 obtain ⟨A1, hA1⟩ : ∃ A1, A1 = A0 + st := ⟨_, rfl⟩
 obtain ⟨A2, hA2⟩ : ∃ A2, A2 = A0 + 2 * st := ⟨_, rfl⟩
 obtain ⟨A3, hA3⟩ : ∃ A3, A3 = A0 + 3 * st := ⟨_, rfl⟩
 rw [← hA1] at b1 c1 HB
 rw [← hA2] at b2 c2 HB
 rw [← hA3] at b3 c3 HB
 generalize nth zs A0 = v0 at *
 generalize nth zs A1 = v1 at *
 generalize nth zs A2 = v2 at *
 generalize nth zs A3 = v3 at *
 have i1 := Lib.hid (show (A0 : Int) + (st : Int) = (A1 : Int) by omega)
 have i2 := Lib.hid (show (A0 : Int) + 2 * (st : Int) = (A2 : Int) by omega)
 have i3 := Lib.hid (show (A0 : Int) + 3 * (st : Int) = (A3 : Int) by omega)
 have l0 : A0 < 16 := by omega
 have l1 : A1 < 16 := by omega
 have l2 : A2 < 16 := by omega
 have l3 : A3 < 16 := by omega
 have hst : st ≤ 5 := by omega
 have n1 : A0 ≠ A1 := by omega
 have n2 : A2 ≠ A3 := by omega
 have Hl := Lib.hid hl
 have C0 := Lib.hid c0
 have C1 := Lib.hid c1
 have C2 := Lib.hid c2
 have C3 := Lib.hid c3
 clear hl hb hA1 hA2 hA3 h2 c0 c1 c2 c3
 go_enter Tryz.func155, Tryz.ntmps155
 go_wp2_with fail
 refine wp_region_inv2 (by kernel_rfl) [(6, 28), (7, 29), (8, 30), (9, 31), (10, 0), (11, 1), (12, 2), (13, 3), (14, 4), (15, 5), (16, 6), (17, 7), (18, 8), (19, 9), (20, 10), (21, 11), (22, 12), (23, 13), (24, 14), (25, 15), (26, 16), (27, 17), (28, 18), (29, 19), (30, 20), (31, 21), (32, 22), (33, 23), (34, 24), (35, 25), (36, 26), (37, 27)] [[], [], [0], [0, 1, 2], [0, 1, 2, 3], [], [], [], [6, 7], [5], [5, 6, 7, 8, 9], [5, 6, 7, 8, 9, 10], [], [], [], [14], [13, 14, 15], [12], [12, 13, 14, 15, 16, 17], [12, 13, 14, 15, 16, 17, 18], [], [], [], [22], [21, 22, 23], [20], [20, 21, 22, 23, 24, 25], [20, 21, 22, 23, 24, 25, 26], [0, 1, 2, 3, 4], [0, 1, 2, 3, 4, 5, 6, 7, 8, 9, 10, 11, 28], [0, 1, 2, 3, 4, 5, 6, 7, 8, 9, 10, 11, 12, 13, 14, 15, 16, 17, 18, 19, 28, 29], [0, 1, 2, 3, 4, 5, 6, 7, 8, 9, 10, 11, 12, 13, 14, 15, 16, 17, 18, 19, 20, 21, 22, 23, 24, 25, 26, 27, 28, 29, 30]] (fun i own ys wx => match i with | 0 => own = .pointer (some ⟨b, 0, none⟩) | 1 => own = .int .i64 (A0 : Nat) | 2 => own = .pointer (some ⟨b, 0, none⟩) | 3 => own = .pointer (some ⟨b, A0, none⟩) | 4 => own = .int .i64 v0 | 5 => own = .pointer (some ⟨b, 0, none⟩) | 6 => own = .int .i64 (A0 : Nat) | 7 => own = .int .i64 (st : Nat) | 8 => own = .int .i64 (A1 : Nat) | 9 => own = .pointer (some ⟨b, 0, none⟩) | 10 => own = .pointer (some ⟨b, A1, none⟩) | 11 => own = .int .i64 v1 | 12 => own = .pointer (some ⟨b, 0, none⟩) | 13 => own = .int .i64 (A0 : Nat) | 14 => own = .int .i64 (st : Nat) | 15 => own = .int .i64 (2 * (st : Int)) | 16 => own = .int .i64 (A2 : Nat) | 17 => own = .pointer (some ⟨b, 0, none⟩) | 18 => own = .pointer (some ⟨b, A2, none⟩) | 19 => own = .int .i64 v2 | 20 => own = .pointer (some ⟨b, 0, none⟩) | 21 => own = .int .i64 (A0 : Nat) | 22 => own = .int .i64 (st : Nat) | 23 => own = .int .i64 (3 * (st : Int)) | 24 => own = .int .i64 (A3 : Nat) | 25 => own = .pointer (some ⟨b, 0, none⟩) | 26 => own = .pointer (some ⟨b, A3, none⟩) | 27 => own = .int .i64 v3 | 28 => own = .int .i64 v0 | 29 => own = .int .i64 v1 | 30 => own = .int .i64 v2 | 31 => own = .int .i64 v3 | _ => True) (fun kx wx => Ext w wx) (by kernel_rfl) (by kernel_rfl) (by kernel_rfl) ?g0_r1 ?gop_r1 ?gend_r1
 case g0_r1 => exact Ext.drewN _ 1
 case gop_r1 =>
  refine ⟨?_, ?_, ?o2, ?o3, ?o4, ?_, ?_, ?_, ?o8, ?o9, ?o10, ?o11, ?_, ?_, ?_, ?o15, ?o16, ?o17, ?o18, ?o19, ?_, ?_, ?_, ?o23, ?o24, ?o25, ?o26, ?o27, ?o28, ?o29, ?o30, ?o31, trivial⟩ <;> (intro kx xs wx hk hG hD hI Qo Kx hK hQo; simp only [patchS, Nat.reduceAdd, Nat.reduceEqDiff, ↓reduceIte] at hQo ⊢)
  case o2 =>
   have d0 : _ = _ := hD 0 rfl
   clear hD hI
   generalize xs 0 = y0 at *
   subst d0
   go_wp2
   exact hK.out _ _ ⟨rfl, hG, fun _ _ _ _ _ _ h => h⟩
  case o3 =>
   have d1 : _ = _ := hD 1 rfl
   have d2 : _ = _ := hD 2 rfl
   clear hD hI
   generalize xs 1 = y1 at *
   generalize xs 2 = y2 at *
   subst d1 d2
   go_wp2
   exact hK.out _ _ ⟨rfl, hG, fun _ _ _ _ _ _ h => h⟩
  case o4 =>
   have d3 : _ = _ := hD 3 rfl
   clear hD hI
   generalize xs 3 = y3 at *
   subst d3
   have cx := cell_ext hG C0.out
   go_wp2
   exact hK.out _ _ ⟨rfl, hG, fun _ _ _ _ _ _ h => h⟩
  case o8 =>
   have d6 : _ = _ := hD 6 rfl
   have d7 : _ = _ := hD 7 rfl
   clear hD hI
   generalize xs 6 = y6 at *
   generalize xs 7 = y7 at *
   subst d6 d7
   go_wp2
   exact hK.out _ _ ⟨by rw [← i1.out], hG, fun _ _ _ _ _ _ h => h⟩
  case o9 =>
   have d5 : _ = _ := hD 5 rfl
   clear hD hI
   generalize xs 5 = y5 at *
   subst d5
   go_wp2
   exact hK.out _ _ ⟨rfl, hG, fun _ _ _ _ _ _ h => h⟩
  case o10 =>
   have d8 : _ = _ := hD 8 rfl
   have d9 : _ = _ := hD 9 rfl
   clear hD hI
   generalize xs 8 = y8 at *
   generalize xs 9 = y9 at *
   subst d8 d9
   go_wp2
   exact hK.out _ _ ⟨rfl, hG, fun _ _ _ _ _ _ h => h⟩
  case o11 =>
   have d10 : _ = _ := hD 10 rfl
   clear hD hI
   generalize xs 10 = y10 at *
   subst d10
   have cx := cell_ext hG C1.out
   go_wp2
   exact hK.out _ _ ⟨rfl, hG, fun _ _ _ _ _ _ h => h⟩
  case o15 =>
   have d14 : _ = _ := hD 14 rfl
   clear hD hI
   generalize xs 14 = y14 at *
   subst d14
   go_wp2
   exact hK.out _ _ ⟨rfl, hG, fun _ _ _ _ _ _ h => h⟩
  case o16 =>
   have d13 : _ = _ := hD 13 rfl
   have d15 : _ = _ := hD 15 rfl
   clear hD hI
   generalize xs 13 = y13 at *
   generalize xs 15 = y15 at *
   subst d13 d15
   go_wp2
   exact hK.out _ _ ⟨by rw [← i2.out], hG, fun _ _ _ _ _ _ h => h⟩
  case o17 =>
   have d12 : _ = _ := hD 12 rfl
   clear hD hI
   generalize xs 12 = y12 at *
   subst d12
   go_wp2
   exact hK.out _ _ ⟨rfl, hG, fun _ _ _ _ _ _ h => h⟩
  case o18 =>
   have d16 : _ = _ := hD 16 rfl
   have d17 : _ = _ := hD 17 rfl
   clear hD hI
   generalize xs 16 = y16 at *
   generalize xs 17 = y17 at *
   subst d16 d17
   go_wp2
   exact hK.out _ _ ⟨rfl, hG, fun _ _ _ _ _ _ h => h⟩
  case o19 =>
   have d18 : _ = _ := hD 18 rfl
   clear hD hI
   generalize xs 18 = y18 at *
   subst d18
   have cx := cell_ext hG C2.out
   go_wp2
   exact hK.out _ _ ⟨rfl, hG, fun _ _ _ _ _ _ h => h⟩
  case o23 =>
   have d22 : _ = _ := hD 22 rfl
   clear hD hI
   generalize xs 22 = y22 at *
   subst d22
   go_wp2
   exact hK.out _ _ ⟨rfl, hG, fun _ _ _ _ _ _ h => h⟩
  case o24 =>
   have d21 : _ = _ := hD 21 rfl
   have d23 : _ = _ := hD 23 rfl
   clear hD hI
   generalize xs 21 = y21 at *
   generalize xs 23 = y23 at *
   subst d21 d23
   go_wp2
   exact hK.out _ _ ⟨by rw [← i3.out], hG, fun _ _ _ _ _ _ h => h⟩
  case o25 =>
   have d20 : _ = _ := hD 20 rfl
   clear hD hI
   generalize xs 20 = y20 at *
   subst d20
   go_wp2
   exact hK.out _ _ ⟨rfl, hG, fun _ _ _ _ _ _ h => h⟩
  case o26 =>
   have d24 : _ = _ := hD 24 rfl
   have d25 : _ = _ := hD 25 rfl
   clear hD hI
   generalize xs 24 = y24 at *
   generalize xs 25 = y25 at *
   subst d24 d25
   go_wp2
   exact hK.out _ _ ⟨rfl, hG, fun _ _ _ _ _ _ h => h⟩
  case o27 =>
   have d26 : _ = _ := hD 26 rfl
   clear hD hI
   generalize xs 26 = y26 at *
   subst d26
   have cx := cell_ext hG C3.out
   go_wp2
   exact hK.out _ _ ⟨rfl, hG, fun _ _ _ _ _ _ h => h⟩
  case o28 =>
   have d4 : _ = _ := hD 4 rfl
   clear hD hI
   generalize xs 4 = y4 at *
   subst d4
   go_wp2
   exact hK.out _ _ ⟨rfl, hG, fun _ _ _ _ _ _ h => h⟩
  case o29 =>
   have d11 : _ = _ := hD 11 rfl
   clear hD hI
   generalize xs 11 = y11 at *
   subst d11
   go_wp2
   exact hK.out _ _ ⟨rfl, hG, fun _ _ _ _ _ _ h => h⟩
  case o30 =>
   have d19 : _ = _ := hD 19 rfl
   clear hD hI
   generalize xs 19 = y19 at *
   subst d19
   go_wp2
   exact hK.out _ _ ⟨rfl, hG, fun _ _ _ _ _ _ h => h⟩
  case o31 =>
   have d27 : _ = _ := hD 27 rfl
   clear hD hI
   generalize xs 27 = y27 at *
   subst d27
   go_wp2
   exact hK.out _ _ ⟨rfl, hG, fun _ _ _ _ _ _ h => h⟩
  all_goals
   clear hD hI
   go_wp2
   exact hK.out _ _ ⟨rfl, hG, fun _ _ _ _ _ _ h => h⟩
 intro xs wx hV hG
 have d28 : _ = _ := hV 28 (by decide)
 have d29 : _ = _ := hV 29 (by decide)
 have d30 : _ = _ := hV 30 (by decide)
 have d31 : _ = _ := hV 31 (by decide)
 clear hV
 simp only [patchS, Nat.reduceAdd, Nat.reduceEqDiff, ↓reduceIte]
 generalize xs 0 = y0 at *
 generalize xs 1 = y1 at *
 generalize xs 2 = y2 at *
 generalize xs 3 = y3 at *
 generalize xs 4 = y4 at *
 generalize xs 5 = y5 at *
 generalize xs 6 = y6 at *
 generalize xs 7 = y7 at *
 generalize xs 8 = y8 at *
 generalize xs 9 = y9 at *
 generalize xs 10 = y10 at *
 generalize xs 11 = y11 at *
 generalize xs 12 = y12 at *
 generalize xs 13 = y13 at *
 generalize xs 14 = y14 at *
 generalize xs 15 = y15 at *
 generalize xs 16 = y16 at *
 generalize xs 17 = y17 at *
 generalize xs 18 = y18 at *
 generalize xs 19 = y19 at *
 generalize xs 20 = y20 at *
 generalize xs 21 = y21 at *
 generalize xs 22 = y22 at *
 generalize xs 23 = y23 at *
 generalize xs 24 = y24 at *
 generalize xs 25 = y25 at *
 generalize xs 26 = y26 at *
 generalize xs 27 = y27 at *
 generalize xs 28 = y28 at *
 generalize xs 29 = y29 at *
 generalize xs 30 = y30 at *
 generalize xs 31 = y31 at *
 replace hG : Ext w wx := hG
 subst d28 d29 d30 d31
 have G1 : IB wx b 29 zs ∧ w.grownBy wx (some b) := ⟨h.ext hG, grown_ext (grown_refl _ _) hG⟩
 clear hG h
 generalize wx = wa at *
 go_wp2_with fail
 refine wp_region_invL (by kernel_rfl) [(38, 0), (39, 1), (40, 2), (41, 3), (42, 4), (43, 5), (44, 6), (45, 7), (46, 8), (47, 9), (48, 10), (49, 11), (50, 12), (51, 13), (52, 14), (53, 15), (54, 16), (55, 17), (56, 18), (57, 19), (58, 20), (59, 21), (60, 23), (61, 24)] [[], [], [], [], [], [3, 4], [], [], [6, 7], [], [6, 7, 8, 9], [], [6, 7, 8, 9, 10, 11], [], [], [13, 14], [], [13, 14, 15, 16], [], [13, 14, 15, 16, 17, 18], [0], [0, 1, 6, 7, 8, 9, 10, 11, 12, 20], [0, 1, 6, 7, 8, 9, 10, 11, 12, 20, 21], [2], [0, 1, 2, 3, 4, 5, 6, 7, 8, 9, 10, 11, 12, 13, 14, 15, 16, 17, 18, 19, 20, 21, 22, 23], [0, 1, 2, 3, 4, 5, 6, 7, 8, 9, 10, 11, 12, 13, 14, 15, 16, 17, 18, 19, 20, 21, 22, 23, 24]] (fun i own ys wx => match i with | 0 => own = .pointer (some ⟨b, 0, none⟩) | 1 => own = .int .i64 (A0 : Nat) | 2 => own = .pointer (some ⟨b, 0, none⟩) | 3 => own = .int .i64 (A0 : Nat) | 4 => own = .int .i64 (st : Nat) | 5 => own = .int .i64 ((A1 : Nat)) | 6 => own = .int .i64 (v0) | 7 => own = .int .i64 (v1) | 8 => own = .int .i64 (v0 + v1) | 9 => own = .int .i64 (v2) | 10 => own = .int .i64 (v0 + v1 + v2) | 11 => own = .int .i64 (v3) | 12 => own = .int .i64 (v0 + v1 + v2 + v3) | 13 => own = .int .i64 (v0) | 14 => own = .int .i64 (v1) | 15 => own = .int .i64 (v0 + v1) | 16 => own = .int .i64 (v2) | 17 => own = .int .i64 (v0 + v1 - v2) | 18 => own = .int .i64 (v3) | 19 => own = .int .i64 (v0 + v1 - v2 - v3) | 20 => own = .pointer (some ⟨b, 0, none⟩) | 21 => own = .pointer (some ⟨b, A0, none⟩) | 22 => True | 23 => own = .pointer (some ⟨b, 0, none⟩) | 24 => own = .pointer (some ⟨b, A1, none⟩) | 25 => True | _ => True) (fun Lx wx => IB wx b 29 (stY (zs) A0 (v0 + v1 + v2 + v3) A1 (v0 + v1 - v2 - v3) (Lx 22) (Lx 25)) ∧ w.grownBy wx (some b)) (by kernel_rfl) (by kernel_rfl) (by kernel_rfl) ?g0_r2 ?gop_r2 ?gend_r2
 case g0_r2 => exact ⟨G1.1.drewN 1, gr_drew G1.2⟩
 case gop_r2 =>
  refine ⟨?o0, ?o1, ?_, ?_, ?_, ?o5, ?o6, ?o7, ?o8, ?o9, ?o10, ?o11, ?o12, ?_, ?_, ?o15, ?_, ?o17, ?_, ?o19, ?o20, ?o21, ?o22, ?o23, ?o24, ?o25, trivial⟩ <;> (intro Lx xs wx hG hl ha hb hD hI Qo Kx hK hQo; simp only [patchS, Nat.reduceAdd, Nat.reduceEqDiff, ↓reduceIte] at hQo ⊢)
  case o0 =>
   have l22 : Lx 22 = false := hb 22 rfl
   have l25 : Lx 25 = false := hb 25 rfl
   clear hl ha hb hD hI
   go_wp2
   exact hK.out _ _ ⟨rfl, hG, fun _ _ _ _ _ _ h => h⟩
  case o1 =>
   have l22 : Lx 22 = false := hb 22 rfl
   have l25 : Lx 25 = false := hb 25 rfl
   clear hl ha hb hD hI
   go_wp2
   exact hK.out _ _ ⟨rfl, hG, fun _ _ _ _ _ _ h => h⟩
  case o5 =>
   have l25 : Lx 25 = false := hb 25 rfl
   clear hl ha hb
   have d3 : _ = _ := hD 3 rfl
   have d4 : _ = _ := hD 4 rfl
   clear hD hI
   generalize xs 3 = y3 at *
   generalize xs 4 = y4 at *
   subst d3 d4
   go_wp2
   exact hK.out _ _ ⟨by rw [← i1.out], hG, fun _ _ _ _ _ _ h => h⟩
  case o6 =>
   have l22 : Lx 22 = false := hb 22 rfl
   have l25 : Lx 25 = false := hb 25 rfl
   clear hl ha hb hD hI
   go_wp2
   exact hK.out _ _ ⟨rfl, hG, fun _ _ _ _ _ _ h => h⟩
  case o7 =>
   have l22 : Lx 22 = false := hb 22 rfl
   have l25 : Lx 25 = false := hb 25 rfl
   clear hl ha hb hD hI
   go_wp2
   exact hK.out _ _ ⟨rfl, hG, fun _ _ _ _ _ _ h => h⟩
  case o8 =>
   have l22 : Lx 22 = false := hb 22 rfl
   have l25 : Lx 25 = false := hb 25 rfl
   clear hl ha hb
   have d6 : _ = _ := hD 6 rfl
   have d7 : _ = _ := hD 7 rfl
   clear hD hI
   generalize xs 6 = y6 at *
   generalize xs 7 = y7 at *
   subst d6 d7
   go_wp2
   exact hK.out _ _ ⟨rfl, hG, fun _ _ _ _ _ _ h => h⟩
  case o9 =>
   have l22 : Lx 22 = false := hb 22 rfl
   have l25 : Lx 25 = false := hb 25 rfl
   clear hl ha hb hD hI
   go_wp2
   exact hK.out _ _ ⟨rfl, hG, fun _ _ _ _ _ _ h => h⟩
  case o10 =>
   have l22 : Lx 22 = false := hb 22 rfl
   have l25 : Lx 25 = false := hb 25 rfl
   clear hl ha hb
   have d8 : _ = _ := hD 8 rfl
   have d9 : _ = _ := hD 9 rfl
   clear hD hI
   generalize xs 8 = y8 at *
   generalize xs 9 = y9 at *
   subst d8 d9
   go_wp2
   exact hK.out _ _ ⟨rfl, hG, fun _ _ _ _ _ _ h => h⟩
  case o11 =>
   have l22 : Lx 22 = false := hb 22 rfl
   have l25 : Lx 25 = false := hb 25 rfl
   clear hl ha hb hD hI
   go_wp2
   exact hK.out _ _ ⟨rfl, hG, fun _ _ _ _ _ _ h => h⟩
  case o12 =>
   have l22 : Lx 22 = false := hb 22 rfl
   have l25 : Lx 25 = false := hb 25 rfl
   clear hl ha hb
   have d10 : _ = _ := hD 10 rfl
   have d11 : _ = _ := hD 11 rfl
   clear hD hI
   generalize xs 10 = y10 at *
   generalize xs 11 = y11 at *
   subst d10 d11
   go_wp2
   exact hK.out _ _ ⟨rfl, hG, fun _ _ _ _ _ _ h => h⟩
  case o15 =>
   have l25 : Lx 25 = false := hb 25 rfl
   clear hl ha hb
   have d13 : _ = _ := hD 13 rfl
   have d14 : _ = _ := hD 14 rfl
   clear hD hI
   generalize xs 13 = y13 at *
   generalize xs 14 = y14 at *
   subst d13 d14
   go_wp2
   exact hK.out _ _ ⟨rfl, hG, fun _ _ _ _ _ _ h => h⟩
  case o17 =>
   have l25 : Lx 25 = false := hb 25 rfl
   clear hl ha hb
   have d15 : _ = _ := hD 15 rfl
   have d16 : _ = _ := hD 16 rfl
   clear hD hI
   generalize xs 15 = y15 at *
   generalize xs 16 = y16 at *
   subst d15 d16
   go_wp2
   exact hK.out _ _ ⟨rfl, hG, fun _ _ _ _ _ _ h => h⟩
  case o19 =>
   have l25 : Lx 25 = false := hb 25 rfl
   clear hl ha hb
   have d17 : _ = _ := hD 17 rfl
   have d18 : _ = _ := hD 18 rfl
   clear hD hI
   generalize xs 17 = y17 at *
   generalize xs 18 = y18 at *
   subst d17 d18
   go_wp2
   exact hK.out _ _ ⟨rfl, hG, fun _ _ _ _ _ _ h => h⟩
  case o20 =>
   have l22 : Lx 22 = false := hb 22 rfl
   have l25 : Lx 25 = false := hb 25 rfl
   clear hl ha hb
   have d0 : _ = _ := hD 0 rfl
   clear hD hI
   generalize xs 0 = y0 at *
   subst d0
   go_wp2
   exact hK.out _ _ ⟨rfl, hG, fun _ _ _ _ _ _ h => h⟩
  case o21 =>
   have l22 : Lx 22 = false := hb 22 rfl
   have l25 : Lx 25 = false := hb 25 rfl
   clear hl ha hb
   have d1 : _ = _ := hD 1 rfl
   have d20 : _ = _ := hD 20 rfl
   clear hD hI
   generalize xs 1 = y1 at *
   generalize xs 20 = y20 at *
   subst d1 d20
   go_wp2
   exact hK.out _ _ ⟨rfl, hG, fun _ _ _ _ _ _ h => h⟩
  case o22 =>
   have l22 : Lx 22 = false := hl
   have l25 : Lx 25 = false := hb 25 rfl
   clear hl ha hb
   have d12 : _ = _ := hD 12 rfl
   have d21 : _ = _ := hD 21 rfl
   clear hD hI
   generalize xs 12 = y12 at *
   generalize xs 21 = y21 at *
   subst d12 d21
   have cx := hG.1.cell (i := A0) (by rw [stY_len]; rw [Hl.out]; assumption)
   have fx := hG.1.frozen A0
   rw [l22] at hG
   have hG2 := hG.1.set A0 (v0 + v1 + v2 + v3)
   rw [stY_one _ _ _ _ _ _ n1] at hG2
   have hG3 := grownBy_trans hG.2 (gr_set _ b A0 (.int .i64 (v0 + v1 + v2 + v3)))
   go_wp2
   exact hQo undef _ (hK.out _ _ ⟨trivial, ⟨hG2, hG3⟩, fun _ _ _ _ _ _ h => h⟩)
  case o23 =>
   have l25 : Lx 25 = false := hb 25 rfl
   clear hl ha hb
   have d2 : _ = _ := hD 2 rfl
   clear hD hI
   generalize xs 2 = y2 at *
   subst d2
   go_wp2
   exact hK.out _ _ ⟨rfl, hG, fun _ _ _ _ _ _ h => h⟩
  case o24 =>
   have l22 : Lx 22 = true := ha 22 rfl
   have l25 : Lx 25 = false := hb 25 rfl
   clear hl ha hb
   have d5 : _ = _ := hD 5 rfl
   have d23 : _ = _ := hD 23 rfl
   clear hD hI
   generalize xs 5 = y5 at *
   generalize xs 23 = y23 at *
   subst d5 d23
   go_wp2
   exact hK.out _ _ ⟨rfl, hG, fun _ _ _ _ _ _ h => h⟩
  case o25 =>
   have l22 : Lx 22 = true := ha 22 rfl
   have l25 : Lx 25 = false := hl
   clear hl ha hb
   have d19 : _ = _ := hD 19 rfl
   have d24 : _ = _ := hD 24 rfl
   clear hD hI
   generalize xs 19 = y19 at *
   generalize xs 24 = y24 at *
   subst d19 d24
   have cx := hG.1.cell (i := A1) (by rw [stY_len]; rw [Hl.out]; assumption)
   have fx := hG.1.frozen A1
   rw [l25] at hG
   have hG2 := hG.1.set A1 (v0 + v1 - v2 - v3)
   rw [stY_two] at hG2
   have hG3 := grownBy_trans hG.2 (gr_set _ b A1 (.int .i64 (v0 + v1 - v2 - v3)))
   go_wp2
   exact hQo undef _ (hK.out _ _ ⟨trivial, ⟨hG2, hG3⟩, fun _ _ _ _ _ _ h => h⟩)
  all_goals
   have l25 : Lx 25 = false := hb 25 rfl
   clear hl ha hb hD hI
   go_wp2
   exact hK.out _ _ ⟨rfl, hG, fun _ _ _ _ _ _ h => h⟩
 intro xs wx hV hG0
 obtain ⟨Lx, hL, hG⟩ := hG0
 have l22 : Lx 22 = true := hL 22 (by decide)
 have l25 : Lx 25 = true := hL 25 (by decide)
 clear hL hV
 simp only [patchS, Nat.reduceAdd, Nat.reduceEqDiff, ↓reduceIte]
 generalize xs 0 = y0 at *
 generalize xs 1 = y1 at *
 generalize xs 2 = y2 at *
 generalize xs 3 = y3 at *
 generalize xs 4 = y4 at *
 generalize xs 5 = y5 at *
 generalize xs 6 = y6 at *
 generalize xs 7 = y7 at *
 generalize xs 8 = y8 at *
 generalize xs 9 = y9 at *
 generalize xs 10 = y10 at *
 generalize xs 11 = y11 at *
 generalize xs 12 = y12 at *
 generalize xs 13 = y13 at *
 generalize xs 14 = y14 at *
 generalize xs 15 = y15 at *
 generalize xs 16 = y16 at *
 generalize xs 17 = y17 at *
 generalize xs 18 = y18 at *
 generalize xs 19 = y19 at *
 generalize xs 20 = y20 at *
 generalize xs 21 = y21 at *
 generalize xs 22 = y22 at *
 generalize xs 23 = y23 at *
 generalize xs 24 = y24 at *
 generalize xs 25 = y25 at *
 replace hG : IB wx b 29 (stY (zs) A0 (v0 + v1 + v2 + v3) A1 (v0 + v1 - v2 - v3) (Lx 22) (Lx 25)) ∧ w.grownBy wx (some b) := hG
 rw [l22, l25] at hG
 have G2 := hG
 clear hG G1
 have e2 : stY zs A0 (v0 + v1 + v2 + v3) A1 (v0 + v1 - v2 - v3) true true = (zs.set A0 (v0 + v1 + v2 + v3)).set A1 (v0 + v1 - v2 - v3) := rfl
 rw [e2] at G2
 clear e2
 generalize wx = wb at *
 go_wp2_with fail
 refine wp_region_invL (by kernel_rfl) [(62, 0), (63, 1), (64, 2), (65, 3), (66, 4), (67, 5), (68, 6), (69, 7), (70, 8), (71, 9), (72, 10), (73, 11), (74, 12), (75, 13), (76, 14), (77, 15), (78, 16), (79, 17), (80, 18), (81, 19), (82, 20), (83, 21), (84, 22), (85, 23), (86, 24), (87, 25), (88, 27), (89, 28)] [[], [], [], [2], [1, 2, 3], [], [], [], [7], [6, 7, 8], [], [], [10, 11], [], [10, 11, 12, 13], [], [10, 11, 12, 13, 14, 15], [], [], [17, 18], [], [17, 18, 19, 20], [], [17, 18, 19, 20, 21, 22], [0], [0, 1, 2, 3, 4, 10, 11, 12, 13, 14, 15, 16, 24], [0, 1, 2, 3, 4, 10, 11, 12, 13, 14, 15, 16, 24, 25], [5], [0, 1, 2, 3, 4, 5, 6, 7, 8, 9, 10, 11, 12, 13, 14, 15, 16, 17, 18, 19, 20, 21, 22, 23, 24, 25, 26, 27], [0, 1, 2, 3, 4, 5, 6, 7, 8, 9, 10, 11, 12, 13, 14, 15, 16, 17, 18, 19, 20, 21, 22, 23, 24, 25, 26, 27, 28]] (fun i own ys wx => match i with | 0 => own = .pointer (some ⟨b, 0, none⟩) | 1 => own = .int .i64 (A0 : Nat) | 2 => own = .int .i64 (st : Nat) | 3 => own = .int .i64 (2 * (st : Int)) | 4 => own = .int .i64 ((A2 : Nat)) | 5 => own = .pointer (some ⟨b, 0, none⟩) | 6 => own = .int .i64 (A0 : Nat) | 7 => own = .int .i64 (st : Nat) | 8 => own = .int .i64 (3 * (st : Int)) | 9 => own = .int .i64 ((A3 : Nat)) | 10 => own = .int .i64 (v0) | 11 => own = .int .i64 (v1) | 12 => own = .int .i64 (v0 - v1) | 13 => own = .int .i64 (v2) | 14 => own = .int .i64 (v0 - v1 - v2) | 15 => own = .int .i64 (v3) | 16 => own = .int .i64 (v0 - v1 - v2 + v3) | 17 => own = .int .i64 (v0) | 18 => own = .int .i64 (v1) | 19 => own = .int .i64 (v0 - v1) | 20 => own = .int .i64 (v2) | 21 => own = .int .i64 (v0 - v1 + v2) | 22 => own = .int .i64 (v3) | 23 => own = .int .i64 (v0 - v1 + v2 - v3) | 24 => own = .pointer (some ⟨b, 0, none⟩) | 25 => own = .pointer (some ⟨b, A2, none⟩) | 26 => True | 27 => own = .pointer (some ⟨b, 0, none⟩) | 28 => own = .pointer (some ⟨b, A3, none⟩) | 29 => True | _ => True) (fun Lx wx => IB wx b 29 (stY ((zs.set A0 (v0 + v1 + v2 + v3)).set A1 (v0 + v1 - v2 - v3)) A2 (v0 - v1 - v2 + v3) A3 (v0 - v1 + v2 - v3) (Lx 26) (Lx 29)) ∧ w.grownBy wx (some b)) (by kernel_rfl) (by kernel_rfl) (by kernel_rfl) ?g0_r3 ?gop_r3 ?gend_r3
 case g0_r3 => exact ⟨G2.1.drewN 1, gr_drew G2.2⟩
 case gop_r3 =>
  refine ⟨?_, ?_, ?_, ?o3, ?o4, ?o5, ?o6, ?o7, ?o8, ?o9, ?_, ?_, ?o12, ?_, ?o14, ?_, ?o16, ?o17, ?o18, ?o19, ?o20, ?o21, ?o22, ?o23, ?o24, ?o25, ?o26, ?o27, ?o28, ?o29, trivial⟩ <;> (intro Lx xs wx hG hl ha hb hD hI Qo Kx hK hQo; simp only [patchS, Nat.reduceAdd, Nat.reduceEqDiff, ↓reduceIte] at hQo ⊢)
  case o3 =>
   have l26 : Lx 26 = false := hb 26 rfl
   have l29 : Lx 29 = false := hb 29 rfl
   clear hl ha hb
   have d2 : _ = _ := hD 2 rfl
   clear hD hI
   generalize xs 2 = y2 at *
   subst d2
   go_wp2
   exact hK.out _ _ ⟨rfl, hG, fun _ _ _ _ _ _ h => h⟩
  case o4 =>
   have l26 : Lx 26 = false := hb 26 rfl
   have l29 : Lx 29 = false := hb 29 rfl
   clear hl ha hb
   have d1 : _ = _ := hD 1 rfl
   have d3 : _ = _ := hD 3 rfl
   clear hD hI
   generalize xs 1 = y1 at *
   generalize xs 3 = y3 at *
   subst d1 d3
   go_wp2
   exact hK.out _ _ ⟨by rw [← i2.out], hG, fun _ _ _ _ _ _ h => h⟩
  case o5 =>
   have l29 : Lx 29 = false := hb 29 rfl
   clear hl ha hb hD hI
   go_wp2
   exact hK.out _ _ ⟨rfl, hG, fun _ _ _ _ _ _ h => h⟩
  case o6 =>
   have l29 : Lx 29 = false := hb 29 rfl
   clear hl ha hb hD hI
   go_wp2
   exact hK.out _ _ ⟨rfl, hG, fun _ _ _ _ _ _ h => h⟩
  case o7 =>
   have l29 : Lx 29 = false := hb 29 rfl
   clear hl ha hb hD hI
   go_wp2
   exact hK.out _ _ ⟨rfl, hG, fun _ _ _ _ _ _ h => h⟩
  case o8 =>
   have l29 : Lx 29 = false := hb 29 rfl
   clear hl ha hb
   have d7 : _ = _ := hD 7 rfl
   clear hD hI
   generalize xs 7 = y7 at *
   subst d7
   go_wp2
   exact hK.out _ _ ⟨rfl, hG, fun _ _ _ _ _ _ h => h⟩
  case o9 =>
   have l29 : Lx 29 = false := hb 29 rfl
   clear hl ha hb
   have d6 : _ = _ := hD 6 rfl
   have d8 : _ = _ := hD 8 rfl
   clear hD hI
   generalize xs 6 = y6 at *
   generalize xs 8 = y8 at *
   subst d6 d8
   go_wp2
   exact hK.out _ _ ⟨by rw [← i3.out], hG, fun _ _ _ _ _ _ h => h⟩
  case o12 =>
   have l26 : Lx 26 = false := hb 26 rfl
   have l29 : Lx 29 = false := hb 29 rfl
   clear hl ha hb
   have d10 : _ = _ := hD 10 rfl
   have d11 : _ = _ := hD 11 rfl
   clear hD hI
   generalize xs 10 = y10 at *
   generalize xs 11 = y11 at *
   subst d10 d11
   go_wp2
   exact hK.out _ _ ⟨rfl, hG, fun _ _ _ _ _ _ h => h⟩
  case o14 =>
   have l26 : Lx 26 = false := hb 26 rfl
   have l29 : Lx 29 = false := hb 29 rfl
   clear hl ha hb
   have d12 : _ = _ := hD 12 rfl
   have d13 : _ = _ := hD 13 rfl
   clear hD hI
   generalize xs 12 = y12 at *
   generalize xs 13 = y13 at *
   subst d12 d13
   go_wp2
   exact hK.out _ _ ⟨rfl, hG, fun _ _ _ _ _ _ h => h⟩
  case o16 =>
   have l26 : Lx 26 = false := hb 26 rfl
   have l29 : Lx 29 = false := hb 29 rfl
   clear hl ha hb
   have d14 : _ = _ := hD 14 rfl
   have d15 : _ = _ := hD 15 rfl
   clear hD hI
   generalize xs 14 = y14 at *
   generalize xs 15 = y15 at *
   subst d14 d15
   go_wp2
   exact hK.out _ _ ⟨rfl, hG, fun _ _ _ _ _ _ h => h⟩
  case o17 =>
   have l29 : Lx 29 = false := hb 29 rfl
   clear hl ha hb hD hI
   go_wp2
   exact hK.out _ _ ⟨rfl, hG, fun _ _ _ _ _ _ h => h⟩
  case o18 =>
   have l29 : Lx 29 = false := hb 29 rfl
   clear hl ha hb hD hI
   go_wp2
   exact hK.out _ _ ⟨rfl, hG, fun _ _ _ _ _ _ h => h⟩
  case o19 =>
   have l29 : Lx 29 = false := hb 29 rfl
   clear hl ha hb
   have d17 : _ = _ := hD 17 rfl
   have d18 : _ = _ := hD 18 rfl
   clear hD hI
   generalize xs 17 = y17 at *
   generalize xs 18 = y18 at *
   subst d17 d18
   go_wp2
   exact hK.out _ _ ⟨rfl, hG, fun _ _ _ _ _ _ h => h⟩
  case o20 =>
   have l29 : Lx 29 = false := hb 29 rfl
   clear hl ha hb hD hI
   go_wp2
   exact hK.out _ _ ⟨rfl, hG, fun _ _ _ _ _ _ h => h⟩
  case o21 =>
   have l29 : Lx 29 = false := hb 29 rfl
   clear hl ha hb
   have d19 : _ = _ := hD 19 rfl
   have d20 : _ = _ := hD 20 rfl
   clear hD hI
   generalize xs 19 = y19 at *
   generalize xs 20 = y20 at *
   subst d19 d20
   go_wp2
   exact hK.out _ _ ⟨rfl, hG, fun _ _ _ _ _ _ h => h⟩
  case o22 =>
   have l29 : Lx 29 = false := hb 29 rfl
   clear hl ha hb hD hI
   go_wp2
   exact hK.out _ _ ⟨rfl, hG, fun _ _ _ _ _ _ h => h⟩
  case o23 =>
   have l29 : Lx 29 = false := hb 29 rfl
   clear hl ha hb
   have d21 : _ = _ := hD 21 rfl
   have d22 : _ = _ := hD 22 rfl
   clear hD hI
   generalize xs 21 = y21 at *
   generalize xs 22 = y22 at *
   subst d21 d22
   go_wp2
   exact hK.out _ _ ⟨rfl, hG, fun _ _ _ _ _ _ h => h⟩
  case o24 =>
   have l26 : Lx 26 = false := hb 26 rfl
   have l29 : Lx 29 = false := hb 29 rfl
   clear hl ha hb
   have d0 : _ = _ := hD 0 rfl
   clear hD hI
   generalize xs 0 = y0 at *
   subst d0
   go_wp2
   exact hK.out _ _ ⟨rfl, hG, fun _ _ _ _ _ _ h => h⟩
  case o25 =>
   have l26 : Lx 26 = false := hb 26 rfl
   have l29 : Lx 29 = false := hb 29 rfl
   clear hl ha hb
   have d4 : _ = _ := hD 4 rfl
   have d24 : _ = _ := hD 24 rfl
   clear hD hI
   generalize xs 4 = y4 at *
   generalize xs 24 = y24 at *
   subst d4 d24
   go_wp2
   exact hK.out _ _ ⟨rfl, hG, fun _ _ _ _ _ _ h => h⟩
  case o26 =>
   have l26 : Lx 26 = false := hl
   have l29 : Lx 29 = false := hb 29 rfl
   clear hl ha hb
   have d16 : _ = _ := hD 16 rfl
   have d25 : _ = _ := hD 25 rfl
   clear hD hI
   generalize xs 16 = y16 at *
   generalize xs 25 = y25 at *
   subst d16 d25
   have cx := hG.1.cell (i := A2) (by rw [stY_len]; simp only [List.length_set]; rw [Hl.out]; assumption)
   have fx := hG.1.frozen A2
   rw [l26] at hG
   have hG2 := hG.1.set A2 (v0 - v1 - v2 + v3)
   rw [stY_one _ _ _ _ _ _ n2] at hG2
   have hG3 := grownBy_trans hG.2 (gr_set _ b A2 (.int .i64 (v0 - v1 - v2 + v3)))
   go_wp2
   exact hQo undef _ (hK.out _ _ ⟨trivial, ⟨hG2, hG3⟩, fun _ _ _ _ _ _ h => h⟩)
  case o27 =>
   have l29 : Lx 29 = false := hb 29 rfl
   clear hl ha hb
   have d5 : _ = _ := hD 5 rfl
   clear hD hI
   generalize xs 5 = y5 at *
   subst d5
   go_wp2
   exact hK.out _ _ ⟨rfl, hG, fun _ _ _ _ _ _ h => h⟩
  case o28 =>
   have l26 : Lx 26 = true := ha 26 rfl
   have l29 : Lx 29 = false := hb 29 rfl
   clear hl ha hb
   have d9 : _ = _ := hD 9 rfl
   have d27 : _ = _ := hD 27 rfl
   clear hD hI
   generalize xs 9 = y9 at *
   generalize xs 27 = y27 at *
   subst d9 d27
   go_wp2
   exact hK.out _ _ ⟨rfl, hG, fun _ _ _ _ _ _ h => h⟩
  case o29 =>
   have l26 : Lx 26 = true := ha 26 rfl
   have l29 : Lx 29 = false := hl
   clear hl ha hb
   have d23 : _ = _ := hD 23 rfl
   have d28 : _ = _ := hD 28 rfl
   clear hD hI
   generalize xs 23 = y23 at *
   generalize xs 28 = y28 at *
   subst d23 d28
   have cx := hG.1.cell (i := A3) (by rw [stY_len]; simp only [List.length_set]; rw [Hl.out]; assumption)
   have fx := hG.1.frozen A3
   rw [l29] at hG
   have hG2 := hG.1.set A3 (v0 - v1 + v2 - v3)
   rw [stY_two] at hG2
   have hG3 := grownBy_trans hG.2 (gr_set _ b A3 (.int .i64 (v0 - v1 + v2 - v3)))
   go_wp2
   exact hQo undef _ (hK.out _ _ ⟨trivial, ⟨hG2, hG3⟩, fun _ _ _ _ _ _ h => h⟩)
  all_goals
   have l26 : Lx 26 = false := hb 26 rfl
   have l29 : Lx 29 = false := hb 29 rfl
   clear hl ha hb hD hI
   go_wp2
   exact hK.out _ _ ⟨rfl, hG, fun _ _ _ _ _ _ h => h⟩
 intro xs wx hV hG0
 obtain ⟨Lx, hL, hG⟩ := hG0
 have l26 : Lx 26 = true := hL 26 (by decide)
 have l29 : Lx 29 = true := hL 29 (by decide)
 clear hL hV
 simp only [patchS, Nat.reduceAdd, Nat.reduceEqDiff, ↓reduceIte]
 generalize xs 0 = y0 at *
 generalize xs 1 = y1 at *
 generalize xs 2 = y2 at *
 generalize xs 3 = y3 at *
 generalize xs 4 = y4 at *
 generalize xs 5 = y5 at *
 generalize xs 6 = y6 at *
 generalize xs 7 = y7 at *
 generalize xs 8 = y8 at *
 generalize xs 9 = y9 at *
 generalize xs 10 = y10 at *
 generalize xs 11 = y11 at *
 generalize xs 12 = y12 at *
 generalize xs 13 = y13 at *
 generalize xs 14 = y14 at *
 generalize xs 15 = y15 at *
 generalize xs 16 = y16 at *
 generalize xs 17 = y17 at *
 generalize xs 18 = y18 at *
 generalize xs 19 = y19 at *
 generalize xs 20 = y20 at *
 generalize xs 21 = y21 at *
 generalize xs 22 = y22 at *
 generalize xs 23 = y23 at *
 generalize xs 24 = y24 at *
 generalize xs 25 = y25 at *
 generalize xs 26 = y26 at *
 generalize xs 27 = y27 at *
 generalize xs 28 = y28 at *
 generalize xs 29 = y29 at *
 replace hG : IB wx b 29 (stY ((zs.set A0 (v0 + v1 + v2 + v3)).set A1 (v0 + v1 - v2 - v3)) A2 (v0 - v1 - v2 + v3) A3 (v0 - v1 + v2 - v3) (Lx 26) (Lx 29)) ∧ w.grownBy wx (some b) := hG
 rw [l26, l29] at hG
 have e3 : stY ((zs.set A0 (v0 + v1 + v2 + v3)).set A1 (v0 + v1 - v2 - v3)) A2 (v0 - v1 - v2 + v3) A3 (v0 - v1 + v2 - v3) true true = bfS zs A0 st := HB.out.symm
 rw [e3] at hG
 have HG := Lib.hid hG
 clear hG G2 e3
 go_wp2
 go_end0
 exact ⟨rfl, HG.out.1, HG.out.2⟩
end Go.Proofs.YtbnhaegidfbgbaaGreatDoor
namespace Go.Proofs.YtbnhaegidfbgbaaGreatDoor
open Go.RowKit
set_option maxHeartbeats 1000000
set_option maxRecDepth 100000 in
theorem hadamard_any (zs : List Int) (w : World) (hl : zs.length = 16) (hb : bdA 1048576 zs) :
 Calls Tryz.prog 114 #[.agg (ic zs)] w fun e w' => e = .returned (.agg (ic (had zs))) ∧ Ext w w' := by
 have bR := bfR_bd hb
 have bC := bfC_bd (bR 4 (by omega))
 have hC : (bfC (bfR zs 4) 4).length = 16 := by rw [bfC_len, bfR_len, hl]
 have HC := Lib.hid hC
 have Hh := Lib.hid (bf_had hl)
 have Hl := Lib.hid hl
 have BR := Lib.hid bR
 have BC := Lib.hid bC
 clear hl hb bR bC hC
 have a2 := Ext.alloc (w.alloc (.cells (ic zs) 29)) (.cells (ic (List.replicate 16 0)) 29)
 have p0 := (IB.new w 29 zs).ext a2
 have p1 := IB.new (w.alloc (.cells (ic zs) 29)) 29 (List.replicate 16 0)
 have E1 := (Ext.alloc w (.cells (ic zs) 29)).trans a2
 simp only [World.size_alloc] at p1
 clear a2
 go_enter Tryz.func114, Tryz.ntmps114
 go_wp2_with fail
 go_loopw [5] (fun i wr => ∃ k : Nat, k ≤ 4 ∧ i = .int .i64 k ∧ Ext w wr ∧ IB wr w.heap.size 29 (bfR zs k) ∧ IB wr (w.heap.size + 1) 29 (List.replicate 16 0)) (fun i _ => 4 - (intOf i).toNat)
 case atStart => exact ⟨0, by omega, rfl, E1, p0, p1⟩
 case round =>
  obtain ⟨k, hk, rfl, E2, q0, q1⟩ := hrel
  clear p0 p1 E1
  by_cases hlt : k < 4
  ·have hd : decide ((k : Int) < 4) = true := by simp; omega
   have hbk := Lib.hid (bdA_mono (BR.out k hk) (show (268435456 : Int) ≤ 1099511627776 by omega))
   go_wp2_with fail
   have hcall := butterflies_any w.heap.size (4 * k) 1 (bfR zs k) wr q0 (by rw [bfR_len, Hl.out]) hbk.out (by omega) (by omega)
   rw [show ((4 * k : Nat) : Int) = 4 * (k : Int) by omega] at hcall
   refine hcall.mono ?_
   rintro e w3 ⟨rfl, i3, g3⟩
   clear hcall
   go_wp2
   go_roundw
   case rel => exact ⟨k + 1, by omega, by go_num, Ext.grown E2 g3 (fun q hq => by cases hq; omega), i3, q1.gr g3 (by simp)⟩
   case measure => simp [intOf]; omega
  ·have hk4 := Lib.hid (show k = 4 by omega)
   have hd : decide ((k : Int) < 4) = false := by simp; omega
   rw [hk4.out] at q0
   go_wp2_with fail
   go_loopw [12] (fun i wr => ∃ k : Nat, k ≤ 4 ∧ i = .int .i64 k ∧ Ext w wr ∧ IB wr w.heap.size 29 (bfC (bfR zs 4) k) ∧ IB wr (w.heap.size + 1) 29 (List.replicate 16 0)) (fun i _ => 4 - (intOf i).toNat)
   case atStart => exact ⟨0, by omega, rfl, E2, q0, q1⟩
   case round =>
    obtain ⟨k, hk, rfl, E3, r0, r1⟩ := hrel
    clear q0 q1 E2
    by_cases hlt : k < 4
    ·have hd : decide ((k : Int) < 4) = true := by simp; omega
     have hbk := Lib.hid (bdA_mono (BC.out k hk) (show (68719476736 : Int) ≤ 1099511627776 by omega))
     go_wp2_with fail
     have hcall := butterflies_any w.heap.size k 4 (bfC (bfR zs 4) k) wr r0 (by rw [bfC_len, bfR_len, Hl.out]) hbk.out (by omega) (by omega)
     refine hcall.mono ?_
     rintro e w3 ⟨rfl, i3, g3⟩
     clear hcall
     go_wp2
     go_roundw
     case rel => exact ⟨k + 1, by omega, by go_num, Ext.grown E3 g3 (fun q hq => by cases hq; omega), i3, r1.gr g3 (by simp)⟩
     case measure => simp [intOf]; omega
    ·obtain rfl : k = 4 := by omega
     go_wp2_with (first | (refine wpList_iload 29 _ rfl rfl r0 0 16 rfl _ Tryz.underlying29 rfl size_A16 (by rw [HC.out]; omega) _ (by rw [sub_all _ _ HC.out]) ?_) | (refine wpList_istore 29 _ _ rfl rfl r1 0 16 rfl _ rfl _ rfl size_A16 HC.out (by simp) ?_; intro w6 p6 g6; refine Hid.out ?_))
     rw [spl_all (by rw [HC.out]; simp)] at p6
     have E6 : Ext w w6 := Ext.grown E3 g6 (fun q hq => by cases hq; omega)
     refine Lib.hid ?_
     go_wp2
     exact bodyPost_ret (v := .agg (ic (had zs))) (results_cell_row rfl _ _ (w.heap.size + 1) 29 (ic (had zs)) (0, 0) _ rfl (by rw [← Hh.out]; exact p6) Tryz.underlying29 rfl (by rw [ic_size, had_len]; exact size_A16)) rfl ⟨rfl, E6⟩
end Go.Proofs.YtbnhaegidfbgbaaGreatDoor
