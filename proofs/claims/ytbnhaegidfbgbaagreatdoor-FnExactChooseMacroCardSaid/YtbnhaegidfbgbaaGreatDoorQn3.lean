/- Half samples, the samples that predict a macroblock: both sides. | The 64 samples that predict a macroblock: both sides. | Ranges over functions: entering and leaving a function that holds one. | A region whose operations may come in any order, the invariant told which of them have run; the same within a round of a range over a function. | Copies of macroblocks. -/
import Derived.Test.YtbnhaegidfbgbaaGreatDoorQn2
import Derived.RangeFuncNested
import Derived.RangeFuncBound
import Derived.RangeFuncCalls
import Derived.RangeFuncLeaves
import Derived.Shelf.Abstract
import Derived.Shelf.RegionOpen
import Derived.WalkKit
import Derived.OwnWalkIn
import Derived.TacticsInMore
import Derived.LoopNIn
import Derived.LoopIn
import Derived.OrdersIn
set_option linter.unusedVariables false
set_option linter.unusedSimpArgs false
namespace Go.Proofs.YtbnhaegidfbgbaaGreatDoor
open Go.RowKit
set_option maxHeartbeats 1000000
theorem tm_even {x : Int} (h : x % 2 = 0) : (x.tmod 2 == 0) = true := by simp [Int.tmod_eq_zero_of_dvd (Int.dvd_of_emod_eq_zero h)]
theorem tm_odd {x : Int} (h : ¬ x % 2 = 0) : (x.tmod 2 == 0) = false := by
 simp only [beq_eq_false_iff_ne, ne_eq]
 intro h2
 exact h (Int.emod_eq_zero_of_dvd (Int.dvd_of_tmod_eq_zero h2))
theorem half_ee {p : Pic} {x y : Int} (hx : x % 2 = 0) (hy : y % 2 = 0) : hlf p x y = pat p (x / 2) (y / 2) := by unfold hlf; rw [if_pos hy, if_pos hx]
theorem half_oe {p : Pic} {x y : Int} (hx : ¬ x % 2 = 0) (hy : y % 2 = 0) : hlf p x y = (pat p (x / 2) (y / 2) + pat p (x / 2 + 1) (y / 2) + 1) / 2 := by unfold hlf; rw [if_pos hy, if_neg hx]
theorem half_eo {p : Pic} {x y : Int} (hx : x % 2 = 0) (hy : ¬ y % 2 = 0) : hlf p x y = (pat p (x / 2) (y / 2) + pat p (x / 2) (y / 2 + 1) + 1) / 2 := by unfold hlf; rw [if_neg hy, if_pos hx]
theorem half_oo {p : Pic} {x y : Int} (hx : ¬ x % 2 = 0) (hy : ¬ y % 2 = 0) : hlf p x y = (pat p (x / 2) (y / 2) + pat p (x / 2 + 1) (y / 2) + pat p (x / 2) (y / 2 + 1) + pat p (x / 2 + 1) (y / 2 + 1) + 2) / 4 := by unfold hlf; rw [if_neg hy, if_neg hx]
set_option maxRecDepth 100000 in
theorem half_at_ee (p : Pic) (x y : Int) (a : Option Addr) (c n : Nat) (w : World) (hv : p.valid) (hn : n = p.px.length) (r : Sl w a n (p.px.map (Value.int .i64)))
 (x1 : -2000 ≤ x) (x2 : x ≤ 2000) (y1 : -2000 ≤ y) (y2 : y ≤ 2000) (hx : x % 2 = 0) (hy : y % 2 = 0) :
 Calls Tryz.prog 104 #[.agg #[.int .i64 p.w, .int .i64 p.h, .slice a n c], .int .i64 x, .int .i64 y] w fun e w' => e = .returned (.int .i64 (hlf p x y)) ∧ Ext w w' := by
 have hh := half_ee (p := p) hx hy
 have dx : (x / 2 == (x + 1) / 2) = true := by simp; omega
 have dy : (y / 2 == (y + 1) / 2) = true := by simp; omega
 have HH := Lib.hid hh
 clear hx hy hh
 have p0 := blk_new w (.cells #[.int .i64 p.w, .int .i64 p.h, .slice a n c] 25)
 have E0 := Ext.alloc w (.cells #[.int .i64 p.w, .int .i64 p.h, .slice a n c] 25)
 obtain ⟨B, hB⟩ : ∃ B, B = w.heap.size := ⟨_, rfl⟩
 rw [← hB] at p0
 have HB := Lib.hid hB
 have HN := Lib.hid hn
 have HV := Lib.hid hv
 clear hn hv
 obtain ⟨-, k0, k1, k2, -⟩ := bx3 p0
 go_enter Tryz.func104, Tryz.ntmps104
 go_wp2_with fail
 rw [← hB]
 clear hB
 generalize w.alloc (.cells #[.int .i64 p.w, .int .i64 p.h, .slice a n c] 25) = w0 at *
 refine (at_any p (x / 2) (y / 2) a c n _ HV.out HN.out (r.ext E0)).mono ?_
 rintro e w2 ⟨rfl, e2⟩
 go_wp2
 go_ret
 exact ⟨(ret_intH HH).symm, E0.trans e2⟩
set_option maxRecDepth 100000 in
theorem half_at_oe (p : Pic) (x y : Int) (a : Option Addr) (c n : Nat) (w : World) (hv : p.valid) (hn : n = p.px.length) (r : Sl w a n (p.px.map (Value.int .i64)))
 (x1 : -2000 ≤ x) (x2 : x ≤ 2000) (y1 : -2000 ≤ y) (y2 : y ≤ 2000) (hx : ¬ x % 2 = 0) (hy : y % 2 = 0) :
 Calls Tryz.prog 104 #[.agg #[.int .i64 p.w, .int .i64 p.h, .slice a n c], .int .i64 x, .int .i64 y] w fun e w' => e = .returned (.int .i64 (hlf p x y)) ∧ Ext w w' := by
 have hh := half_oe (p := p) hx hy
 have dx : (x / 2 == (x + 1) / 2) = false := by simp; omega
 have dy : (y / 2 == (y + 1) / 2) = true := by simp; omega
 rw [show x / 2 + 1 = (x + 1) / 2 by omega] at hh
 have HH := Lib.hid hh
 clear hx hy hh
 have p0 := blk_new w (.cells #[.int .i64 p.w, .int .i64 p.h, .slice a n c] 25)
 have E0 := Ext.alloc w (.cells #[.int .i64 p.w, .int .i64 p.h, .slice a n c] 25)
 obtain ⟨B, hB⟩ : ∃ B, B = w.heap.size := ⟨_, rfl⟩
 rw [← hB] at p0
 have HB := Lib.hid hB
 have HN := Lib.hid hn
 have HV := Lib.hid hv
 clear hn hv
 obtain ⟨s0, hs0⟩ : ∃ s0, s0 = pat p (x / 2) (y / 2) := ⟨_, rfl⟩
 have b0 := pat_rng HV.out (x / 2) (y / 2)
 rw [← hs0] at b0
 have H0 := Lib.hid hs0
 clear hs0
 obtain ⟨s1, hs1⟩ : ∃ s1, s1 = pat p ((x + 1) / 2) (y / 2) := ⟨_, rfl⟩
 have b1 := pat_rng HV.out ((x + 1) / 2) (y / 2)
 rw [← hs1] at b1
 have H1 := Lib.hid hs1
 clear hs1
 rw [← H0.out, ← H1.out] at HH
 go_enter Tryz.func104, Tryz.ntmps104
 go_wp2_with fail
 rw [← hB]
 clear hB
 generalize w.alloc (.cells #[.int .i64 p.w, .int .i64 p.h, .slice a n c] 25) = w0 at *
 refine wp_region_inv2 (by kernel_rfl) [(6, 11), (38, 0), (39, 1), (40, 2), (41, 3), (42, 4), (43, 5), (44, 6), (45, 7), (46, 8), (47, 9), (48, 10)] [[], [], [], [0, 1, 2], [], [], [], [0, 1, 2, 3, 4, 5, 6], [0, 1, 2, 3, 4, 5, 6, 7], [0, 1, 2, 3, 4, 5, 6, 7, 8], [0, 1, 2, 3, 4, 5, 6, 7, 8, 9], [0, 1, 2, 3, 4, 5, 6, 7, 8, 9, 10]] (fun i own ys wx => match i with | 0 => own = .agg #[.int .i64 p.w, .int .i64 p.h, .slice a n c] | 1 => own = .int .i64 (x / 2) | 2 => own = .int .i64 (y / 2) | 3 => own = .int .i64 s0 | 4 => own = .agg #[.int .i64 p.w, .int .i64 p.h, .slice a n c] | 5 => own = .int .i64 ((x + 1) / 2) | 6 => own = .int .i64 (y / 2) | 7 => own = .int .i64 s1 | 8 => own = .int .i64 (s0 + s1) | 9 => own = .int .i64 (s0 + s1 + 1) | 10 => own = .int .i64 ((s0 + s1 + 1) / 2) | 11 => own = .int .i64 ((s0 + s1 + 1) / 2) | _ => True) (fun kx wx => Ext w0 wx) (by kernel_rfl) (by kernel_rfl) (by kernel_rfl) ?g0_r1 ?gop_r1 ?gend_r1
 case g0_r1 => exact Ext.drewN _ 1
 case gop_r1 =>
  refine ⟨?o0, ?_, ?_, ?o3, ?o4, ?_, ?_, ?o7, ?o8, ?o9, ?o10, ?o11, trivial⟩ <;> (intro kx xs wx hk hG hD hI Qo Kx hK hQo; simp only [patchS, Nat.reduceAdd, Nat.reduceEqDiff, ↓reduceIte] at hQo ⊢)
  case o0 =>
   clear hD hI
   obtain ⟨-, k0, k1, k2, -⟩ := bx3 (hG.blk p0)
   go_wp2
   exact hK.out _ _ ⟨rfl, hG, fun _ _ _ _ _ _ h => h⟩
  case o3 =>
   have d0 : _ = _ := hD 0 rfl
   have d1 : _ = _ := hD 1 rfl
   have d2 : _ = _ := hD 2 rfl
   clear hD hI
   generalize xs 0 = y0 at *
   generalize xs 1 = y1 at *
   generalize xs 2 = y2 at *
   subst d0 d1 d2
   go_wp2_with fail
   refine (at_any p (x / 2) (y / 2) a c n _ HV.out HN.out (r.ext (E0.trans hG))).mono ?_
   rintro e w2 ⟨rfl, e2⟩
   rw [← H0.out]
   go_wp2
   exact hK.out _ _ ⟨rfl, hG.trans e2, fun _ _ _ _ _ _ h => h⟩
  case o4 =>
   clear hD hI
   obtain ⟨-, k0, k1, k2, -⟩ := bx3 (hG.blk p0)
   go_wp2
   exact hK.out _ _ ⟨rfl, hG, fun _ _ _ _ _ _ h => h⟩
  case o7 =>
   have d4 : _ = _ := hD 4 rfl
   have d5 : _ = _ := hD 5 rfl
   have d6 : _ = _ := hD 6 rfl
   clear hD hI
   generalize xs 4 = y4 at *
   generalize xs 5 = y5 at *
   generalize xs 6 = y6 at *
   subst d4 d5 d6
   go_wp2_with fail
   refine (at_any p ((x + 1) / 2) (y / 2) a c n _ HV.out HN.out (r.ext (E0.trans hG))).mono ?_
   rintro e w2 ⟨rfl, e2⟩
   rw [← H1.out]
   go_wp2
   exact hK.out _ _ ⟨rfl, hG.trans e2, fun _ _ _ _ _ _ h => h⟩
  case o8 =>
   have d3 : _ = _ := hD 3 rfl
   have d7 : _ = _ := hD 7 rfl
   clear hD hI
   generalize xs 3 = y3 at *
   generalize xs 7 = y7 at *
   subst d3 d7
   go_wp2
   exact hK.out _ _ ⟨rfl, hG, fun _ _ _ _ _ _ h => h⟩
  case o9 =>
   have d8 : _ = _ := hD 8 rfl
   clear hD hI
   generalize xs 8 = y8 at *
   subst d8
   go_wp2
   exact hK.out _ _ ⟨rfl, hG, fun _ _ _ _ _ _ h => h⟩
  case o10 =>
   have d9 : _ = _ := hD 9 rfl
   clear hD hI
   generalize xs 9 = y9 at *
   subst d9
   go_wp2
   exact hK.out _ _ ⟨rfl, hG, fun _ _ _ _ _ _ h => h⟩
  case o11 =>
   have d10 : _ = _ := hD 10 rfl
   clear hD hI
   generalize xs 10 = y10 at *
   subst d10
   go_wp2
   exact hK.out _ _ ⟨rfl, hG, fun _ _ _ _ _ _ h => h⟩
  all_goals
   clear hD hI
   go_wp2
   exact hK.out _ _ ⟨rfl, hG, fun _ _ _ _ _ _ h => h⟩
 intro xs wx hV hG
 have d11 : _ = _ := hV 11 (by decide)
 clear hV
 simp only [patchS, Nat.reduceAdd, Nat.reduceEqDiff, ↓reduceIte]
 generalize xs 0 = y0 at *
 generalize xs 1 = y1 at *
 generalize xs 2 = y2 at *
 generalize xs 3 = y3 at *
 generalize xs 4 = y4 at *
 generalize xs 5 = y5 at *
 generalize xs 6 = y6 at *
 generalize xs 7 = y7 at *
 generalize xs 8 = y8 at *
 generalize xs 9 = y9 at *
 generalize xs 10 = y10 at *
 generalize xs 11 = y11 at *
 replace hG : Ext w0 wx := hG
 subst d11
 go_wp2
 go_ret
 exact ⟨(ret_intH HH).symm, E0.trans hG⟩
set_option maxRecDepth 100000 in
theorem half_at_eo (p : Pic) (x y : Int) (a : Option Addr) (c n : Nat) (w : World) (hv : p.valid) (hn : n = p.px.length) (r : Sl w a n (p.px.map (Value.int .i64)))
 (x1 : -2000 ≤ x) (x2 : x ≤ 2000) (y1 : -2000 ≤ y) (y2 : y ≤ 2000) (hx : x % 2 = 0) (hy : ¬ y % 2 = 0) :
 Calls Tryz.prog 104 #[.agg #[.int .i64 p.w, .int .i64 p.h, .slice a n c], .int .i64 x, .int .i64 y] w fun e w' => e = .returned (.int .i64 (hlf p x y)) ∧ Ext w w' := by
 have hh := half_eo (p := p) hx hy
 have dx : (x / 2 == (x + 1) / 2) = true := by simp; omega
 have dy : (y / 2 == (y + 1) / 2) = false := by simp; omega
 rw [show y / 2 + 1 = (y + 1) / 2 by omega] at hh
 have HH := Lib.hid hh
 clear hx hy hh
 have p0 := blk_new w (.cells #[.int .i64 p.w, .int .i64 p.h, .slice a n c] 25)
 have E0 := Ext.alloc w (.cells #[.int .i64 p.w, .int .i64 p.h, .slice a n c] 25)
 obtain ⟨B, hB⟩ : ∃ B, B = w.heap.size := ⟨_, rfl⟩
 rw [← hB] at p0
 have HB := Lib.hid hB
 have HN := Lib.hid hn
 have HV := Lib.hid hv
 clear hn hv
 obtain ⟨s0, hs0⟩ : ∃ s0, s0 = pat p (x / 2) (y / 2) := ⟨_, rfl⟩
 have b0 := pat_rng HV.out (x / 2) (y / 2)
 rw [← hs0] at b0
 have H0 := Lib.hid hs0
 clear hs0
 obtain ⟨s1, hs1⟩ : ∃ s1, s1 = pat p (x / 2) ((y + 1) / 2) := ⟨_, rfl⟩
 have b1 := pat_rng HV.out (x / 2) ((y + 1) / 2)
 rw [← hs1] at b1
 have H1 := Lib.hid hs1
 clear hs1
 rw [← H0.out, ← H1.out] at HH
 go_enter Tryz.func104, Tryz.ntmps104
 go_wp2_with fail
 rw [← hB]
 clear hB
 generalize w.alloc (.cells #[.int .i64 p.w, .int .i64 p.h, .slice a n c] 25) = w0 at *
 refine wp_region_inv2 (by kernel_rfl) [(6, 11), (53, 0), (54, 1), (55, 2), (56, 3), (57, 4), (58, 5), (59, 6), (60, 7), (61, 8), (62, 9), (63, 10)] [[], [], [], [0, 1, 2], [], [], [], [0, 1, 2, 3, 4, 5, 6], [0, 1, 2, 3, 4, 5, 6, 7], [0, 1, 2, 3, 4, 5, 6, 7, 8], [0, 1, 2, 3, 4, 5, 6, 7, 8, 9], [0, 1, 2, 3, 4, 5, 6, 7, 8, 9, 10]] (fun i own ys wx => match i with | 0 => own = .agg #[.int .i64 p.w, .int .i64 p.h, .slice a n c] | 1 => own = .int .i64 (x / 2) | 2 => own = .int .i64 (y / 2) | 3 => own = .int .i64 s0 | 4 => own = .agg #[.int .i64 p.w, .int .i64 p.h, .slice a n c] | 5 => own = .int .i64 (x / 2) | 6 => own = .int .i64 ((y + 1) / 2) | 7 => own = .int .i64 s1 | 8 => own = .int .i64 (s0 + s1) | 9 => own = .int .i64 (s0 + s1 + 1) | 10 => own = .int .i64 ((s0 + s1 + 1) / 2) | 11 => own = .int .i64 ((s0 + s1 + 1) / 2) | _ => True) (fun kx wx => Ext w0 wx) (by kernel_rfl) (by kernel_rfl) (by kernel_rfl) ?g0_r2 ?gop_r2 ?gend_r2
 case g0_r2 => exact Ext.drewN _ 1
 case gop_r2 =>
  refine ⟨?o0, ?_, ?_, ?o3, ?o4, ?_, ?_, ?o7, ?o8, ?o9, ?o10, ?o11, trivial⟩ <;> (intro kx xs wx hk hG hD hI Qo Kx hK hQo; simp only [patchS, Nat.reduceAdd, Nat.reduceEqDiff, ↓reduceIte] at hQo ⊢)
  case o0 =>
   clear hD hI
   obtain ⟨-, k0, k1, k2, -⟩ := bx3 (hG.blk p0)
   go_wp2
   exact hK.out _ _ ⟨rfl, hG, fun _ _ _ _ _ _ h => h⟩
  case o3 =>
   have d0 : _ = _ := hD 0 rfl
   have d1 : _ = _ := hD 1 rfl
   have d2 : _ = _ := hD 2 rfl
   clear hD hI
   generalize xs 0 = y0 at *
   generalize xs 1 = y1 at *
   generalize xs 2 = y2 at *
   subst d0 d1 d2
   go_wp2_with fail
   refine (at_any p (x / 2) (y / 2) a c n _ HV.out HN.out (r.ext (E0.trans hG))).mono ?_
   rintro e w2 ⟨rfl, e2⟩
   rw [← H0.out]
   go_wp2
   exact hK.out _ _ ⟨rfl, hG.trans e2, fun _ _ _ _ _ _ h => h⟩
  case o4 =>
   clear hD hI
   obtain ⟨-, k0, k1, k2, -⟩ := bx3 (hG.blk p0)
   go_wp2
   exact hK.out _ _ ⟨rfl, hG, fun _ _ _ _ _ _ h => h⟩
  case o7 =>
   have d4 : _ = _ := hD 4 rfl
   have d5 : _ = _ := hD 5 rfl
   have d6 : _ = _ := hD 6 rfl
   clear hD hI
   generalize xs 4 = y4 at *
   generalize xs 5 = y5 at *
   generalize xs 6 = y6 at *
   subst d4 d5 d6
   go_wp2_with fail
   refine (at_any p (x / 2) ((y + 1) / 2) a c n _ HV.out HN.out (r.ext (E0.trans hG))).mono ?_
   rintro e w2 ⟨rfl, e2⟩
   rw [← H1.out]
   go_wp2
   exact hK.out _ _ ⟨rfl, hG.trans e2, fun _ _ _ _ _ _ h => h⟩
  case o8 =>
   have d3 : _ = _ := hD 3 rfl
   have d7 : _ = _ := hD 7 rfl
   clear hD hI
   generalize xs 3 = y3 at *
   generalize xs 7 = y7 at *
   subst d3 d7
   go_wp2
   exact hK.out _ _ ⟨rfl, hG, fun _ _ _ _ _ _ h => h⟩
  case o9 =>
   have d8 : _ = _ := hD 8 rfl
   clear hD hI
   generalize xs 8 = y8 at *
   subst d8
   go_wp2
   exact hK.out _ _ ⟨rfl, hG, fun _ _ _ _ _ _ h => h⟩
  case o10 =>
   have d9 : _ = _ := hD 9 rfl
   clear hD hI
   generalize xs 9 = y9 at *
   subst d9
   go_wp2
   exact hK.out _ _ ⟨rfl, hG, fun _ _ _ _ _ _ h => h⟩
  case o11 =>
   have d10 : _ = _ := hD 10 rfl
   clear hD hI
   generalize xs 10 = y10 at *
   subst d10
   go_wp2
   exact hK.out _ _ ⟨rfl, hG, fun _ _ _ _ _ _ h => h⟩
  all_goals
   clear hD hI
   go_wp2
   exact hK.out _ _ ⟨rfl, hG, fun _ _ _ _ _ _ h => h⟩
 intro xs wx hV hG
 have d11 : _ = _ := hV 11 (by decide)
 clear hV
 simp only [patchS, Nat.reduceAdd, Nat.reduceEqDiff, ↓reduceIte]
 generalize xs 0 = y0 at *
 generalize xs 1 = y1 at *
 generalize xs 2 = y2 at *
 generalize xs 3 = y3 at *
 generalize xs 4 = y4 at *
 generalize xs 5 = y5 at *
 generalize xs 6 = y6 at *
 generalize xs 7 = y7 at *
 generalize xs 8 = y8 at *
 generalize xs 9 = y9 at *
 generalize xs 10 = y10 at *
 generalize xs 11 = y11 at *
 replace hG : Ext w0 wx := hG
 subst d11
 go_wp2
 go_ret
 exact ⟨(ret_intH HH).symm, E0.trans hG⟩
set_option maxRecDepth 100000 in
theorem half_at_oo (p : Pic) (x y : Int) (a : Option Addr) (c n : Nat) (w : World) (hv : p.valid) (hn : n = p.px.length) (r : Sl w a n (p.px.map (Value.int .i64)))
 (x1 : -2000 ≤ x) (x2 : x ≤ 2000) (y1 : -2000 ≤ y) (y2 : y ≤ 2000) (hx : ¬ x % 2 = 0) (hy : ¬ y % 2 = 0) :
 Calls Tryz.prog 104 #[.agg #[.int .i64 p.w, .int .i64 p.h, .slice a n c], .int .i64 x, .int .i64 y] w fun e w' => e = .returned (.int .i64 (hlf p x y)) ∧ Ext w w' := by
 have hh := half_oo (p := p) hx hy
 have dx : (x / 2 == (x + 1) / 2) = false := by simp; omega
 have dy : (y / 2 == (y + 1) / 2) = false := by simp; omega
 rw [show x / 2 + 1 = (x + 1) / 2 by omega, show y / 2 + 1 = (y + 1) / 2 by omega] at hh
 have HH := Lib.hid hh
 clear hx hy hh
 have p0 := blk_new w (.cells #[.int .i64 p.w, .int .i64 p.h, .slice a n c] 25)
 have E0 := Ext.alloc w (.cells #[.int .i64 p.w, .int .i64 p.h, .slice a n c] 25)
 obtain ⟨B, hB⟩ : ∃ B, B = w.heap.size := ⟨_, rfl⟩
 rw [← hB] at p0
 have HB := Lib.hid hB
 have HN := Lib.hid hn
 have HV := Lib.hid hv
 clear hn hv
 obtain ⟨s0, hs0⟩ : ∃ s0, s0 = pat p (x / 2) (y / 2) := ⟨_, rfl⟩
 have b0 := pat_rng HV.out (x / 2) (y / 2)
 rw [← hs0] at b0
 have H0 := Lib.hid hs0
 clear hs0
 obtain ⟨s1, hs1⟩ : ∃ s1, s1 = pat p ((x + 1) / 2) (y / 2) := ⟨_, rfl⟩
 have b1 := pat_rng HV.out ((x + 1) / 2) (y / 2)
 rw [← hs1] at b1
 have H1 := Lib.hid hs1
 clear hs1
 obtain ⟨s2, hs2⟩ : ∃ s2, s2 = pat p (x / 2) ((y + 1) / 2) := ⟨_, rfl⟩
 have b2 := pat_rng HV.out (x / 2) ((y + 1) / 2)
 rw [← hs2] at b2
 have H2 := Lib.hid hs2
 clear hs2
 obtain ⟨s3, hs3⟩ : ∃ s3, s3 = pat p ((x + 1) / 2) ((y + 1) / 2) := ⟨_, rfl⟩
 have b3 := pat_rng HV.out ((x + 1) / 2) ((y + 1) / 2)
 rw [← hs3] at b3
 have H3 := Lib.hid hs3
 clear hs3
 rw [← H0.out, ← H1.out, ← H2.out, ← H3.out] at HH
 go_enter Tryz.func104, Tryz.ntmps104
 go_wp2_with fail
 rw [← hB]
 clear hB
 generalize w.alloc (.cells #[.int .i64 p.w, .int .i64 p.h, .slice a n c] 25) = w0 at *
 refine wp_region_inv2 (by kernel_rfl) [(6, 21), (64, 0), (65, 1), (66, 2), (67, 3), (68, 4), (69, 5), (70, 6), (71, 7), (72, 8), (73, 9), (74, 10), (75, 11), (76, 12), (77, 13), (78, 14), (79, 15), (80, 16), (81, 17), (82, 18), (83, 19), (84, 20)] [[], [], [], [0, 1, 2], [], [], [], [0, 1, 2, 3, 4, 5, 6], [0, 1, 2, 3, 4, 5, 6, 7], [], [], [], [0, 1, 2, 3, 4, 5, 6, 7, 9, 10, 11], [0, 1, 2, 3, 4, 5, 6, 7, 8, 9, 10, 11, 12], [], [], [], [0, 1, 2, 3, 4, 5, 6, 7, 9, 10, 11, 12, 14, 15, 16], [0, 1, 2, 3, 4, 5, 6, 7, 8, 9, 10, 11, 12, 13, 14, 15, 16, 17], [0, 1, 2, 3, 4, 5, 6, 7, 8, 9, 10, 11, 12, 13, 14, 15, 16, 17, 18], [0, 1, 2, 3, 4, 5, 6, 7, 8, 9, 10, 11, 12, 13, 14, 15, 16, 17, 18, 19], [0, 1, 2, 3, 4, 5, 6, 7, 8, 9, 10, 11, 12, 13, 14, 15, 16, 17, 18, 19, 20]] (fun i own ys wx => match i with | 0 => own = .agg #[.int .i64 p.w, .int .i64 p.h, .slice a n c] | 1 => own = .int .i64 (x / 2) | 2 => own = .int .i64 (y / 2) | 3 => own = .int .i64 s0 | 4 => own = .agg #[.int .i64 p.w, .int .i64 p.h, .slice a n c] | 5 => own = .int .i64 ((x + 1) / 2) | 6 => own = .int .i64 (y / 2) | 7 => own = .int .i64 s1 | 8 => own = .int .i64 (s0 + s1) | 9 => own = .agg #[.int .i64 p.w, .int .i64 p.h, .slice a n c] | 10 => own = .int .i64 (x / 2) | 11 => own = .int .i64 ((y + 1) / 2) | 12 => own = .int .i64 s2 | 13 => own = .int .i64 (s0 + s1 + s2) | 14 => own = .agg #[.int .i64 p.w, .int .i64 p.h, .slice a n c] | 15 => own = .int .i64 ((x + 1) / 2) | 16 => own = .int .i64 ((y + 1) / 2) | 17 => own = .int .i64 s3 | 18 => own = .int .i64 (s0 + s1 + s2 + s3) | 19 => own = .int .i64 (s0 + s1 + s2 + s3 + 2) | 20 => own = .int .i64 ((s0 + s1 + s2 + s3 + 2) / 4) | 21 => own = .int .i64 ((s0 + s1 + s2 + s3 + 2) / 4) | _ => True) (fun kx wx => Ext w0 wx) (by kernel_rfl) (by kernel_rfl) (by kernel_rfl) ?g0_r3 ?gop_r3 ?gend_r3
 case g0_r3 => exact Ext.drewN _ 1
 case gop_r3 =>
  refine ⟨?o0, ?_, ?_, ?o3, ?o4, ?_, ?_, ?o7, ?o8, ?o9, ?_, ?_, ?o12, ?o13, ?o14, ?_, ?_, ?o17, ?o18, ?o19, ?o20, ?o21, trivial⟩ <;> (intro kx xs wx hk hG hD hI Qo Kx hK hQo; simp only [patchS, Nat.reduceAdd, Nat.reduceEqDiff, ↓reduceIte] at hQo ⊢)
  case o0 =>
   clear hD hI
   obtain ⟨-, k0, k1, k2, -⟩ := bx3 (hG.blk p0)
   go_wp2
   exact hK.out _ _ ⟨rfl, hG, fun _ _ _ _ _ _ h => h⟩
  case o3 =>
   have d0 : _ = _ := hD 0 rfl
   have d1 : _ = _ := hD 1 rfl
   have d2 : _ = _ := hD 2 rfl
   clear hD hI
   generalize xs 0 = y0 at *
   generalize xs 1 = y1 at *
   generalize xs 2 = y2 at *
   subst d0 d1 d2
   go_wp2_with fail
   refine (at_any p (x / 2) (y / 2) a c n _ HV.out HN.out (r.ext (E0.trans hG))).mono ?_
   rintro e w2 ⟨rfl, e2⟩
   rw [← H0.out]
   go_wp2
   exact hK.out _ _ ⟨rfl, hG.trans e2, fun _ _ _ _ _ _ h => h⟩
  case o4 =>
   clear hD hI
   obtain ⟨-, k0, k1, k2, -⟩ := bx3 (hG.blk p0)
   go_wp2
   exact hK.out _ _ ⟨rfl, hG, fun _ _ _ _ _ _ h => h⟩
  case o7 =>
   have d4 : _ = _ := hD 4 rfl
   have d5 : _ = _ := hD 5 rfl
   have d6 : _ = _ := hD 6 rfl
   clear hD hI
   generalize xs 4 = y4 at *
   generalize xs 5 = y5 at *
   generalize xs 6 = y6 at *
   subst d4 d5 d6
   go_wp2_with fail
   refine (at_any p ((x + 1) / 2) (y / 2) a c n _ HV.out HN.out (r.ext (E0.trans hG))).mono ?_
   rintro e w2 ⟨rfl, e2⟩
   rw [← H1.out]
   go_wp2
   exact hK.out _ _ ⟨rfl, hG.trans e2, fun _ _ _ _ _ _ h => h⟩
  case o8 =>
   have d3 : _ = _ := hD 3 rfl
   have d7 : _ = _ := hD 7 rfl
   clear hD hI
   generalize xs 3 = y3 at *
   generalize xs 7 = y7 at *
   subst d3 d7
   go_wp2
   exact hK.out _ _ ⟨rfl, hG, fun _ _ _ _ _ _ h => h⟩
  case o9 =>
   clear hD hI
   obtain ⟨-, k0, k1, k2, -⟩ := bx3 (hG.blk p0)
   go_wp2
   exact hK.out _ _ ⟨rfl, hG, fun _ _ _ _ _ _ h => h⟩
  case o12 =>
   have d9 : _ = _ := hD 9 rfl
   have d10 : _ = _ := hD 10 rfl
   have d11 : _ = _ := hD 11 rfl
   clear hD hI
   generalize xs 9 = y9 at *
   generalize xs 10 = y10 at *
   generalize xs 11 = y11 at *
   subst d9 d10 d11
   go_wp2_with fail
   refine (at_any p (x / 2) ((y + 1) / 2) a c n _ HV.out HN.out (r.ext (E0.trans hG))).mono ?_
   rintro e w2 ⟨rfl, e2⟩
   rw [← H2.out]
   go_wp2
   exact hK.out _ _ ⟨rfl, hG.trans e2, fun _ _ _ _ _ _ h => h⟩
  case o13 =>
   have d8 : _ = _ := hD 8 rfl
   have d12 : _ = _ := hD 12 rfl
   clear hD hI
   generalize xs 8 = y8 at *
   generalize xs 12 = y12 at *
   subst d8 d12
   go_wp2
   exact hK.out _ _ ⟨rfl, hG, fun _ _ _ _ _ _ h => h⟩
  case o14 =>
   clear hD hI
   obtain ⟨-, k0, k1, k2, -⟩ := bx3 (hG.blk p0)
   go_wp2
   exact hK.out _ _ ⟨rfl, hG, fun _ _ _ _ _ _ h => h⟩
  case o17 =>
   have d14 : _ = _ := hD 14 rfl
   have d15 : _ = _ := hD 15 rfl
   have d16 : _ = _ := hD 16 rfl
   clear hD hI
   generalize xs 14 = y14 at *
   generalize xs 15 = y15 at *
   generalize xs 16 = y16 at *
   subst d14 d15 d16
   go_wp2_with fail
   refine (at_any p ((x + 1) / 2) ((y + 1) / 2) a c n _ HV.out HN.out (r.ext (E0.trans hG))).mono ?_
   rintro e w2 ⟨rfl, e2⟩
   rw [← H3.out]
   go_wp2
   exact hK.out _ _ ⟨rfl, hG.trans e2, fun _ _ _ _ _ _ h => h⟩
  case o18 =>
   have d13 : _ = _ := hD 13 rfl
   have d17 : _ = _ := hD 17 rfl
   clear hD hI
   generalize xs 13 = y13 at *
   generalize xs 17 = y17 at *
   subst d13 d17
   go_wp2
   exact hK.out _ _ ⟨rfl, hG, fun _ _ _ _ _ _ h => h⟩
  case o19 =>
   have d18 : _ = _ := hD 18 rfl
   clear hD hI
   generalize xs 18 = y18 at *
   subst d18
   go_wp2
   exact hK.out _ _ ⟨rfl, hG, fun _ _ _ _ _ _ h => h⟩
  case o20 =>
   have d19 : _ = _ := hD 19 rfl
   clear hD hI
   generalize xs 19 = y19 at *
   subst d19
   go_wp2
   exact hK.out _ _ ⟨rfl, hG, fun _ _ _ _ _ _ h => h⟩
  case o21 =>
   have d20 : _ = _ := hD 20 rfl
   clear hD hI
   generalize xs 20 = y20 at *
   subst d20
   go_wp2
   exact hK.out _ _ ⟨rfl, hG, fun _ _ _ _ _ _ h => h⟩
  all_goals
   clear hD hI
   go_wp2
   exact hK.out _ _ ⟨rfl, hG, fun _ _ _ _ _ _ h => h⟩
 intro xs wx hV hG
 have d21 : _ = _ := hV 21 (by decide)
 clear hV
 simp only [patchS, Nat.reduceAdd, Nat.reduceEqDiff, ↓reduceIte]
 generalize xs 0 = y0 at *
 generalize xs 1 = y1 at *
 generalize xs 2 = y2 at *
 generalize xs 3 = y3 at *
 generalize xs 4 = y4 at *
 generalize xs 5 = y5 at *
 generalize xs 6 = y6 at *
 generalize xs 7 = y7 at *
 generalize xs 8 = y8 at *
 generalize xs 9 = y9 at *
 generalize xs 10 = y10 at *
 generalize xs 11 = y11 at *
 generalize xs 12 = y12 at *
 generalize xs 13 = y13 at *
 generalize xs 14 = y14 at *
 generalize xs 15 = y15 at *
 generalize xs 16 = y16 at *
 generalize xs 17 = y17 at *
 generalize xs 18 = y18 at *
 generalize xs 19 = y19 at *
 generalize xs 20 = y20 at *
 generalize xs 21 = y21 at *
 replace hG : Ext w0 wx := hG
 subst d21
 go_wp2
 go_ret
 exact ⟨(ret_intH HH).symm, E0.trans hG⟩
theorem half_any (p : Pic) (x y : Int) (a : Option Addr) (c n : Nat) (w : World) (hv : p.valid) (hn : n = p.px.length) (r : Sl w a n (p.px.map (Value.int .i64)))
 (x1 : -2000 ≤ x) (x2 : x ≤ 2000) (y1 : -2000 ≤ y) (y2 : y ≤ 2000) :
 Calls Tryz.prog 104 #[.agg #[.int .i64 p.w, .int .i64 p.h, .slice a n c], .int .i64 x, .int .i64 y] w fun e w' => e = .returned (.int .i64 (hlf p x y)) ∧ Ext w w' := by
 by_cases hx : x % 2 = 0
 ·by_cases hy : y % 2 = 0
  ·exact half_at_ee p x y a c n w hv hn r x1 x2 y1 y2 hx hy
  ·exact half_at_eo p x y a c n w hv hn r x1 x2 y1 y2 hx hy
 ·by_cases hy : y % 2 = 0
  ·exact half_at_oe p x y a c n w hv hn r x1 x2 y1 y2 hx hy
  ·exact half_at_oo p x y a c n w hv hn r x1 x2 y1 y2 hx hy
set_option maxRecDepth 100000 in
theorem l7Half_ee (p : Pic) (x y : Int) (a : Option Addr) (c n : Nat) (w : World) (hv : p.valid) (hn : n = p.px.length) (r : Sl w a n (p.px.map (Value.int .i64)))
 (x1 : -2000 ≤ x) (x2 : x ≤ 2000) (y1 : -2000 ≤ y) (y2 : y ≤ 2000) (hx : x % 2 = 0) (hy : y % 2 = 0) :
 Calls Tryz.prog 162 #[.agg #[.int .i64 p.w, .int .i64 p.h, .slice a n c], .int .i64 x, .int .i64 y] w fun e w' => e = .returned (.int .i64 (hlf p x y)) ∧ Ext w w' := by
 have hh := half_ee (p := p) hx hy
 have dx : (x.tmod 2 == 0) = true := tm_even hx
 have dy : (y.tmod 2 == 0) = true := tm_even hy
 have HH := Lib.hid hh
 clear hx hy hh
 have p0 := blk_new w (.cells #[.int .i64 p.w, .int .i64 p.h, .slice a n c] 25)
 have E0 := Ext.alloc w (.cells #[.int .i64 p.w, .int .i64 p.h, .slice a n c] 25)
 obtain ⟨B, hB⟩ : ∃ B, B = w.heap.size := ⟨_, rfl⟩
 rw [← hB] at p0
 have HB := Lib.hid hB
 have HN := Lib.hid hn
 have HV := Lib.hid hv
 clear hn hv
 obtain ⟨s0, hs0⟩ : ∃ s0, s0 = pat p (x / 2) (y / 2) := ⟨_, rfl⟩
 have b0 := pat_rng HV.out (x / 2) (y / 2)
 rw [← hs0] at b0
 have H0 := Lib.hid hs0
 clear hs0
 rw [← H0.out] at HH
 obtain ⟨-, k0, k1, k2, -⟩ := bx3 p0
 go_enter Tryz.func162, Tryz.ntmps162
 go_wp2_with fail
 refine (l7Floor_any _ 2 _ (by omega) (by omega) (by omega) (by omega)).mono ?_
 rintro e w2 ⟨rfl, rfl⟩
 go_wp2_with fail
 refine (l7Floor_any _ 2 _ (by omega) (by omega) (by omega) (by omega)).mono ?_
 rintro e w2 ⟨rfl, rfl⟩
 go_wp2_with fail
 refine (l1At_any p (x / 2) (y / 2) a c n _ HV.out HN.out (r.ext E0)).mono ?_
 rintro e w2 ⟨rfl, e2⟩
 rw [← H0.out]
 have p2 := e2.blk p0
 have E2 := E0.trans e2
 rw [← hB]
 clear hB p0 k0 k1 k2 E0 e2
 obtain ⟨-, k0, k1, k2, -⟩ := bx3 p2
 go_wp2
 go_ret
 exact ⟨(ret_intH HH).symm, E2⟩
set_option maxRecDepth 100000 in
theorem l7Half_oe (p : Pic) (x y : Int) (a : Option Addr) (c n : Nat) (w : World) (hv : p.valid) (hn : n = p.px.length) (r : Sl w a n (p.px.map (Value.int .i64)))
 (x1 : -2000 ≤ x) (x2 : x ≤ 2000) (y1 : -2000 ≤ y) (y2 : y ≤ 2000) (hx : ¬ x % 2 = 0) (hy : y % 2 = 0) :
 Calls Tryz.prog 162 #[.agg #[.int .i64 p.w, .int .i64 p.h, .slice a n c], .int .i64 x, .int .i64 y] w fun e w' => e = .returned (.int .i64 (hlf p x y)) ∧ Ext w w' := by
 have hh := half_oe (p := p) hx hy
 have dx : (x.tmod 2 == 0) = false := tm_odd hx
 have dy : (y.tmod 2 == 0) = true := tm_even hy
 have HH := Lib.hid hh
 clear hx hy hh
 have p0 := blk_new w (.cells #[.int .i64 p.w, .int .i64 p.h, .slice a n c] 25)
 have E0 := Ext.alloc w (.cells #[.int .i64 p.w, .int .i64 p.h, .slice a n c] 25)
 obtain ⟨B, hB⟩ : ∃ B, B = w.heap.size := ⟨_, rfl⟩
 rw [← hB] at p0
 have HB := Lib.hid hB
 have HN := Lib.hid hn
 have HV := Lib.hid hv
 clear hn hv
 obtain ⟨s0, hs0⟩ : ∃ s0, s0 = pat p (x / 2) (y / 2) := ⟨_, rfl⟩
 have b0 := pat_rng HV.out (x / 2) (y / 2)
 rw [← hs0] at b0
 have H0 := Lib.hid hs0
 clear hs0
 obtain ⟨s1, hs1⟩ : ∃ s1, s1 = pat p (x / 2 + 1) (y / 2) := ⟨_, rfl⟩
 have b1 := pat_rng HV.out (x / 2 + 1) (y / 2)
 rw [← hs1] at b1
 have H1 := Lib.hid hs1
 clear hs1
 rw [← H0.out, ← H1.out] at HH
 obtain ⟨-, k0, k1, k2, -⟩ := bx3 p0
 go_enter Tryz.func162, Tryz.ntmps162
 go_wp2_with fail
 refine (l7Floor_any _ 2 _ (by omega) (by omega) (by omega) (by omega)).mono ?_
 rintro e w2 ⟨rfl, rfl⟩
 go_wp2_with fail
 refine (l7Floor_any _ 2 _ (by omega) (by omega) (by omega) (by omega)).mono ?_
 rintro e w2 ⟨rfl, rfl⟩
 go_wp2_with fail
 refine (l1At_any p (x / 2) (y / 2) a c n _ HV.out HN.out (r.ext E0)).mono ?_
 rintro e w2 ⟨rfl, e2⟩
 rw [← H0.out]
 have p2 := e2.blk p0
 have E2 := E0.trans e2
 rw [← hB]
 clear hB p0 k0 k1 k2 E0 e2
 obtain ⟨-, k0, k1, k2, -⟩ := bx3 p2
 go_wp2_with fail
 refine (l1At_any p (x / 2 + 1) (y / 2) a c n _ HV.out HN.out (r.ext E2)).mono ?_
 rintro e w3 ⟨rfl, e3⟩
 rw [← H1.out]
 go_wp2
 go_ret
 exact ⟨(ret_intH HH).symm, E2.trans e3⟩
set_option maxRecDepth 100000 in
theorem l7Half_eo (p : Pic) (x y : Int) (a : Option Addr) (c n : Nat) (w : World) (hv : p.valid) (hn : n = p.px.length) (r : Sl w a n (p.px.map (Value.int .i64)))
 (x1 : -2000 ≤ x) (x2 : x ≤ 2000) (y1 : -2000 ≤ y) (y2 : y ≤ 2000) (hx : x % 2 = 0) (hy : ¬ y % 2 = 0) :
 Calls Tryz.prog 162 #[.agg #[.int .i64 p.w, .int .i64 p.h, .slice a n c], .int .i64 x, .int .i64 y] w fun e w' => e = .returned (.int .i64 (hlf p x y)) ∧ Ext w w' := by
 have hh := half_eo (p := p) hx hy
 have dx : (x.tmod 2 == 0) = true := tm_even hx
 have dy : (y.tmod 2 == 0) = false := tm_odd hy
 have HH := Lib.hid hh
 clear hx hy hh
 have p0 := blk_new w (.cells #[.int .i64 p.w, .int .i64 p.h, .slice a n c] 25)
 have E0 := Ext.alloc w (.cells #[.int .i64 p.w, .int .i64 p.h, .slice a n c] 25)
 obtain ⟨B, hB⟩ : ∃ B, B = w.heap.size := ⟨_, rfl⟩
 rw [← hB] at p0
 have HB := Lib.hid hB
 have HN := Lib.hid hn
 have HV := Lib.hid hv
 clear hn hv
 obtain ⟨s0, hs0⟩ : ∃ s0, s0 = pat p (x / 2) (y / 2) := ⟨_, rfl⟩
 have b0 := pat_rng HV.out (x / 2) (y / 2)
 rw [← hs0] at b0
 have H0 := Lib.hid hs0
 clear hs0
 obtain ⟨s1, hs1⟩ : ∃ s1, s1 = pat p (x / 2) (y / 2 + 1) := ⟨_, rfl⟩
 have b1 := pat_rng HV.out (x / 2) (y / 2 + 1)
 rw [← hs1] at b1
 have H1 := Lib.hid hs1
 clear hs1
 rw [← H0.out, ← H1.out] at HH
 obtain ⟨-, k0, k1, k2, -⟩ := bx3 p0
 go_enter Tryz.func162, Tryz.ntmps162
 go_wp2_with fail
 refine (l7Floor_any _ 2 _ (by omega) (by omega) (by omega) (by omega)).mono ?_
 rintro e w2 ⟨rfl, rfl⟩
 go_wp2_with fail
 refine (l7Floor_any _ 2 _ (by omega) (by omega) (by omega) (by omega)).mono ?_
 rintro e w2 ⟨rfl, rfl⟩
 go_wp2_with fail
 refine (l1At_any p (x / 2) (y / 2) a c n _ HV.out HN.out (r.ext E0)).mono ?_
 rintro e w2 ⟨rfl, e2⟩
 rw [← H0.out]
 have p2 := e2.blk p0
 have E2 := E0.trans e2
 rw [← hB]
 clear hB p0 k0 k1 k2 E0 e2
 obtain ⟨-, k0, k1, k2, -⟩ := bx3 p2
 go_wp2_with fail
 refine (l1At_any p (x / 2) (y / 2 + 1) a c n _ HV.out HN.out (r.ext E2)).mono ?_
 rintro e w3 ⟨rfl, e3⟩
 rw [← H1.out]
 go_wp2
 go_ret
 exact ⟨(ret_intH HH).symm, E2.trans e3⟩
set_option maxRecDepth 100000 in
theorem l7Half_oo (p : Pic) (x y : Int) (a : Option Addr) (c n : Nat) (w : World) (hv : p.valid) (hn : n = p.px.length) (r : Sl w a n (p.px.map (Value.int .i64)))
 (x1 : -2000 ≤ x) (x2 : x ≤ 2000) (y1 : -2000 ≤ y) (y2 : y ≤ 2000) (hx : ¬ x % 2 = 0) (hy : ¬ y % 2 = 0) :
 Calls Tryz.prog 162 #[.agg #[.int .i64 p.w, .int .i64 p.h, .slice a n c], .int .i64 x, .int .i64 y] w fun e w' => e = .returned (.int .i64 (hlf p x y)) ∧ Ext w w' := by
 have hh := half_oo (p := p) hx hy
 have dx : (x.tmod 2 == 0) = false := tm_odd hx
 have dy : (y.tmod 2 == 0) = false := tm_odd hy
 have HH := Lib.hid hh
 clear hx hy hh
 have p0 := blk_new w (.cells #[.int .i64 p.w, .int .i64 p.h, .slice a n c] 25)
 have E0 := Ext.alloc w (.cells #[.int .i64 p.w, .int .i64 p.h, .slice a n c] 25)
 obtain ⟨B, hB⟩ : ∃ B, B = w.heap.size := ⟨_, rfl⟩
 rw [← hB] at p0
 have HB := Lib.hid hB
 have HN := Lib.hid hn
 have HV := Lib.hid hv
 clear hn hv
 obtain ⟨s0, hs0⟩ : ∃ s0, s0 = pat p (x / 2) (y / 2) := ⟨_, rfl⟩
 have b0 := pat_rng HV.out (x / 2) (y / 2)
 rw [← hs0] at b0
 have H0 := Lib.hid hs0
 clear hs0
 obtain ⟨s1, hs1⟩ : ∃ s1, s1 = pat p (x / 2 + 1) (y / 2) := ⟨_, rfl⟩
 have b1 := pat_rng HV.out (x / 2 + 1) (y / 2)
 rw [← hs1] at b1
 have H1 := Lib.hid hs1
 clear hs1
 obtain ⟨s2, hs2⟩ : ∃ s2, s2 = pat p (x / 2) (y / 2 + 1) := ⟨_, rfl⟩
 have b2 := pat_rng HV.out (x / 2) (y / 2 + 1)
 rw [← hs2] at b2
 have H2 := Lib.hid hs2
 clear hs2
 obtain ⟨s3, hs3⟩ : ∃ s3, s3 = pat p (x / 2 + 1) (y / 2 + 1) := ⟨_, rfl⟩
 have b3 := pat_rng HV.out (x / 2 + 1) (y / 2 + 1)
 rw [← hs3] at b3
 have H3 := Lib.hid hs3
 clear hs3
 rw [← H0.out, ← H1.out, ← H2.out, ← H3.out] at HH
 obtain ⟨-, k0, k1, k2, -⟩ := bx3 p0
 go_enter Tryz.func162, Tryz.ntmps162
 go_wp2_with fail
 refine (l7Floor_any _ 2 _ (by omega) (by omega) (by omega) (by omega)).mono ?_
 rintro e w2 ⟨rfl, rfl⟩
 go_wp2_with fail
 refine (l7Floor_any _ 2 _ (by omega) (by omega) (by omega) (by omega)).mono ?_
 rintro e w2 ⟨rfl, rfl⟩
 go_wp2_with fail
 refine (l1At_any p (x / 2) (y / 2) a c n _ HV.out HN.out (r.ext E0)).mono ?_
 rintro e w2 ⟨rfl, e2⟩
 rw [← H0.out]
 have p2 := e2.blk p0
 have E2 := E0.trans e2
 rw [← hB]
 clear hB p0 k0 k1 k2 E0 e2
 obtain ⟨-, k0, k1, k2, -⟩ := bx3 p2
 clear k0 k1 k2
 go_wp2_with fail
 refine wp_region_inv2 (by kernel_rfl) [(6, 22), (54, 0), (55, 1), (56, 2), (57, 3), (58, 4), (59, 5), (60, 6), (61, 7), (62, 8), (63, 9), (64, 10), (65, 11), (66, 12), (67, 13), (68, 14), (69, 15), (70, 16), (71, 17), (72, 18), (73, 19), (74, 20), (75, 21)] [[], [], [], [2], [], [1, 2, 3, 4], [0, 1, 2, 3, 4, 5], [], [], [], [9], [1, 2, 3, 4, 5, 7, 8, 9, 10], [0, 1, 2, 3, 4, 5, 6, 7, 8, 9, 10, 11], [], [], [14], [], [16], [1, 2, 3, 4, 5, 7, 8, 9, 10, 11, 13, 14, 15, 16, 17], [0, 1, 2, 3, 4, 5, 6, 7, 8, 9, 10, 11, 12, 13, 14, 15, 16, 17, 18], [0, 1, 2, 3, 4, 5, 6, 7, 8, 9, 10, 11, 12, 13, 14, 15, 16, 17, 18, 19], [0, 1, 2, 3, 4, 5, 6, 7, 8, 9, 10, 11, 12, 13, 14, 15, 16, 17, 18, 19, 20], [0, 1, 2, 3, 4, 5, 6, 7, 8, 9, 10, 11, 12, 13, 14, 15, 16, 17, 18, 19, 20, 21]] (fun i own ys wx => match i with | 0 => own = .int .i64 s0 | 1 => own = .agg #[.int .i64 p.w, .int .i64 p.h, .slice a n c] | 2 => own = .int .i64 (x / 2) | 3 => own = .int .i64 (x / 2 + 1) | 4 => own = .int .i64 (y / 2) | 5 => own = .int .i64 s1 | 6 => own = .int .i64 (s0 + s1) | 7 => own = .agg #[.int .i64 p.w, .int .i64 p.h, .slice a n c] | 8 => own = .int .i64 (x / 2) | 9 => own = .int .i64 (y / 2) | 10 => own = .int .i64 (y / 2 + 1) | 11 => own = .int .i64 s2 | 12 => own = .int .i64 (s0 + s1 + s2) | 13 => own = .agg #[.int .i64 p.w, .int .i64 p.h, .slice a n c] | 14 => own = .int .i64 (x / 2) | 15 => own = .int .i64 (x / 2 + 1) | 16 => own = .int .i64 (y / 2) | 17 => own = .int .i64 (y / 2 + 1) | 18 => own = .int .i64 s3 | 19 => own = .int .i64 (s0 + s1 + s2 + s3) | 20 => own = .int .i64 (s0 + s1 + s2 + s3 + 2) | 21 => own = .int .i64 ((s0 + s1 + s2 + s3 + 2) / 4) | 22 => own = .int .i64 ((s0 + s1 + s2 + s3 + 2) / 4) | _ => True) (fun kx wx => Ext w2 wx) (by kernel_rfl) (by kernel_rfl) (by kernel_rfl) ?g0_r4 ?gop_r4 ?gend_r4
 case g0_r4 => exact Ext.drewN _ 1
 case gop_r4 =>
  refine ⟨?_, ?o1, ?_, ?o3, ?_, ?o5, ?o6, ?o7, ?_, ?_, ?o10, ?o11, ?o12, ?o13, ?_, ?o15, ?_, ?o17, ?o18, ?o19, ?o20, ?o21, ?o22, trivial⟩ <;> (intro kx xs wx hk hG hD hI Qo Kx hK hQo; simp only [patchS, Nat.reduceAdd, Nat.reduceEqDiff, ↓reduceIte] at hQo ⊢)
  case o1 =>
   clear hD hI
   obtain ⟨-, k0, k1, k2, -⟩ := bx3 (hG.blk p2)
   go_wp2
   exact hK.out _ _ ⟨rfl, hG, fun _ _ _ _ _ _ h => h⟩
  case o3 =>
   have d2 : _ = _ := hD 2 rfl
   clear hD hI
   generalize xs 2 = y2 at *
   subst d2
   go_wp2
   exact hK.out _ _ ⟨rfl, hG, fun _ _ _ _ _ _ h => h⟩
  case o5 =>
   have d1 : _ = _ := hD 1 rfl
   have d3 : _ = _ := hD 3 rfl
   have d4 : _ = _ := hD 4 rfl
   clear hD hI
   generalize xs 1 = y1 at *
   generalize xs 3 = y3 at *
   generalize xs 4 = y4 at *
   subst d1 d3 d4
   go_wp2_with fail
   refine (l1At_any p (x / 2 + 1) (y / 2) a c n _ HV.out HN.out (r.ext (E2.trans hG))).mono ?_
   rintro e w3 ⟨rfl, e3⟩
   rw [← H1.out]
   go_wp2
   exact hK.out _ _ ⟨rfl, hG.trans e3, fun _ _ _ _ _ _ h => h⟩
  case o6 =>
   have d0 : _ = _ := hD 0 rfl
   have d5 : _ = _ := hD 5 rfl
   clear hD hI
   generalize xs 0 = y0 at *
   generalize xs 5 = y5 at *
   subst d0 d5
   go_wp2
   exact hK.out _ _ ⟨rfl, hG, fun _ _ _ _ _ _ h => h⟩
  case o7 =>
   clear hD hI
   obtain ⟨-, k0, k1, k2, -⟩ := bx3 (hG.blk p2)
   go_wp2
   exact hK.out _ _ ⟨rfl, hG, fun _ _ _ _ _ _ h => h⟩
  case o10 =>
   have d9 : _ = _ := hD 9 rfl
   clear hD hI
   generalize xs 9 = y9 at *
   subst d9
   go_wp2
   exact hK.out _ _ ⟨rfl, hG, fun _ _ _ _ _ _ h => h⟩
  case o11 =>
   have d7 : _ = _ := hD 7 rfl
   have d8 : _ = _ := hD 8 rfl
   have d10 : _ = _ := hD 10 rfl
   clear hD hI
   generalize xs 7 = y7 at *
   generalize xs 8 = y8 at *
   generalize xs 10 = y10 at *
   subst d7 d8 d10
   go_wp2_with fail
   refine (l1At_any p (x / 2) (y / 2 + 1) a c n _ HV.out HN.out (r.ext (E2.trans hG))).mono ?_
   rintro e w3 ⟨rfl, e3⟩
   rw [← H2.out]
   go_wp2
   exact hK.out _ _ ⟨rfl, hG.trans e3, fun _ _ _ _ _ _ h => h⟩
  case o12 =>
   have d6 : _ = _ := hD 6 rfl
   have d11 : _ = _ := hD 11 rfl
   clear hD hI
   generalize xs 6 = y6 at *
   generalize xs 11 = y11 at *
   subst d6 d11
   go_wp2
   exact hK.out _ _ ⟨rfl, hG, fun _ _ _ _ _ _ h => h⟩
  case o13 =>
   clear hD hI
   obtain ⟨-, k0, k1, k2, -⟩ := bx3 (hG.blk p2)
   go_wp2
   exact hK.out _ _ ⟨rfl, hG, fun _ _ _ _ _ _ h => h⟩
  case o15 =>
   have d14 : _ = _ := hD 14 rfl
   clear hD hI
   generalize xs 14 = y14 at *
   subst d14
   go_wp2
   exact hK.out _ _ ⟨rfl, hG, fun _ _ _ _ _ _ h => h⟩
  case o17 =>
   have d16 : _ = _ := hD 16 rfl
   clear hD hI
   generalize xs 16 = y16 at *
   subst d16
   go_wp2
   exact hK.out _ _ ⟨rfl, hG, fun _ _ _ _ _ _ h => h⟩
  case o18 =>
   have d13 : _ = _ := hD 13 rfl
   have d15 : _ = _ := hD 15 rfl
   have d17 : _ = _ := hD 17 rfl
   clear hD hI
   generalize xs 13 = y13 at *
   generalize xs 15 = y15 at *
   generalize xs 17 = y17 at *
   subst d13 d15 d17
   go_wp2_with fail
   refine (l1At_any p (x / 2 + 1) (y / 2 + 1) a c n _ HV.out HN.out (r.ext (E2.trans hG))).mono ?_
   rintro e w3 ⟨rfl, e3⟩
   rw [← H3.out]
   go_wp2
   exact hK.out _ _ ⟨rfl, hG.trans e3, fun _ _ _ _ _ _ h => h⟩
  case o19 =>
   have d12 : _ = _ := hD 12 rfl
   have d18 : _ = _ := hD 18 rfl
   clear hD hI
   generalize xs 12 = y12 at *
   generalize xs 18 = y18 at *
   subst d12 d18
   go_wp2
   exact hK.out _ _ ⟨rfl, hG, fun _ _ _ _ _ _ h => h⟩
  case o20 =>
   have d19 : _ = _ := hD 19 rfl
   clear hD hI
   generalize xs 19 = y19 at *
   subst d19
   go_wp2
   exact hK.out _ _ ⟨rfl, hG, fun _ _ _ _ _ _ h => h⟩
  case o21 =>
   have d20 : _ = _ := hD 20 rfl
   clear hD hI
   generalize xs 20 = y20 at *
   subst d20
   go_wp2
   exact hK.out _ _ ⟨rfl, hG, fun _ _ _ _ _ _ h => h⟩
  case o22 =>
   have d21 : _ = _ := hD 21 rfl
   clear hD hI
   generalize xs 21 = y21 at *
   subst d21
   go_wp2
   exact hK.out _ _ ⟨rfl, hG, fun _ _ _ _ _ _ h => h⟩
  all_goals
   clear hD hI
   go_wp2
   exact hK.out _ _ ⟨rfl, hG, fun _ _ _ _ _ _ h => h⟩
 intro xs wx hV hG
 have d22 : _ = _ := hV 22 (by decide)
 clear hV
 simp only [patchS, Nat.reduceAdd, Nat.reduceEqDiff, ↓reduceIte]
 generalize xs 0 = y0 at *
 generalize xs 1 = y1 at *
 generalize xs 2 = y2 at *
 generalize xs 3 = y3 at *
 generalize xs 4 = y4 at *
 generalize xs 5 = y5 at *
 generalize xs 6 = y6 at *
 generalize xs 7 = y7 at *
 generalize xs 8 = y8 at *
 generalize xs 9 = y9 at *
 generalize xs 10 = y10 at *
 generalize xs 11 = y11 at *
 generalize xs 12 = y12 at *
 generalize xs 13 = y13 at *
 generalize xs 14 = y14 at *
 generalize xs 15 = y15 at *
 generalize xs 16 = y16 at *
 generalize xs 17 = y17 at *
 generalize xs 18 = y18 at *
 generalize xs 19 = y19 at *
 generalize xs 20 = y20 at *
 generalize xs 21 = y21 at *
 generalize xs 22 = y22 at *
 replace hG : Ext w2 wx := hG
 subst d22
 go_wp2
 go_ret
 exact ⟨(ret_intH HH).symm, E2.trans hG⟩
theorem l7Half_any (p : Pic) (x y : Int) (a : Option Addr) (c n : Nat) (w : World) (hv : p.valid) (hn : n = p.px.length) (r : Sl w a n (p.px.map (Value.int .i64)))
 (x1 : -2000 ≤ x) (x2 : x ≤ 2000) (y1 : -2000 ≤ y) (y2 : y ≤ 2000) :
 Calls Tryz.prog 162 #[.agg #[.int .i64 p.w, .int .i64 p.h, .slice a n c], .int .i64 x, .int .i64 y] w fun e w' => e = .returned (.int .i64 (hlf p x y)) ∧ Ext w w' := by
 by_cases hx : x % 2 = 0
 ·by_cases hy : y % 2 = 0
  ·exact l7Half_ee p x y a c n w hv hn r x1 x2 y1 y2 hx hy
  ·exact l7Half_eo p x y a c n w hv hn r x1 x2 y1 y2 hx hy
 ·by_cases hy : y % 2 = 0
  ·exact l7Half_oe p x y a c n w hv hn r x1 x2 y1 y2 hx hy
  ·exact l7Half_oo p x y a c n w hv hn r x1 x2 y1 y2 hx hy
end Go.Proofs.YtbnhaegidfbgbaaGreatDoor
namespace Go.Proofs.YtbnhaegidfbgbaaGreatDoor
open Go.RowKit
set_option maxHeartbeats 1000000
theorem blk_snoc (p : Pic) (x y vx vy : Int) {J I : Nat} (hJ : J < 8) (hI : I < 8) : ((blkL p x y vx vy).take (8 * J + (I + 1))).map (Value.int .i64) = ((blkL p x y vx vy).take (8 * J + I)).map (Value.int .i64) ++ [.int .i64 (hlf p (2 * (x + (I : Int)) + vx) (2 * (y + (J : Int)) + vy))] := by
 rw [show 8 * J + (I + 1) = 8 * J + I + 1 by omega, take_snoc_nth _ _ (by rw [blkL_len]; omega), nth_blkL _ _ _ _ _ (by omega), show (8 * J + I) % 8 = I by omega, show (8 * J + I) / 8 = J by omega]
 simp
theorem mul8 (J : Nat) : 8 * (J + 1) = 8 * J + 8 := by omega
set_option maxRecDepth 100000 in
theorem moved_any (p : Pic) (x y vx vy : Int) (a : Option Addr) (c n : Nat) (w : World) (hv : p.valid) (hn : n = p.px.length) (r : Sl w a n (p.px.map (Value.int .i64))) (x1 : 0 ≤ x) (x2 : x ≤ 100) (y1 : 0 ≤ y) (y2 : y ≤ 100) (v1 : -16 ≤ vx) (v2 : vx ≤ 16) (v3 : -16 ≤ vy) (v4 : vy ≤ 16) :
 Calls Tryz.prog 50 #[.agg #[.int .i64 p.w, .int .i64 p.h, .slice a n c], .int .i64 x, .int .i64 y, .agg #[.int .i64 vx, .int .i64 vy]] w fun e w' => ∃ a' c', e = .returned (.slice a' 64 c') ∧ w'.ownsRow w.heap.size 3 1 (.slice a' 64 c') 64 ((blkL p x y vx vy).map (Value.int .i64)) ∧ Ext w w' := by
 have p0 := blk_alloc (blk_new w (.cells #[.int .i64 p.w, .int .i64 p.h, .slice a n c] 25)) (.cells #[.int .i64 vx, .int .i64 vy] 27)
 have q0 := blk_new (w.alloc (.cells #[.int .i64 p.w, .int .i64 p.h, .slice a n c] 25)) (.cells #[.int .i64 vx, .int .i64 vy] 27)
 have E0 := (Ext.alloc w (.cells #[.int .i64 p.w, .int .i64 p.h, .slice a n c] 25)).trans (Ext.alloc _ (.cells #[.int .i64 vx, .int .i64 vy] 27))
 simp only [World.size_alloc] at q0
 obtain ⟨B, hB⟩ : ∃ B, B = w.heap.size := ⟨_, rfl⟩
 rw [← hB] at p0 q0 ⊢
 have HB := Lib.hid hB
 have HN := Lib.hid hn
 have HV := Lib.hid hv
 clear hn hv
 go_enter Tryz.func50, Tryz.ntmps50
 go_wp2_with (at_make; refine wpList_mk0 _ rfl _ _ 23 rfl 3 (.int .i64 0) 8 Tryz.underlying23 info_int _ 64 rfl rfl rfl (by omega) (by omega) ?_; intro w1 v1' hown hgrow)
 have E1 : Ext w w1 := Ext.grown E0 hgrow (fun k e => by cases e)
 have p1 := blk_gr p0 hgrow (by simp)
 have q1 := blk_gr q0 hgrow (by simp)
 simp only [World.size_alloc] at hown
 rw [← hB] at hown ⊢
 clear hgrow
 have X1 := Lib.hid (And.intro p1 q1)
 have hwB : w.heap.size ≤ B := by omega
 clear p0 q0 p1 q1 E0 hB
 go_loopw [9, 13] (fun v j wr => ∃ J : Nat, J ≤ 8 ∧ j = .int .i64 J ∧ Ext w wr ∧ Hid (wr.heap[B]? = some (.cells #[.int .i64 p.w, .int .i64 p.h, .slice a n c] 25 (0, 0)) ∧ wr.heap[B + 1]? = some (.cells #[.int .i64 vx, .int .i64 vy] 27 (0, 0))) ∧ wr.ownsRow (B + 2) 3 1 v (8 * J) (((blkL p x y vx vy).take (8 * J)).map (Value.int .i64))) (fun _ j _ => 8 - (intOf j).toNat)
 case atStart => exact ⟨0, by omega, rfl, E1, X1, by simpa using hown⟩
 case round =>
  obtain ⟨J, hJ, rfl, EJ, XJ, oJ⟩ := hrel
  obtain ⟨wo, rfl⟩ : ∃ wo : World, wo = wr := ⟨_, rfl⟩
  by_cases hltJ : J < 8
  ·have hdJ : decide ((J : Int) < 8) = true := by simp; omega
   go_wp2_with fail
   go_loopw [9, 16] (fun v i wr2 => ∃ I : Nat, I ≤ 8 ∧ i = .int .i64 I ∧ Ext w wr2 ∧ Hid (wr2.heap[B]? = some (.cells #[.int .i64 p.w, .int .i64 p.h, .slice a n c] 25 (0, 0)) ∧ wr2.heap[B + 1]? = some (.cells #[.int .i64 vx, .int .i64 vy] 27 (0, 0))) ∧ wr2.ownsRow (B + 2) 3 1 v (8 * J + I) (((blkL p x y vx vy).take (8 * J + I)).map (Value.int .i64))) (fun _ i _ => 8 - (intOf i).toNat)
   case atStart => exact ⟨0, by omega, rfl, EJ, XJ, oJ⟩
   case round =>
    obtain ⟨I, hI, rfl, EI, XI, oI⟩ := hrel
    clear EJ oJ XJ
    by_cases hltI : I < 8
    ·have hdI : decide ((I : Int) < 8) = true := by simp; omega
     have Hsn := Lib.hid (blk_snoc p x y vx vy hltJ hltI)
     obtain ⟨-, k0, k1, k2, -⟩ := bx3 XI.out.1
     obtain ⟨-, g0, g1, -⟩ := bx2 XI.out.2
     go_wp2_with fail
     refine (half_any p (2 * (x + (I : Int)) + vx) (2 * (y + (J : Int)) + vy) a c n _ HV.out HN.out (r.ext EI) (by omega) (by omega) (by omega) (by omega)).mono ?_
     rintro e w3 ⟨rfl, e3⟩
     have E3 := EI.trans e3
     have X3 := Lib.hid (And.intro (e3.blk XI.out.1) (e3.blk XI.out.2))
     have o3 := owns_ext oI e3
     have hs3 : B + 2 ≤ w3.heap.size := by have := lt_of_block X3.out.2; omega
     clear EI oI XI e3 k0 k1 k2 g0 g1
     go_wp2_with (at_builtin; refine wpList_app _ o3 hs3 _ rfl _ _ 23 rfl (.int .i64 0) 8 Tryz.underlying23 info_int rfl rfl rfl rfl (by omega) (by omega) ?_; intro v4 w4 own4 gr4 _)
     go_roundw
     case rel =>
      rw [← Hsn.out] at own4
      have hge := owns_ge o3
      exact ⟨I + 1, by omega, by go_num, Ext.grown E3 gr4 (fun k e => by have := hge k e; omega), Lib.hid ⟨blk_gr X3.out.1 gr4 (fun e => by have := hge _ e; omega), blk_gr X3.out.2 gr4 (fun e => by have := hge _ e; omega)⟩, own4⟩
     case measure => simp [intOf]; omega
    ·obtain rfl : I = 8 := by omega
     go_wp2
     go_roundw
     case rel => exact ⟨J + 1, by omega, by go_num, EI, XI, by rw [mul8]; exact oI⟩
     case measure => simp [intOf]; omega
  ·obtain rfl : J = 8 := by omega
   rw [List.take_of_length_le (by rw [blkL_len]; omega)] at oJ
   obtain ⟨a8, c8, rfl⟩ := owns_form oJ
   go_wp2
   go_ret
   exact ⟨_, _, rfl, owns_mono oJ (by omega), EJ⟩
set_option maxRecDepth 100000 in
theorem l7Block_any (p : Pic) (x y vx vy : Int) (a : Option Addr) (c n : Nat) (w : World) (hv : p.valid) (hn : n = p.px.length) (r : Sl w a n (p.px.map (Value.int .i64))) (x1 : 0 ≤ x) (x2 : x ≤ 100) (y1 : 0 ≤ y) (y2 : y ≤ 100) (v1 : -16 ≤ vx) (v2 : vx ≤ 16) (v3 : -16 ≤ vy) (v4 : vy ≤ 16) :
 Calls Tryz.prog 138 #[.agg #[.int .i64 p.w, .int .i64 p.h, .slice a n c], .int .i64 x, .int .i64 y, .agg #[.int .i64 vx, .int .i64 vy]] w fun e w' => ∃ a' c', e = .returned (.slice a' 64 c') ∧ w'.ownsRow w.heap.size 3 1 (.slice a' 64 c') 64 ((blkL p x y vx vy).map (Value.int .i64)) ∧ Ext w w' := by
 have p0 := blk_alloc (blk_new w (.cells #[.int .i64 p.w, .int .i64 p.h, .slice a n c] 25)) (.cells #[.int .i64 vx, .int .i64 vy] 27)
 have q0 := blk_new (w.alloc (.cells #[.int .i64 p.w, .int .i64 p.h, .slice a n c] 25)) (.cells #[.int .i64 vx, .int .i64 vy] 27)
 have E0 := (Ext.alloc w (.cells #[.int .i64 p.w, .int .i64 p.h, .slice a n c] 25)).trans (Ext.alloc _ (.cells #[.int .i64 vx, .int .i64 vy] 27))
 simp only [World.size_alloc] at q0
 obtain ⟨B, hB⟩ : ∃ B, B = w.heap.size := ⟨_, rfl⟩
 rw [← hB] at p0 q0 ⊢
 have HB := Lib.hid hB
 have HN := Lib.hid hn
 have HV := Lib.hid hv
 clear hn hv
 have hown := World.ownsRow_made (base := B + 2) (e := 3) (size := 1) ((w.alloc (.cells #[.int .i64 p.w, .int .i64 p.h, .slice a n c] 25)).alloc (.cells #[.int .i64 vx, .int .i64 vy] 27)) #[] 0 (by simp; omega) (by simp) rfl
 have EA := Ext.alloc ((w.alloc (.cells #[.int .i64 p.w, .int .i64 p.h, .slice a n c] 25)).alloc (.cells #[.int .i64 vx, .int .i64 vy] 27)) (.cells #[] 3)
 have E1 := E0.trans EA
 have p1 := EA.blk p0
 have q1 := EA.blk q0
 simp only [World.size_alloc] at hown
 rw [← hB] at hown
 clear EA
 go_enter Tryz.func138, Tryz.ntmps138
 go_wp2_with fail
 try simp only [World.size_alloc]
 rw [← hB]
 generalize (((w.alloc (.cells #[.int .i64 p.w, .int .i64 p.h, .slice a n c] 25)).alloc (.cells #[.int .i64 vx, .int .i64 vy] 27)).alloc (.cells #[] 3)) = w1 at *
 have X1 := Lib.hid (And.intro p1 q1)
 have hwB : w.heap.size ≤ B := by omega
 clear p0 q0 p1 q1 E0 hB
 go_loopw [9, 10] (fun v j wr => ∃ J : Nat, J ≤ 8 ∧ j = .int .i64 J ∧ Ext w wr ∧ Hid (wr.heap[B]? = some (.cells #[.int .i64 p.w, .int .i64 p.h, .slice a n c] 25 (0, 0)) ∧ wr.heap[B + 1]? = some (.cells #[.int .i64 vx, .int .i64 vy] 27 (0, 0))) ∧ wr.ownsRow (B + 2) 3 1 v (8 * J) (((blkL p x y vx vy).take (8 * J)).map (Value.int .i64))) (fun _ j _ => 8 - (intOf j).toNat)
 case atStart => exact ⟨0, by omega, rfl, E1, X1, by simpa using hown⟩
 case round =>
  obtain ⟨J, hJ, rfl, EJ, XJ, oJ⟩ := hrel
  obtain ⟨wo, rfl⟩ : ∃ wo : World, wo = wr := ⟨_, rfl⟩
  by_cases hltJ : J < 8
  ·have hdJ : decide ((J : Int) < 8) = true := by simp; omega
   go_wp2_with fail
   go_loopw [9, 11] (fun v i wr2 => ∃ I : Nat, I ≤ 8 ∧ i = .int .i64 I ∧ Ext w wr2 ∧ Hid (wr2.heap[B]? = some (.cells #[.int .i64 p.w, .int .i64 p.h, .slice a n c] 25 (0, 0)) ∧ wr2.heap[B + 1]? = some (.cells #[.int .i64 vx, .int .i64 vy] 27 (0, 0))) ∧ wr2.ownsRow (B + 2) 3 1 v (8 * J + I) (((blkL p x y vx vy).take (8 * J + I)).map (Value.int .i64))) (fun _ i _ => 8 - (intOf i).toNat)
   case atStart => exact ⟨0, by omega, rfl, EJ, XJ, oJ⟩
   case round =>
    obtain ⟨I, hI, rfl, EI, XI, oI⟩ := hrel
    clear EJ oJ XJ
    by_cases hltI : I < 8
    ·have hdI : decide ((I : Int) < 8) = true := by simp; omega
     have Hsn := Lib.hid (blk_snoc p x y vx vy hltJ hltI)
     obtain ⟨-, k0, k1, k2, -⟩ := bx3 XI.out.1
     obtain ⟨-, g0, g1, -⟩ := bx2 XI.out.2
     go_wp2_with fail
     refine (l7Half_any p (2 * (x + (I : Int)) + vx) (2 * (y + (J : Int)) + vy) a c n _ HV.out HN.out (r.ext EI) (by omega) (by omega) (by omega) (by omega)).mono ?_
     rintro e w3 ⟨rfl, e3⟩
     have E3 := EI.trans e3
     have X3 := Lib.hid (And.intro (e3.blk XI.out.1) (e3.blk XI.out.2))
     have o3 := owns_ext oI e3
     have hs3 : B + 2 ≤ w3.heap.size := by have := lt_of_block X3.out.2; omega
     clear EI oI XI e3 k0 k1 k2 g0 g1
     go_wp2_with (at_builtin; refine wpList_app _ o3 hs3 _ rfl _ _ 23 rfl (.int .i64 0) 8 Tryz.underlying23 info_int rfl rfl rfl rfl (by omega) (by omega) ?_; intro v4 w4 own4 gr4 _)
     go_roundw
     case rel =>
      rw [← Hsn.out] at own4
      have hge := owns_ge o3
      exact ⟨I + 1, by omega, by go_num, Ext.grown E3 gr4 (fun k e => by have := hge k e; omega), Lib.hid ⟨blk_gr X3.out.1 gr4 (fun e => by have := hge _ e; omega), blk_gr X3.out.2 gr4 (fun e => by have := hge _ e; omega)⟩, own4⟩
     case measure => simp [intOf]; omega
    ·obtain rfl : I = 8 := by omega
     go_wp2
     go_roundw
     case rel => exact ⟨J + 1, by omega, by go_num, EI, XI, by rw [mul8]; exact oI⟩
     case measure => simp [intOf]; omega
  ·obtain rfl : J = 8 := by omega
   rw [List.take_of_length_le (by rw [blkL_len]; omega)] at oJ
   obtain ⟨a8, c8, rfl⟩ := owns_form oJ
   go_wp2
   go_ret
   exact ⟨_, _, rfl, owns_mono oJ (by omega), EJ⟩
end Go.Proofs.YtbnhaegidfbgbaaGreatDoor
namespace Go.Proofs.YtbnhaegidfbgbaaGreatDoor
open Go.RowKit
/-- A function's contract from its body, where the body holds a range over a function: walked as any other. -/
theorem calls_of_marks (n : Nat) {P : Program} {f : FuncId} {fn : Func} {c : Code} {args : Array Value} {w : World} {R : Ending → World → Prop}
 (hf : P.funcs[f]? = some fn) (hb : fn.body = some c)
 (h : c.wp P (bodyPostM Fence.wide n P fn R) { tmps := args ++ Array.replicate (fn.ntmps - args.size) undef, defers := [] } w) : Calls P f args w R :=
 callsIn_wide.1 (callsIn_of_wp_marks (n := n) hf hb trivial (wpIn_wide.2 h))
/-- What is turned at the return lies at or behind the loop's start. -/
theorem ext_putObj {a W : World} {D : Nat} (h : Ext a W) (hD : a.heap.size ≤ D) (o : Obj) : Ext a (W.putObj D o) := Ext.grown h (grownBy_putObj' W D o) (fun k e => by cases e; exact hD)
theorem blk_putObj {W : World} {b D : Nat} {o : Obj} (h : W.heap[b]? = some o) (hD : b ≠ D) (o' : Obj) : (W.putObj D o').heap[b]? = some o := (World.putObj_heap_other hD).trans h
def keepB (b : Nat) (W W' : World) : Prop := W'.heap[b]? = W.heap[b]?
theorem keepB.t {b : Nat} {A B C : World} (h : keepB b A B) (k : keepB b B C) : keepB b A C := k.trans h
theorem keepB.b {b n : Nat} (hb : b < n) (W : World) (l : Nat) (o o' : Obj) (hl : n ≤ l) (_ : W.heap[l]? = some o) (_ : o.isCells = false) (_ : o.isWalk = false) : keepB b W (W.putObj l o') := World.putObj_heap_other (by omega)
end Go.Proofs.YtbnhaegidfbgbaaGreatDoor
namespace Go.Proofs.YtbnhaegidfbgbaaGreatDoor
open Go.RowKit
set_option maxHeartbeats 400000
/-- Operation j has run too. -/
def updL (L : Nat → Bool) (j : Nat) : Nat → Bool := fun i => if i = j then true else L i
/-- What every operation must do. -/
structure ObOkL (P : Program) (ol : List Oper) (l : List Value) (df : List Deferred) (ds : List (Nat × Nat)) (anc : List (List Nat)) (V : Nat → (Nat → Value) → World → Prop) (G : (Nat → Bool) → World → Prop) (j : Nat) (o : Oper) : Prop where
 run : ∀ L xs w, G L w → L j = false → (∀ i, (anc.getD j []).contains i = true → L i = true) → (∀ i, (anc.getD i []).contains j = true → L i = false) → (∀ i, (anc.getD j []).contains i = true → V i xs w) → (∀ i d, (anc.getD i []).contains j = true → (ol.toArray[i]?).bind (·.dst) = some d → xs i = l.getD d undef) →
  OpGoal P ol.toArray o ⟨(patchS 0 l ds xs).toArray, df⟩ w (fun v w' => V j (upd xs j v) w' ∧ G (updL L j) w' ∧ ∀ i, i < ol.length → i ≠ j → (anc.getD i []).contains j = false → V i xs w → V i (upd xs j v) w')
theorem any_invL {P : Program} {ol : List Oper} {Q : Exit → Act → World → Prop} {l : List Value} {df : List Deferred} {w0 : World}
 (ds : List (Nat × Nat)) (anc : List (List Nat)) (V : Nat → (Nat → Value) → World → Prop) (G : (Nat → Bool) → World → Prop)
 (hds : dsOk ol ds l.length = true) (hanc : ancOk ol anc = true) (h0 : G (fun _ => false) w0)
 (hop : ∀ j o, ol[j]? = some o → ObOkL P ol l df ds anc V G j o)
 (hend : ∀ xs w', (∀ i, i < ol.length → V i xs w') → (∃ L, (∀ i, i < ol.length → L i = true) ∧ G L w') → Q .normal ⟨(patchS 0 l ds xs).toArray, df⟩ w') :
 wpAny P .any ol.toArray Q ol.length (Array.replicate ol.length false) ⟨l.toArray, df⟩ w0 := by
 simp only [dsOk, Bool.and_eq_true, List.all_eq_true, decide_eq_true_eq, beq_iff_eq, List.mem_range] at hds
 obtain ⟨⟨⟨ha, hd1⟩, hnd⟩, hd2⟩ := hds
 simp only [ancOk, Bool.and_eq_true, List.all_eq_true, beq_iff_eq, List.mem_range] at hanc
 obtain ⟨hal, hanc⟩ := hanc
 -- the states that are met
 have key : ∀ (fuel : Nat) (listed : Array Bool) (xs : Nat → Value) (w : World), listed.size = ol.length → listed.toList.count true + fuel = ol.length →
  (∀ i, listed.getD i false = true → ∀ j, (anc.getD i []).contains j = true → listed.getD j false = true) →
  (∀ i, i < ol.length → listed.getD i false = true → V i xs w) → G (fun i => listed.getD i false) w →
  (∀ i d, listed.getD i false = false → (ol.toArray[i]?).bind (·.dst) = some d → xs i = l.getD d undef) →
  wpAny P .any ol.toArray Q fuel listed ⟨(patchS 0 l ds xs).toArray, df⟩ w := by
  intro fuel
  have full : ∀ (listed : Array Bool), listed.size = ol.length → listed.toList.count true = ol.length → ∀ i, i < ol.length → listed.getD i false = true := by
   intro listed hs hc i hi
   have h1 : ∀ b ∈ listed.toList, true = b := List.count_eq_length.1 (by rw [hc]; simp [hs])
   have h2 := h1 listed[i] (by simp)
   simp [Array.getD, hs, hi, ← h2]
  have none_ready : ∀ (listed : Array Bool), listed.size = ol.length → listed.toList.count true < ol.length → Region.ready .any ol.toArray listed ≠ [] := by
   intro listed hs hc hr
   -- the least that is not listed
   have hex : ∃ i, i < ol.length ∧ listed.getD i false = false := by
    refine Classical.byContradiction fun hno => ?_
    have : listed.toList.count true = ol.length := by
     rw [← hs, ← Array.length_toList, List.count_eq_length]
     intro b hb
     obtain ⟨i, hi, rfl⟩ := List.getElem_of_mem hb
     simp at hi
     refine Classical.byContradiction fun hne => hno ⟨i, by omega, ?_⟩
     simp [Array.getD, hi]
     simpa using hne
    omega
   obtain ⟨i, ⟨hi, hli⟩, hmin⟩ := exists_least hex
   have : i ∈ Region.ready .any ol.toArray listed := by
    rw [mem_ready]
    refine ⟨?_, ol[i], by simp [hi], fun e he hb => ?_⟩
    ·simp [Array.getD, hs, hi] at hli ⊢; exact hli
    ·have h1 := (hanc i hi)
     simp only [List.getElem?_eq_getElem hi, Bool.and_eq_true, List.all_eq_true, decide_eq_true_eq] at h1
     have h2 := h1.1 e.on (List.mem_map.2 ⟨e, List.mem_filter.2 ⟨by simpa using he, hb⟩, rfl⟩)
     cases hle : listed.getD e.on false with
     | true => rfl
     | false => have := hmin e.on ⟨by omega, hle⟩; omega
   rw [hr] at this
   cases this
  induction fuel with
  | zero =>
   intro listed xs w hs hc hcl hV hG _
   have hf := full listed hs (by omega)
   refine ⟨?_, ?_⟩
   ·refine List.eq_nil_iff_forall_not_mem.2 fun i hi => ?_
    obtain ⟨h1, o, h2, -⟩ := mem_ready.1 hi
    have hlt : i < ol.length := by
     have := (Array.getElem?_eq_some_iff.1 h2).1
     simpa using this
    have := hf i hlt
    simp [Array.getD, hs, hlt] at this h1
    rw [this] at h1
    cases h1
   ·exact hend xs w (fun i hi => hV i hi (hf i hi)) ⟨_, hf, hG⟩
  | succ fuel ih =>
   intro listed xs w hs hc hcl hV hG hI
   refine ⟨fun hr => absurd hr (none_ready listed hs (by omega)), fun i hi => ?_⟩
   obtain ⟨h1, o, h2, h3⟩ := mem_ready.1 hi
   have hlt : i < ol.length := by
    have := (Array.getElem?_eq_some_iff.1 h2).1
    simpa using this
   have h2' : ol[i]? = some o := by simpa using h2
   have hun : listed.getD i false = false := by simp [Array.getD, hs, hlt] at h1 ⊢; exact h1
   have hA := hanc i hlt
   rw [h2'] at hA
   simp only [Bool.and_eq_true, List.all_eq_true, decide_eq_true_eq, Bool.or_eq_true, List.any_eq_true] at hA
   have dirL : ∀ d ∈ direct o, listed.getD d false = true := by
    intro d hd
    obtain ⟨e, he, rfl⟩ := List.mem_map.1 hd
    obtain ⟨he1, he2⟩ := List.mem_filter.1 he
    exact h3 e (by simpa using he1) he2
   have ancL : ∀ j, (anc.getD i []).contains j = true → listed.getD j false = true := by
    intro j hj
    rcases hA.2 j (by simpa using hj) with h | ⟨d, hd, h⟩
    ·exact dirL j (by simpa using h)
    ·exact hcl d (dirL d hd) j h
   have ltL : ∀ j, listed.getD j false = true → j < ol.length := by
    intro j hj
    refine Classical.byContradiction fun hge => ?_
    simp [Array.getD, show ¬ j < listed.size by omega] at hj
   have goal := (hop i o h2').run (fun i => listed.getD i false) xs w hG hun ancL (fun j hj => by
    cases hc2 : listed.getD j false with
    | false => rfl
    | true => have := hcl j hc2 i hj; rw [hun] at this; cases this) (fun j hj => hV j (ltL j (ancL j hj)) (ancL j hj)) (fun j d hj hd => hI j d (by
    cases hc2 : listed.getD j false with
    | false => rfl
    | true => have := hcl j hc2 i hj; rw [hun] at this; cases this) hd)
   refine wpOp_of_goal h2 goal fun v w' hp => ?_
   obtain ⟨hp1, hp2, hp3⟩ := hp
   have hcount : (listed.setIfInBounds i true).toList.count true = listed.toList.count true + 1 := by
    rw [Array.toList_setIfInBounds, List.count_set (by simp; omega)]
    have : listed.toList[i]'(by simp; omega) = false := by
     simp [Array.getD, hs, hlt] at hun
     simpa using hun
    simp [this]
   have hput : (⟨(patchS 0 l ds xs).toArray, df⟩ : Act).put o.dst v = ⟨(patchS 0 l ds (upd xs i v)).toArray, df⟩ := by
    cases hd : o.dst with
    | none =>
     have hni : i ∉ ds.map (·.2) := by
      intro hmem
      obtain ⟨x, hx, rfl⟩ := List.mem_map.1 hmem
      have := (hd1 x hx).2
      rw [h2'] at this
      simp [hd] at this
     have rest : ∀ (q : Nat) (l : List Value) (ds : List (Nat × Nat)), i ∉ ds.map (·.2) → patchS q l ds (upd xs i v) = patchS q l ds xs := by
      intro q l
      induction l generalizing q with
      | nil => intro ds _; simp [patchS]
      | cons u l ih2 =>
       intro ds hj
       cases ds with
       | nil => simp [patchS]
       | cons e ds =>
        obtain ⟨e1, e2⟩ := e
        simp only [patchS]
        simp at hj
        have : upd xs i v e2 = xs e2 := by unfold upd; rw [if_neg (fun h => hj.1 h.symm)]
        rw [this, ih2 (q + 1) ds (by simpa using hj.2), ih2 (q + 1) ((e1, e2) :: ds) (by simpa using hj)]
     rw [rest _ _ _ hni]
     rfl
    | some d =>
     have hmem : (d, i) ∈ ds := by
      have := hd2 i hlt
      rw [h2'] at this
      simpa [hd] using this
     have h5 := patchS_set xs v l 0 ds d i ha (by simpa using hnd) hmem
     simp only [Nat.sub_zero] at h5
     rw [← h5]
     simp [Act.put]
   rw [hput]
   refine ih _ _ _ (by simpa using hs) (by rw [hcount]; omega) ?_ ?_ (by
    have e : updL (fun i => listed.getD i false) i = fun q => (listed.setIfInBounds i true).getD q false := by
     funext q
     unfold updL
     by_cases hqi : q = i
     ·subst hqi
      rw [if_pos rfl, Array.getD_eq_getD_getElem?, Array.getElem?_setIfInBounds, if_pos rfl, if_pos (by omega)]
      rfl
     ·rw [if_neg hqi, getD_set_ne false (Ne.symm hqi)]
    rw [← e]
    exact hp2) (fun q d hq hd => ?_)
   rotate_right
   ·by_cases hqi : q = i
    ·subst hqi
     rw [Array.getD_eq_getD_getElem?, Array.getElem?_setIfInBounds, if_pos rfl, if_pos (by omega)] at hq
     simp at hq
    ·rw [getD_set_ne false (Ne.symm hqi)] at hq
     rw [show upd xs i v q = xs q by simp [upd, hqi]]
     exact hI q d hq hd
   ·intro q hq j hj
    by_cases hqi : q = i
    ·subst hqi
     exact getD_set_true (ancL j hj)
    ·rw [getD_set_ne false (Ne.symm hqi)] at hq
     exact getD_set_true (hcl q hq j hj)
   ·intro q hq hl
    by_cases hqi : q = i
    ·subst hqi; exact hp1
    ·rw [getD_set_ne false (Ne.symm hqi)] at hl
     refine hp3 q hq hqi ?_ (hV q hq hl)
     cases hc2 : (anc.getD q []).contains i with
     | false => rfl
     | true => have := hcl q hl i hc2; rw [hun] at this; cases this
 have init := key ol.length (Array.replicate ol.length false) (fun i => (((ol[i]?).bind (·.dst)).map (fun d => l.getD d undef)).getD undef) w0 (by simp) (by simp [List.count_replicate]) (fun i hi => by simp [Array.getD] at hi) (fun i _ hi => by simp [Array.getD] at hi) (by
  have e : (fun i => (Array.replicate ol.length false).getD i false) = fun _ => false := by
   funext i
   simp [Array.getD]
  rw [e]
  exact h0) (fun i d _ hd => by
  have hd' : (ol[i]?).bind (·.dst) = some d := by simpa using hd
  simp [hd'])
 have hsame := patchS_same (fun i => (((ol[i]?).bind (·.dst)).map (fun d => l.getD d undef)).getD undef) l 0 ds ha (fun x hx _ => by
  have := (hd1 x hx).2
  rw [this]
  simp)
 rw [hsame] at init
 simpa using init
/-- What operation j must do: own value v, what is kept of the others. -/
def ObL (P : Program) (n : Nat) (ops : Array Oper) (l : List Value) (df : List Deferred) (ds : List (Nat × Nat)) (anc : List (List Nat)) (W : Nat → Value → (Nat → Value) → World → Prop) (G : (Nat → Bool) → World → Prop) (j : Nat) (o : Oper) : Prop :=
 ∀ L xs w, G L w → L j = false → (∀ i, (anc.getD j []).contains i = true → L i = true) → (∀ i, (anc.getD i []).contains j = true → L i = false) → (∀ i, (anc.getD j []).contains i = true → W i (xs i) (mask anc i xs) w) → (∀ i d, (anc.getD i []).contains j = true → (ops[i]?).bind (·.dst) = some d → xs i = l.getD d undef) →
  OpGoal P ops o ⟨(patchS 0 l ds xs).toArray, df⟩ w (fun v w' => W j v (mask anc j xs) w' ∧ G (updL L j) w' ∧ ∀ i, i < n → i ≠ j → (anc.getD i []).contains j = false → ∀ own ys, W i own ys w → W i own ys w')
def ObsL (P : Program) (n : Nat) (ops : Array Oper) (l : List Value) (df : List Deferred) (ds : List (Nat × Nat)) (anc : List (List Nat)) (W : Nat → Value → (Nat → Value) → World → Prop) (G : (Nat → Bool) → World → Prop) : Nat → List Oper → Prop
 | _, [] => True
 | j, o :: os => ObL P n ops l df ds anc W G j o ∧ ObsL P n ops l df ds anc W G (j + 1) os
theorem ObsL.get {P : Program} {n : Nat} {ops : Array Oper} {l : List Value} {df : List Deferred} {ds : List (Nat × Nat)} {anc : List (List Nat)} {W : Nat → Value → (Nat → Value) → World → Prop} {G : (Nat → Bool) → World → Prop} :
 ∀ {os : List Oper} {p : Nat}, ObsL P n ops l df ds anc W G p os → ∀ j o, os[j]? = some o → ObL P n ops l df ds anc W G (p + j) o
 | [], _, _, j, o, h => by simp at h
 | u :: os, p, h, j, o, hj => by
  cases j with
  | zero => simp at hj; subst hj; exact h.1
  | succ j =>
   simp at hj
   have := h.2.get j o hj
   rwa [show p + 1 + j = p + (j + 1) by omega] at this
theorem any_inv2L {P : Program} {ol : List Oper} {Q : Exit → Act → World → Prop} {l : List Value} {df : List Deferred} {w0 : World}
 (ds : List (Nat × Nat)) (anc : List (List Nat)) (W : Nat → Value → (Nat → Value) → World → Prop) (G : (Nat → Bool) → World → Prop)
 (hds : dsOk ol ds l.length = true) (hanc : ancOk ol anc = true) (hself : (List.range ol.length).all (fun i => !(anc.getD i []).contains i) = true) (h0 : G (fun _ => false) w0)
 (hop : ObsL P ol.length ol.toArray l df ds anc W G 0 ol)
 (hend : ∀ xs w', (∀ i, i < ol.length → W i (xs i) (mask anc i xs) w') → (∃ L, (∀ i, i < ol.length → L i = true) ∧ G L w') → Q .normal ⟨(patchS 0 l ds xs).toArray, df⟩ w') :
 wpAny P .any ol.toArray Q ol.length (Array.replicate ol.length false) ⟨l.toArray, df⟩ w0 := by
 refine any_invL ds anc (fun i xs w => W i (xs i) (mask anc i xs) w) G hds hanc h0 (fun j o hj => ⟨fun L xs w hG hl ha hb hD hI => ?_⟩) hend
 have h1 := hop.get j o hj
 rw [Nat.zero_add] at h1
 have hjl : j < ol.length := (List.getElem?_eq_some_iff.1 hj).1
 have hs : (anc.getD j []).contains j = false := by
  simp only [List.all_eq_true, List.mem_range] at hself
  simpa using hself j hjl
 have h2 := h1 L xs w hG hl ha hb hD hI
 intro Qo K hK hQo
 refine h2 Qo K (fun v w' ⟨p1, p2, p3⟩ => hK v w' ⟨?_, p2, fun i hi hne hc hV => ?_⟩) hQo
 ·rw [mask_upd hs, show upd xs j v j = v by simp [upd]]; exact p1
 ·rw [mask_upd hc, show upd xs j v i = xs i by simp [upd, hne]]; exact p3 i hi hne hc _ _ hV
theorem wp_region_invL {P : Program} {id : Nat} {ol : List Oper} {Q : Exit → Act → World → Prop} {l : List Value} {df : List Deferred} {w0 : World}
 (hm : P.follows .mixedOrders = true) (ds : List (Nat × Nat)) (anc : List (List Nat)) (W : Nat → Value → (Nat → Value) → World → Prop) (G : (Nat → Bool) → World → Prop)
 (hds : dsOk ol ds l.length = true) (hanc : ancOk ol anc = true) (hself : (List.range ol.length).all (fun i => !(anc.getD i []).contains i) = true) (h0 : G (fun _ => false) w0.drew)
 (hop : ObsL P ol.length ol.toArray l df ds anc W G 0 ol)
 (hend : ∀ xs w', (∀ i, i < ol.length → W i (xs i) (mask anc i xs) w') → (∃ L, (∀ i, i < ol.length → L i = true) ∧ G L w') → Q .normal ⟨(patchS 0 l ds xs).toArray, df⟩ w') :
 (Code.region id ol.toArray true).wp P Q ⟨l.toArray, df⟩ w0 := by
 refine wp_region_any hm ?_
 rw [List.size_toArray]
 exact any_inv2L ds anc W G hds hanc hself h0 hop hend
/-! ### Within a round -/
/-- Left by its end alone. -/
def OnlyNormal (K : Act → World → Prop) : Exit → Act → World → Prop
 | .normal, a, w => K a w
 | _, _, _ => False
theorem rowsIn_wide {n l : Nat} {P : Program} {row : String} {args : Array Value} {w : World} {R : Value → World → Prop} (h : Rows P row args w R) : RowsIn (Fence.wide.inRound l) n P row args w R :=
 fun c cs _ => let ⟨v, w', r, s⟩ := h c cs; ⟨v, w', r, by rw [fenced_inRound]; exact stepsIn_wide.2 s⟩
theorem wpIn_of_wp {P : Program} {o : Oper} {a : Act} {w : World} {K K0 : Act → World → Prop} {Q : Exit → Act → World → Prop} (l n : Nat) (hnd : ∀ c, o.op ≠ .defer c) (h : o.wp P a w K (OnlyNormal K0)) : o.wpIn (Fence.wide.inRound l) n P a w K Q := by
 refine ⟨fun _ _ => trivial, ?_⟩
 rw [Oper.semAt_eq _ _ _ hnd]
 unfold Oper.wp at h
 generalize (execOp a.eval o).run P w = r at *
 have hl : ¬ LetsOut (OnlyNormal K0) := by rintro ⟨_, _, h⟩; exact h
 cases r with
 | ok x w' =>
  cases x with
  | enter f args =>
   refine ⟨fun hd => by simp [Fence.wide] at hd, CallsIn.inRound l (callsIn_wide.2 (Calls.mono h fun e w'' he => ?_))⟩
   cases e with
   | returned v => exact he
   | panicked c => exact he.elim
   | outgrown => exact (hl he).elim
  | row row args => exact ⟨fun hd => by simp [Fence.wide] at hd, rowsIn_wide h⟩
  | _ => first | exact h | exact h.elim
 | halt x w' =>
  cases x <;> exact h.elim
theorem anyIn_of_any {P : Program} {ops : Array Oper} {Q : Exit → Act → World → Prop} (l n : Nat) (hnd : ∀ (i : Nat) (o : Oper), ops[i]? = some o → ∀ c, o.op ≠ .defer c) :
 ∀ (fuel : Nat) (listed : Array Bool) (a : Act) (w : World), wpAny P .any ops (OnlyNormal (Q .normal)) fuel listed a w → wpAnyIn (Fence.wide.inRound l) n P .any ops Q fuel listed a w := by
 intro fuel
 induction fuel with
 | zero => intro listed a w h; exact h
 | succ fuel ih =>
  intro listed a w h
  refine ⟨h.1, fun i hi => ?_⟩
  have h2 := h.2 i hi
  unfold wpOp at h2
  unfold wpOpIn
  cases ho : ops[i]? with
  | none => rw [ho] at h2; exact ih _ _ _ h2
  | some o =>
   rw [ho] at h2
   simp only at h2 ⊢
   by_cases hw : Region.wanted o (yielded ops a.tmps) = true
   ·rw [if_pos hw] at h2 ⊢
    rcases h2 with h2 | ⟨-, _, _, h3⟩
    ·exact Oper.wpIn_mono (fun a w => ih _ a w) (wpIn_of_wp l n (hnd i o ho) h2)
    ·exact h3.elim
   ·rw [if_neg hw] at h2 ⊢
    exact ⟨fun _ _ => trivial, ih _ _ _ h2⟩
/-- No operation of the list is a deferred call. -/
def noDefer (ol : List Oper) : Bool := ol.all fun o => match o.op with | .defer _ => false | _ => true
theorem noDefer_get {ol : List Oper} (h : noDefer ol = true) (i : Nat) (o : Oper) (hi : ol.toArray[i]? = some o) : ∀ c, o.op ≠ .defer c := by
 intro c hc
 unfold noDefer at h
 rw [List.all_eq_true] at h
 have hm : o ∈ ol := by
  have : ol[i]? = some o := by simpa using hi
  exact List.mem_of_getElem? this
 have := h o hm
 rw [hc] at this
 cases this
theorem wpIn_region_invL {P : Program} {id rl rn : Nat} {ol : List Oper} {Q : Exit → Act → World → Prop} {l : List Value} {df : List Deferred} {w0 : World}
 (hm : P.follows .mixedOrders = true) (hnd : noDefer ol = true) (ds : List (Nat × Nat)) (anc : List (List Nat)) (W : Nat → Value → (Nat → Value) → World → Prop) (G : (Nat → Bool) → World → Prop)
 (hds : dsOk ol ds l.length = true) (hanc : ancOk ol anc = true) (hself : (List.range ol.length).all (fun i => !(anc.getD i []).contains i) = true) (h0 : G (fun _ => false) w0.drew)
 (hop : ObsL P ol.length ol.toArray l df ds anc W G 0 ol)
 (hend : ∀ xs w', (∀ i, i < ol.length → W i (xs i) (mask anc i xs) w') → (∃ L, (∀ i, i < ol.length → L i = true) ∧ G L w') → Q .normal ⟨(patchS 0 l ds xs).toArray, df⟩ w') :
 (Code.region id ol.toArray true).wpIn (Fence.wide.inRound rl) rn P Q ⟨l.toArray, df⟩ w0 := by
 refine wpIn_region_any hm ?_
 rw [List.size_toArray]
 exact anyIn_of_any rl rn (noDefer_get hnd) _ _ _ _ (any_inv2L ds anc W G hds hanc hself h0 hop hend)
end Go.Proofs.YtbnhaegidfbgbaaGreatDoor
namespace Go.Proofs.YtbnhaegidfbgbaaGreatDoor
open Go.RowKit
set_option maxHeartbeats 400000
/-- The first k of xs, behind them what ys has. -/
def mixI (xs ys : List Int) (k : Nat) : List Int := xs.take k ++ ys.drop k
theorem mixI_zero (xs ys : List Int) : mixI xs ys 0 = ys := by simp [mixI]
theorem mixI_len (xs ys : List Int) (k n : Nat) (h1 : xs.length = n) (h2 : ys.length = n) : (mixI xs ys k).length = n := by simp [mixI]; omega
theorem mixI_all (xs ys : List Int) (n : Nat) (h1 : xs.length = n) (h2 : ys.length = n) : mixI xs ys n = xs := by
 unfold mixI
 rw [List.take_of_length_le (by omega), List.drop_of_length_le (by omega), List.append_nil]
theorem mixI_set (xs ys : List Int) (k n : Nat) (h1 : xs.length = n) (h2 : ys.length = n) (h : k < n) : (mixI xs ys k).set k (nth xs k) = mixI xs ys (k + 1) := by
 have hl : (xs.take k).length = k := by simp; omega
 have hk' : k < ys.length := by omega
 have hk : k < xs.length := by omega
 unfold mixI
 rw [List.drop_eq_getElem_cons hk', List.set_append_right _ _ (by omega), hl, Nat.sub_self, List.set_cons_zero, List.take_succ_eq_append_getElem hk, nth_eq _ _ hk, List.append_assoc]
 rfl
theorem blk_set2 {w : World} {b : Nat} {x y x' y' : Value} {T : TypeId} (h : w.heap[b]? = some (.cells #[x, y] T (0, 0))) : ((w.setCell ⟨b, 0, none⟩ x').setCell ⟨b, 1, none⟩ y').heap[b]? = some (.cells #[x', y'] T (0, 0)) := by
 have h1 := heap_setCell_same w b 0 _ _ x' h
 have h2 := heap_setCell_same _ b 1 _ _ y' h1
 simpa using h2
end Go.Proofs.YtbnhaegidfbgbaaGreatDoor
