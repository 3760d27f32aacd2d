/- A sample of a picture, a half sample, the samples that predict a macroblock: both sides. | Ranges over functions: entering and leaving a function that holds one. | A region whose operations may come in any order, the invariant told which of them have run; the same within a round of a range over a function. -/
import Derived.Test.YtbnhaegidfbgbaaDoorQf4
import Derived.Deep.Cut
import Derived.RangeFuncNested
import Derived.RangeFuncBound
import Derived.RangeFuncCalls
import Derived.RangeFuncLeaves
import Derived.Shelf.Abstract
import Derived.Shelf.RegionOpen
import Derived.WalkKit
import Derived.OwnWalkIn
import Derived.TacticsInMore
import Derived.LoopNIn
import Derived.LoopIn
import Derived.OrdersIn
namespace Go.Proofs.YtbnhaegidfbgbaaDoor
open Go.RowKit
set_option maxHeartbeats 1000000
/-- The value of a picture. -/
def picV (W H : Int) (a : Option Addr) (n c : Nat) : Value := .agg #[.int .i64 W, .int .i64 H, .slice a n c]
theorem ret_intH {k : IntKind} {a b : Int} (h : Hid (a = b)) : Ending.returned (.int k a) = .returned (.int k b) := by rw [h.out]
set_option maxRecDepth 100000 in
theorem at_any (p : Pic) (x y : Int) (a : Option Addr) (c n : Nat) (w : World) (hv : p.valid) (hn : n = p.px.length) (r : Sl w a n (p.px.map (Value.int .i64))) :
 Calls Tryd.prog 91 #[.agg #[.int .i64 p.w, .int .i64 p.h, .slice a n c], .int .i64 x, .int .i64 y] w fun e w' => e = .returned (.int .i64 (pat p x y)) ∧ Ext w w' := by
 have hi := pat_idx hv x y
 have hw := hv.1
 have hh := hv.2.1
 obtain ⟨w1, w2, -⟩ := hw
 obtain ⟨h1, h2, -⟩ := hh
 have Hp := Lib.hid (show pat p x y = nth p.px (clipI y 0 (p.h - 1) * p.w + clipI x 0 (p.w - 1)).toNat from rfl)
 have c1 := clipI_lo (n := y) (show (0 : Int) ≤ p.h - 1 by omega)
 have c2 := clipI_lo (n := x) (show (0 : Int) ≤ p.w - 1 by omega)
 obtain ⟨cy, hcy⟩ : ∃ cy, cy = clipI y 0 (p.h - 1) := ⟨_, rfl⟩
 obtain ⟨cx, hcx⟩ : ∃ cx, cx = clipI x 0 (p.w - 1) := ⟨_, rfl⟩
 rw [← hcy] at hi c1 Hp
 rw [← hcx] at hi c2 Hp
 have Hcy := Lib.hid hcy
 have Hcx := Lib.hid hcx
 clear hcy hcx
 have hk : (cy * p.w + cx).toNat < n := by omega
 obtain ⟨k, hk2⟩ : ∃ k : Nat, cy * p.w + cx = (k : Int) := ⟨(cy * p.w + cx).toNat, by omega⟩
 rw [hk2] at hi hk
 rw [hk2, Int.toNat_natCast] at Hp
 rw [Int.toNat_natCast] at hk
 have Hk := Lib.hid hk2
 clear hk2
 obtain ⟨b, off, rfl, hc⟩ := r.int hk
 have Hc := Lib.hid hc
 have p0 := blk_new w (.cells #[.int .i64 p.w, .int .i64 p.h, .slice (some ⟨b, off, none⟩) n c] 25)
 have E0 := Ext.alloc w (.cells #[.int .i64 p.w, .int .i64 p.h, .slice (some ⟨b, off, none⟩) n c] 25)
 have HN := Lib.hid hn
 obtain ⟨B, hB⟩ : ∃ B, B = w.heap.size := ⟨_, rfl⟩
 rw [← hB] at p0
 have HB := Lib.hid hB
 clear hn r hc hv
 go_enter Tryd.func91, Tryd.ntmps91
 go_wp2_with fail
 rw [← hB]
 clear hB
 generalize w.alloc (.cells #[.int .i64 p.w, .int .i64 p.h, .slice (some ⟨b, off, none⟩) n c] 25) = w0 at *
 obtain ⟨pw, ph, px⟩ := p
 simp only at *
 refine wp_region_inv2 (by kernel_rfl) [(6, 18), (7, 0), (8, 1), (9, 2), (10, 3), (11, 4), (12, 5), (13, 6), (14, 7), (15, 8), (16, 9), (17, 10), (18, 11), (19, 12), (20, 13), (21, 14), (22, 15), (23, 16), (24, 17)] [[], [0], [], [], [3], [3, 4], [2, 3, 4, 5], [], [7], [2, 3, 4, 5, 6, 7, 8], [], [], [11], [11, 12], [2, 3, 4, 5, 6, 10, 11, 12, 13], [2, 3, 4, 5, 6, 7, 8, 9, 10, 11, 12, 13, 14], [0, 1, 2, 3, 4, 5, 6, 7, 8, 9, 10, 11, 12, 13, 14, 15], [0, 1, 2, 3, 4, 5, 6, 7, 8, 9, 10, 11, 12, 13, 14, 15, 16], [0, 1, 2, 3, 4, 5, 6, 7, 8, 9, 10, 11, 12, 13, 14, 15, 16, 17]] (fun i own ys wx => match i with | 0 => own = .pointer (some ⟨B, 2, none⟩) | 1 => own = .slice (some ⟨b, off, none⟩) n c | 2 => own = .int .i64 y | 3 => own = .pointer (some ⟨B, 1, none⟩) | 4 => own = .int .i64 ph | 5 => own = .int .i64 (ph - 1) | 6 => own = .int .i64 cy | 7 => own = .pointer (some ⟨B, 0, none⟩) | 8 => own = .int .i64 pw | 9 => own = .int .i64 (cy * pw) | 10 => own = .int .i64 x | 11 => own = .pointer (some ⟨B, 0, none⟩) | 12 => own = .int .i64 pw | 13 => own = .int .i64 (pw - 1) | 14 => own = .int .i64 cx | 15 => own = .int .i64 (k : Nat) | 16 => own = .pointer (some ⟨b, off + k, none⟩) | 17 => own = .int .i64 (nth px k) | 18 => own = .int .i64 (nth px k) | _ => True) (fun kx wx => Ext w0 wx) (by kernel_rfl) (by kernel_rfl) (by kernel_rfl) ?g0_r1 ?gop_r1 ?gend_r1
 case g0_r1 => exact Ext.drewN _ 1
 case gop_r1 =>
  refine ⟨?_, ?_, ?_, ?_, ?_, ?_, ?_, ?_, ?_, ?_, ?_, ?_, ?_, ?_, ?_, ?_, ?_, ?_, ?_, trivial⟩
  ·intro kx xs wx hk hG hD hI Qo Kx hK hQo
   clear hD hI
   simp only [patchS, Nat.reduceAdd, Nat.reduceEqDiff, ↓reduceIte] at hQo ⊢
   go_wp2
   exact hK.out _ _ ⟨rfl, hG, fun _ _ _ _ _ _ h => h⟩
  ·intro kx xs wx hk hG hD hI Qo Kx hK hQo
   have d0 : (xs 0) = .pointer (some ⟨B, 2, none⟩) := hD 0 rfl
   clear hD hI
   simp only [patchS, Nat.reduceAdd, Nat.reduceEqDiff, ↓reduceIte] at hQo ⊢
   generalize xs 0 = y0 at *
   subst d0
   obtain ⟨-, k0, k1, k2, -⟩ := bx3 (hG.blk p0)
   go_wp2
   exact hK.out _ _ ⟨rfl, hG, fun _ _ _ _ _ _ h => h⟩
  ·intro kx xs wx hk hG hD hI Qo Kx hK hQo
   clear hD hI
   simp only [patchS, Nat.reduceAdd, Nat.reduceEqDiff, ↓reduceIte] at hQo ⊢
   go_wp2
   exact hK.out _ _ ⟨rfl, hG, fun _ _ _ _ _ _ h => h⟩
  ·intro kx xs wx hk hG hD hI Qo Kx hK hQo
   clear hD hI
   simp only [patchS, Nat.reduceAdd, Nat.reduceEqDiff, ↓reduceIte] at hQo ⊢
   go_wp2
   exact hK.out _ _ ⟨rfl, hG, fun _ _ _ _ _ _ h => h⟩
  ·intro kx xs wx hk hG hD hI Qo Kx hK hQo
   have d3 : (xs 3) = .pointer (some ⟨B, 1, none⟩) := hD 3 rfl
   clear hD hI
   simp only [patchS, Nat.reduceAdd, Nat.reduceEqDiff, ↓reduceIte] at hQo ⊢
   generalize xs 3 = y3 at *
   subst d3
   obtain ⟨-, k0, k1, k2, -⟩ := bx3 (hG.blk p0)
   go_wp2
   exact hK.out _ _ ⟨rfl, hG, fun _ _ _ _ _ _ h => h⟩
  ·intro kx xs wx hk hG hD hI Qo Kx hK hQo
   have d4 : (xs 4) = .int .i64 ph := hD 4 rfl
   clear hD hI
   simp only [patchS, Nat.reduceAdd, Nat.reduceEqDiff, ↓reduceIte] at hQo ⊢
   generalize xs 4 = y4 at *
   subst d4
   go_wp2
   exact hK.out _ _ ⟨rfl, hG, fun _ _ _ _ _ _ h => h⟩
  ·intro kx xs wx hk hG hD hI Qo Kx hK hQo
   have d2 : (xs 2) = .int .i64 y := hD 2 rfl
   have d5 : (xs 5) = .int .i64 (ph - 1) := hD 5 rfl
   clear hD hI
   simp only [patchS, Nat.reduceAdd, Nat.reduceEqDiff, ↓reduceIte] at hQo ⊢
   generalize xs 2 = y2 at *
   generalize xs 5 = y5 at *
   subst d2 d5
   go_wp2_with fail
   refine (clamp_any _ _ _ _ (by omega)).mono ?_
   rintro e w2 ⟨rfl, rfl⟩
   rw [← Hcy.out]
   go_wp2
   exact hK.out _ _ ⟨rfl, hG, fun _ _ _ _ _ _ h => h⟩
  ·intro kx xs wx hk hG hD hI Qo Kx hK hQo
   clear hD hI
   simp only [patchS, Nat.reduceAdd, Nat.reduceEqDiff, ↓reduceIte] at hQo ⊢
   go_wp2
   exact hK.out _ _ ⟨rfl, hG, fun _ _ _ _ _ _ h => h⟩
  ·intro kx xs wx hk hG hD hI Qo Kx hK hQo
   have d7 : (xs 7) = .pointer (some ⟨B, 0, none⟩) := hD 7 rfl
   clear hD hI
   simp only [patchS, Nat.reduceAdd, Nat.reduceEqDiff, ↓reduceIte] at hQo ⊢
   generalize xs 7 = y7 at *
   subst d7
   obtain ⟨-, k0, k1, k2, -⟩ := bx3 (hG.blk p0)
   go_wp2
   exact hK.out _ _ ⟨rfl, hG, fun _ _ _ _ _ _ h => h⟩
  ·intro kx xs wx hk hG hD hI Qo Kx hK hQo
   have d6 : (xs 6) = .int .i64 cy := hD 6 rfl
   have d8 : (xs 8) = .int .i64 pw := hD 8 rfl
   clear hD hI
   simp only [patchS, Nat.reduceAdd, Nat.reduceEqDiff, ↓reduceIte] at hQo ⊢
   generalize xs 6 = y6 at *
   generalize xs 8 = y8 at *
   subst d6 d8
   go_wp2
   exact hK.out _ _ ⟨rfl, hG, fun _ _ _ _ _ _ h => h⟩
  ·intro kx xs wx hk hG hD hI Qo Kx hK hQo
   clear hD hI
   simp only [patchS, Nat.reduceAdd, Nat.reduceEqDiff, ↓reduceIte] at hQo ⊢
   go_wp2
   exact hK.out _ _ ⟨rfl, hG, fun _ _ _ _ _ _ h => h⟩
  ·intro kx xs wx hk hG hD hI Qo Kx hK hQo
   clear hD hI
   simp only [patchS, Nat.reduceAdd, Nat.reduceEqDiff, ↓reduceIte] at hQo ⊢
   go_wp2
   exact hK.out _ _ ⟨rfl, hG, fun _ _ _ _ _ _ h => h⟩
  ·intro kx xs wx hk hG hD hI Qo Kx hK hQo
   have d11 : (xs 11) = .pointer (some ⟨B, 0, none⟩) := hD 11 rfl
   clear hD hI
   simp only [patchS, Nat.reduceAdd, Nat.reduceEqDiff, ↓reduceIte] at hQo ⊢
   generalize xs 11 = y11 at *
   subst d11
   obtain ⟨-, k0, k1, k2, -⟩ := bx3 (hG.blk p0)
   go_wp2
   exact hK.out _ _ ⟨rfl, hG, fun _ _ _ _ _ _ h => h⟩
  ·intro kx xs wx hk hG hD hI Qo Kx hK hQo
   have d12 : (xs 12) = .int .i64 pw := hD 12 rfl
   clear hD hI
   simp only [patchS, Nat.reduceAdd, Nat.reduceEqDiff, ↓reduceIte] at hQo ⊢
   generalize xs 12 = y12 at *
   subst d12
   go_wp2
   exact hK.out _ _ ⟨rfl, hG, fun _ _ _ _ _ _ h => h⟩
  ·intro kx xs wx hk hG hD hI Qo Kx hK hQo
   have d10 : (xs 10) = .int .i64 x := hD 10 rfl
   have d13 : (xs 13) = .int .i64 (pw - 1) := hD 13 rfl
   clear hD hI
   simp only [patchS, Nat.reduceAdd, Nat.reduceEqDiff, ↓reduceIte] at hQo ⊢
   generalize xs 10 = y10 at *
   generalize xs 13 = y13 at *
   subst d10 d13
   go_wp2_with fail
   refine (clamp_any _ _ _ _ (by omega)).mono ?_
   rintro e w2 ⟨rfl, rfl⟩
   rw [← Hcx.out]
   go_wp2
   exact hK.out _ _ ⟨rfl, hG, fun _ _ _ _ _ _ h => h⟩
  ·intro kx xs wx hk hG hD hI Qo Kx hK hQo
   have d9 : (xs 9) = .int .i64 (cy * pw) := hD 9 rfl
   have d14 : (xs 14) = .int .i64 cx := hD 14 rfl
   clear hD hI
   simp only [patchS, Nat.reduceAdd, Nat.reduceEqDiff, ↓reduceIte] at hQo ⊢
   generalize xs 9 = y9 at *
   generalize xs 14 = y14 at *
   subst d9 d14
   have hkb : 0 ≤ cy * pw + cx ∧ cy * pw + cx ≤ 2000 := by omega
   go_wp2
   exact hK.out _ _ ⟨by rw [← Hk.out], hG, fun _ _ _ _ _ _ h => h⟩
  ·intro kx xs wx hk hG hD hI Qo Kx hK hQo
   have d1 : (xs 1) = .slice (some ⟨b, off, none⟩) n c := hD 1 rfl
   have d15 : (xs 15) = .int .i64 (k : Nat) := hD 15 rfl
   clear hD hI
   simp only [patchS, Nat.reduceAdd, Nat.reduceEqDiff, ↓reduceIte] at hQo ⊢
   generalize xs 1 = y1 at *
   generalize xs 15 = y15 at *
   subst d1 d15
   go_wp2
   exact hK.out _ _ ⟨rfl, hG, fun _ _ _ _ _ _ h => h⟩
  ·intro kx xs wx hk hG hD hI Qo Kx hK hQo
   have d16 : (xs 16) = .pointer (some ⟨b, off + k, none⟩) := hD 16 rfl
   clear hD hI
   simp only [patchS, Nat.reduceAdd, Nat.reduceEqDiff, ↓reduceIte] at hQo ⊢
   generalize xs 16 = y16 at *
   subst d16
   have hcc := cell_ext (E0.trans hG) Hc.out
   go_wp2
   exact hK.out _ _ ⟨rfl, hG, fun _ _ _ _ _ _ h => h⟩
  ·intro kx xs wx hk hG hD hI Qo Kx hK hQo
   have d17 : (xs 17) = .int .i64 (nth px k) := hD 17 rfl
   clear hD hI
   simp only [patchS, Nat.reduceAdd, Nat.reduceEqDiff, ↓reduceIte] at hQo ⊢
   generalize xs 17 = y17 at *
   subst d17
   go_wp2
   exact hK.out _ _ ⟨rfl, hG, fun _ _ _ _ _ _ h => h⟩
 intro xs wx hV hG
 have d0 : (xs 0) = .pointer (some ⟨B, 2, none⟩) := hV 0 (by decide)
 have d1 : (xs 1) = .slice (some ⟨b, off, none⟩) n c := hV 1 (by decide)
 have d2 : (xs 2) = .int .i64 y := hV 2 (by decide)
 have d3 : (xs 3) = .pointer (some ⟨B, 1, none⟩) := hV 3 (by decide)
 have d4 : (xs 4) = .int .i64 ph := hV 4 (by decide)
 have d5 : (xs 5) = .int .i64 (ph - 1) := hV 5 (by decide)
 have d6 : (xs 6) = .int .i64 cy := hV 6 (by decide)
 have d7 : (xs 7) = .pointer (some ⟨B, 0, none⟩) := hV 7 (by decide)
 have d8 : (xs 8) = .int .i64 pw := hV 8 (by decide)
 have d9 : (xs 9) = .int .i64 (cy * pw) := hV 9 (by decide)
 have d10 : (xs 10) = .int .i64 x := hV 10 (by decide)
 have d11 : (xs 11) = .pointer (some ⟨B, 0, none⟩) := hV 11 (by decide)
 have d12 : (xs 12) = .int .i64 pw := hV 12 (by decide)
 have d13 : (xs 13) = .int .i64 (pw - 1) := hV 13 (by decide)
 have d14 : (xs 14) = .int .i64 cx := hV 14 (by decide)
 have d15 : (xs 15) = .int .i64 (k : Nat) := hV 15 (by decide)
 have d16 : (xs 16) = .pointer (some ⟨b, off + k, none⟩) := hV 16 (by decide)
 have d17 : (xs 17) = .int .i64 (nth px k) := hV 17 (by decide)
 have d18 : (xs 18) = .int .i64 (nth px k) := hV 18 (by decide)
 clear hV
 simp only [patchS, Nat.reduceAdd, Nat.reduceEqDiff, ↓reduceIte]
 generalize xs 0 = y0 at *
 generalize xs 1 = y1 at *
 generalize xs 2 = y2 at *
 generalize xs 3 = y3 at *
 generalize xs 4 = y4 at *
 generalize xs 5 = y5 at *
 generalize xs 6 = y6 at *
 generalize xs 7 = y7 at *
 generalize xs 8 = y8 at *
 generalize xs 9 = y9 at *
 generalize xs 10 = y10 at *
 generalize xs 11 = y11 at *
 generalize xs 12 = y12 at *
 generalize xs 13 = y13 at *
 generalize xs 14 = y14 at *
 generalize xs 15 = y15 at *
 generalize xs 16 = y16 at *
 generalize xs 17 = y17 at *
 generalize xs 18 = y18 at *
 replace hG : Ext w0 wx := hG
 clear d0 d1 d2 d3 d4 d5 d6 d7 d8 d9 d10 d11 d12 d13 d14 d15 d16 d17
 subst d18
 go_wp2
 go_ret
 exact ⟨(ret_intH Hp).symm, E0.trans hG⟩
set_option maxRecDepth 100000 in
theorem l1At_any (p : Pic) (x y : Int) (a : Option Addr) (c n : Nat) (w : World) (hv : p.valid) (hn : n = p.px.length) (r : Sl w a n (p.px.map (Value.int .i64))) :
 Calls Tryd.prog 124 #[.agg #[.int .i64 p.w, .int .i64 p.h, .slice a n c], .int .i64 x, .int .i64 y] w fun e w' => e = .returned (.int .i64 (pat p x y)) ∧ Ext w w' := by
 have hi := pat_idx hv x y
 have hw := hv.1
 have hh := hv.2.1
 obtain ⟨w1, w2, -⟩ := hw
 obtain ⟨h1, h2, -⟩ := hh
 have Hp := Lib.hid (show pat p x y = nth p.px (clipI y 0 (p.h - 1) * p.w + clipI x 0 (p.w - 1)).toNat from rfl)
 have c1 := clipI_lo (n := y) (show (0 : Int) ≤ p.h - 1 by omega)
 have c2 := clipI_lo (n := x) (show (0 : Int) ≤ p.w - 1 by omega)
 obtain ⟨cy, hcy⟩ : ∃ cy, cy = clipI y 0 (p.h - 1) := ⟨_, rfl⟩
 obtain ⟨cx, hcx⟩ : ∃ cx, cx = clipI x 0 (p.w - 1) := ⟨_, rfl⟩
 rw [← hcy] at hi c1 Hp
 rw [← hcx] at hi c2 Hp
 have Hcy := Lib.hid hcy
 have Hcx := Lib.hid hcx
 clear hcy hcx
 have hk : (cy * p.w + cx).toNat < n := by omega
 obtain ⟨k, hk2⟩ : ∃ k : Nat, cy * p.w + cx = (k : Int) := ⟨(cy * p.w + cx).toNat, by omega⟩
 rw [hk2] at hi hk
 rw [hk2, Int.toNat_natCast] at Hp
 rw [Int.toNat_natCast] at hk
 have Hk := Lib.hid hk2
 clear hk2
 obtain ⟨b, off, rfl, hc⟩ := r.int hk
 have Hc := Lib.hid hc
 have p0 := blk_new w (.cells #[.int .i64 p.w, .int .i64 p.h, .slice (some ⟨b, off, none⟩) n c] 25)
 have E0 := Ext.alloc w (.cells #[.int .i64 p.w, .int .i64 p.h, .slice (some ⟨b, off, none⟩) n c] 25)
 have HN := Lib.hid hn
 obtain ⟨B, hB⟩ : ∃ B, B = w.heap.size := ⟨_, rfl⟩
 rw [← hB] at p0
 have HB := Lib.hid hB
 clear hn r hc hv
 go_enter Tryd.func124, Tryd.ntmps124
 go_wp2_with fail
 rw [← hB]
 clear hB
 generalize w.alloc (.cells #[.int .i64 p.w, .int .i64 p.h, .slice (some ⟨b, off, none⟩) n c] 25) = w0 at *
 obtain ⟨pw, ph, px⟩ := p
 simp only at *
 refine wp_region_inv2 (by kernel_rfl) [(6, 18), (7, 0), (8, 1), (9, 2), (10, 3), (11, 4), (12, 5), (13, 6), (14, 7), (15, 8), (16, 9), (17, 10), (18, 11), (19, 12), (20, 13), (21, 14), (22, 15), (23, 16), (24, 17)] [[], [0], [], [], [3], [3, 4], [2, 3, 4, 5], [], [7], [2, 3, 4, 5, 6, 7, 8], [], [], [11], [11, 12], [2, 3, 4, 5, 6, 10, 11, 12, 13], [2, 3, 4, 5, 6, 7, 8, 9, 10, 11, 12, 13, 14], [0, 1, 2, 3, 4, 5, 6, 7, 8, 9, 10, 11, 12, 13, 14, 15], [0, 1, 2, 3, 4, 5, 6, 7, 8, 9, 10, 11, 12, 13, 14, 15, 16], [0, 1, 2, 3, 4, 5, 6, 7, 8, 9, 10, 11, 12, 13, 14, 15, 16, 17]] (fun i own ys wx => match i with | 0 => own = .pointer (some ⟨B, 2, none⟩) | 1 => own = .slice (some ⟨b, off, none⟩) n c | 2 => own = .int .i64 y | 3 => own = .pointer (some ⟨B, 1, none⟩) | 4 => own = .int .i64 ph | 5 => own = .int .i64 (ph - 1) | 6 => own = .int .i64 cy | 7 => own = .pointer (some ⟨B, 0, none⟩) | 8 => own = .int .i64 pw | 9 => own = .int .i64 (cy * pw) | 10 => own = .int .i64 x | 11 => own = .pointer (some ⟨B, 0, none⟩) | 12 => own = .int .i64 pw | 13 => own = .int .i64 (pw - 1) | 14 => own = .int .i64 cx | 15 => own = .int .i64 (k : Nat) | 16 => own = .pointer (some ⟨b, off + k, none⟩) | 17 => own = .int .i64 (nth px k) | 18 => own = .int .i64 (nth px k) | _ => True) (fun kx wx => Ext w0 wx) (by kernel_rfl) (by kernel_rfl) (by kernel_rfl) ?g0_r2 ?gop_r2 ?gend_r2
 case g0_r2 => exact Ext.drewN _ 1
 case gop_r2 =>
  refine ⟨?_, ?_, ?_, ?_, ?_, ?_, ?_, ?_, ?_, ?_, ?_, ?_, ?_, ?_, ?_, ?_, ?_, ?_, ?_, trivial⟩
  ·intro kx xs wx hk hG hD hI Qo Kx hK hQo
   clear hD hI
   simp only [patchS, Nat.reduceAdd, Nat.reduceEqDiff, ↓reduceIte] at hQo ⊢
   go_wp2
   exact hK.out _ _ ⟨rfl, hG, fun _ _ _ _ _ _ h => h⟩
  ·intro kx xs wx hk hG hD hI Qo Kx hK hQo
   have d0 : (xs 0) = .pointer (some ⟨B, 2, none⟩) := hD 0 rfl
   clear hD hI
   simp only [patchS, Nat.reduceAdd, Nat.reduceEqDiff, ↓reduceIte] at hQo ⊢
   generalize xs 0 = y0 at *
   subst d0
   obtain ⟨-, k0, k1, k2, -⟩ := bx3 (hG.blk p0)
   go_wp2
   exact hK.out _ _ ⟨rfl, hG, fun _ _ _ _ _ _ h => h⟩
  ·intro kx xs wx hk hG hD hI Qo Kx hK hQo
   clear hD hI
   simp only [patchS, Nat.reduceAdd, Nat.reduceEqDiff, ↓reduceIte] at hQo ⊢
   go_wp2
   exact hK.out _ _ ⟨rfl, hG, fun _ _ _ _ _ _ h => h⟩
  ·intro kx xs wx hk hG hD hI Qo Kx hK hQo
   clear hD hI
   simp only [patchS, Nat.reduceAdd, Nat.reduceEqDiff, ↓reduceIte] at hQo ⊢
   go_wp2
   exact hK.out _ _ ⟨rfl, hG, fun _ _ _ _ _ _ h => h⟩
  ·intro kx xs wx hk hG hD hI Qo Kx hK hQo
   have d3 : (xs 3) = .pointer (some ⟨B, 1, none⟩) := hD 3 rfl
   clear hD hI
   simp only [patchS, Nat.reduceAdd, Nat.reduceEqDiff, ↓reduceIte] at hQo ⊢
   generalize xs 3 = y3 at *
   subst d3
   obtain ⟨-, k0, k1, k2, -⟩ := bx3 (hG.blk p0)
   go_wp2
   exact hK.out _ _ ⟨rfl, hG, fun _ _ _ _ _ _ h => h⟩
  ·intro kx xs wx hk hG hD hI Qo Kx hK hQo
   have d4 : (xs 4) = .int .i64 ph := hD 4 rfl
   clear hD hI
   simp only [patchS, Nat.reduceAdd, Nat.reduceEqDiff, ↓reduceIte] at hQo ⊢
   generalize xs 4 = y4 at *
   subst d4
   go_wp2
   exact hK.out _ _ ⟨rfl, hG, fun _ _ _ _ _ _ h => h⟩
  ·intro kx xs wx hk hG hD hI Qo Kx hK hQo
   have d2 : (xs 2) = .int .i64 y := hD 2 rfl
   have d5 : (xs 5) = .int .i64 (ph - 1) := hD 5 rfl
   clear hD hI
   simp only [patchS, Nat.reduceAdd, Nat.reduceEqDiff, ↓reduceIte] at hQo ⊢
   generalize xs 2 = y2 at *
   generalize xs 5 = y5 at *
   subst d2 d5
   go_wp2_with fail
   refine (l1Clip_any _ _ _ _).mono ?_
   rintro e w2 ⟨rfl, rfl⟩
   rw [← Hcy.out]
   go_wp2
   exact hK.out _ _ ⟨rfl, hG, fun _ _ _ _ _ _ h => h⟩
  ·intro kx xs wx hk hG hD hI Qo Kx hK hQo
   clear hD hI
   simp only [patchS, Nat.reduceAdd, Nat.reduceEqDiff, ↓reduceIte] at hQo ⊢
   go_wp2
   exact hK.out _ _ ⟨rfl, hG, fun _ _ _ _ _ _ h => h⟩
  ·intro kx xs wx hk hG hD hI Qo Kx hK hQo
   have d7 : (xs 7) = .pointer (some ⟨B, 0, none⟩) := hD 7 rfl
   clear hD hI
   simp only [patchS, Nat.reduceAdd, Nat.reduceEqDiff, ↓reduceIte] at hQo ⊢
   generalize xs 7 = y7 at *
   subst d7
   obtain ⟨-, k0, k1, k2, -⟩ := bx3 (hG.blk p0)
   go_wp2
   exact hK.out _ _ ⟨rfl, hG, fun _ _ _ _ _ _ h => h⟩
  ·intro kx xs wx hk hG hD hI Qo Kx hK hQo
   have d6 : (xs 6) = .int .i64 cy := hD 6 rfl
   have d8 : (xs 8) = .int .i64 pw := hD 8 rfl
   clear hD hI
   simp only [patchS, Nat.reduceAdd, Nat.reduceEqDiff, ↓reduceIte] at hQo ⊢
   generalize xs 6 = y6 at *
   generalize xs 8 = y8 at *
   subst d6 d8
   go_wp2
   exact hK.out _ _ ⟨rfl, hG, fun _ _ _ _ _ _ h => h⟩
  ·intro kx xs wx hk hG hD hI Qo Kx hK hQo
   clear hD hI
   simp only [patchS, Nat.reduceAdd, Nat.reduceEqDiff, ↓reduceIte] at hQo ⊢
   go_wp2
   exact hK.out _ _ ⟨rfl, hG, fun _ _ _ _ _ _ h => h⟩
  ·intro kx xs wx hk hG hD hI Qo Kx hK hQo
   clear hD hI
   simp only [patchS, Nat.reduceAdd, Nat.reduceEqDiff, ↓reduceIte] at hQo ⊢
   go_wp2
   exact hK.out _ _ ⟨rfl, hG, fun _ _ _ _ _ _ h => h⟩
  ·intro kx xs wx hk hG hD hI Qo Kx hK hQo
   have d11 : (xs 11) = .pointer (some ⟨B, 0, none⟩) := hD 11 rfl
   clear hD hI
   simp only [patchS, Nat.reduceAdd, Nat.reduceEqDiff, ↓reduceIte] at hQo ⊢
   generalize xs 11 = y11 at *
   subst d11
   obtain ⟨-, k0, k1, k2, -⟩ := bx3 (hG.blk p0)
   go_wp2
   exact hK.out _ _ ⟨rfl, hG, fun _ _ _ _ _ _ h => h⟩
  ·intro kx xs wx hk hG hD hI Qo Kx hK hQo
   have d12 : (xs 12) = .int .i64 pw := hD 12 rfl
   clear hD hI
   simp only [patchS, Nat.reduceAdd, Nat.reduceEqDiff, ↓reduceIte] at hQo ⊢
   generalize xs 12 = y12 at *
   subst d12
   go_wp2
   exact hK.out _ _ ⟨rfl, hG, fun _ _ _ _ _ _ h => h⟩
  ·intro kx xs wx hk hG hD hI Qo Kx hK hQo
   have d10 : (xs 10) = .int .i64 x := hD 10 rfl
   have d13 : (xs 13) = .int .i64 (pw - 1) := hD 13 rfl
   clear hD hI
   simp only [patchS, Nat.reduceAdd, Nat.reduceEqDiff, ↓reduceIte] at hQo ⊢
   generalize xs 10 = y10 at *
   generalize xs 13 = y13 at *
   subst d10 d13
   go_wp2_with fail
   refine (l1Clip_any _ _ _ _).mono ?_
   rintro e w2 ⟨rfl, rfl⟩
   rw [← Hcx.out]
   go_wp2
   exact hK.out _ _ ⟨rfl, hG, fun _ _ _ _ _ _ h => h⟩
  ·intro kx xs wx hk hG hD hI Qo Kx hK hQo
   have d9 : (xs 9) = .int .i64 (cy * pw) := hD 9 rfl
   have d14 : (xs 14) = .int .i64 cx := hD 14 rfl
   clear hD hI
   simp only [patchS, Nat.reduceAdd, Nat.reduceEqDiff, ↓reduceIte] at hQo ⊢
   generalize xs 9 = y9 at *
   generalize xs 14 = y14 at *
   subst d9 d14
   have hkb : 0 ≤ cy * pw + cx ∧ cy * pw + cx ≤ 2000 := by omega
   go_wp2
   exact hK.out _ _ ⟨by rw [← Hk.out], hG, fun _ _ _ _ _ _ h => h⟩
  ·intro kx xs wx hk hG hD hI Qo Kx hK hQo
   have d1 : (xs 1) = .slice (some ⟨b, off, none⟩) n c := hD 1 rfl
   have d15 : (xs 15) = .int .i64 (k : Nat) := hD 15 rfl
   clear hD hI
   simp only [patchS, Nat.reduceAdd, Nat.reduceEqDiff, ↓reduceIte] at hQo ⊢
   generalize xs 1 = y1 at *
   generalize xs 15 = y15 at *
   subst d1 d15
   go_wp2
   exact hK.out _ _ ⟨rfl, hG, fun _ _ _ _ _ _ h => h⟩
  ·intro kx xs wx hk hG hD hI Qo Kx hK hQo
   have d16 : (xs 16) = .pointer (some ⟨b, off + k, none⟩) := hD 16 rfl
   clear hD hI
   simp only [patchS, Nat.reduceAdd, Nat.reduceEqDiff, ↓reduceIte] at hQo ⊢
   generalize xs 16 = y16 at *
   subst d16
   have hcc := cell_ext (E0.trans hG) Hc.out
   go_wp2
   exact hK.out _ _ ⟨rfl, hG, fun _ _ _ _ _ _ h => h⟩
  ·intro kx xs wx hk hG hD hI Qo Kx hK hQo
   have d17 : (xs 17) = .int .i64 (nth px k) := hD 17 rfl
   clear hD hI
   simp only [patchS, Nat.reduceAdd, Nat.reduceEqDiff, ↓reduceIte] at hQo ⊢
   generalize xs 17 = y17 at *
   subst d17
   go_wp2
   exact hK.out _ _ ⟨rfl, hG, fun _ _ _ _ _ _ h => h⟩
 intro xs wx hV hG
 have d0 : (xs 0) = .pointer (some ⟨B, 2, none⟩) := hV 0 (by decide)
 have d1 : (xs 1) = .slice (some ⟨b, off, none⟩) n c := hV 1 (by decide)
 have d2 : (xs 2) = .int .i64 y := hV 2 (by decide)
 have d3 : (xs 3) = .pointer (some ⟨B, 1, none⟩) := hV 3 (by decide)
 have d4 : (xs 4) = .int .i64 ph := hV 4 (by decide)
 have d5 : (xs 5) = .int .i64 (ph - 1) := hV 5 (by decide)
 have d6 : (xs 6) = .int .i64 cy := hV 6 (by decide)
 have d7 : (xs 7) = .pointer (some ⟨B, 0, none⟩) := hV 7 (by decide)
 have d8 : (xs 8) = .int .i64 pw := hV 8 (by decide)
 have d9 : (xs 9) = .int .i64 (cy * pw) := hV 9 (by decide)
 have d10 : (xs 10) = .int .i64 x := hV 10 (by decide)
 have d11 : (xs 11) = .pointer (some ⟨B, 0, none⟩) := hV 11 (by decide)
 have d12 : (xs 12) = .int .i64 pw := hV 12 (by decide)
 have d13 : (xs 13) = .int .i64 (pw - 1) := hV 13 (by decide)
 have d14 : (xs 14) = .int .i64 cx := hV 14 (by decide)
 have d15 : (xs 15) = .int .i64 (k : Nat) := hV 15 (by decide)
 have d16 : (xs 16) = .pointer (some ⟨b, off + k, none⟩) := hV 16 (by decide)
 have d17 : (xs 17) = .int .i64 (nth px k) := hV 17 (by decide)
 have d18 : (xs 18) = .int .i64 (nth px k) := hV 18 (by decide)
 clear hV
 simp only [patchS, Nat.reduceAdd, Nat.reduceEqDiff, ↓reduceIte]
 generalize xs 0 = y0 at *
 generalize xs 1 = y1 at *
 generalize xs 2 = y2 at *
 generalize xs 3 = y3 at *
 generalize xs 4 = y4 at *
 generalize xs 5 = y5 at *
 generalize xs 6 = y6 at *
 generalize xs 7 = y7 at *
 generalize xs 8 = y8 at *
 generalize xs 9 = y9 at *
 generalize xs 10 = y10 at *
 generalize xs 11 = y11 at *
 generalize xs 12 = y12 at *
 generalize xs 13 = y13 at *
 generalize xs 14 = y14 at *
 generalize xs 15 = y15 at *
 generalize xs 16 = y16 at *
 generalize xs 17 = y17 at *
 generalize xs 18 = y18 at *
 replace hG : Ext w0 wx := hG
 clear d0 d1 d2 d3 d4 d5 d6 d7 d8 d9 d10 d11 d12 d13 d14 d15 d16 d17
 subst d18
 go_wp2
 go_ret
 exact ⟨(ret_intH Hp).symm, E0.trans hG⟩
end Go.Proofs.YtbnhaegidfbgbaaDoor
namespace Go.Proofs.YtbnhaegidfbgbaaDoor
open Go.RowKit
def keepB (b : Nat) (W W' : World) : Prop := W'.heap[b]? = W.heap[b]?
theorem keepB.t {b : Nat} {A B C : World} (h : keepB b A B) (k : keepB b B C) : keepB b A C := k.trans h
theorem keepB.b {b n : Nat} (hb : b < n) (W : World) (l : Nat) (o o' : Obj) (hl : n ≤ l) (_ : W.heap[l]? = some o) (_ : o.isCells = false) (_ : o.isWalk = false) : keepB b W (W.putObj l o') := World.putObj_heap_other (by omega)
end Go.Proofs.YtbnhaegidfbgbaaDoor
namespace Go.Proofs.YtbnhaegidfbgbaaDoor
open Go.RowKit
set_option maxHeartbeats 400000
/-- Operation j has run too. -/
def updL (L : Nat → Bool) (j : Nat) : Nat → Bool := fun i => if i = j then true else L i
/-- What every operation must do. -/
structure ObOkL (P : Program) (ol : List Oper) (l : List Value) (df : List Deferred) (ds : List (Nat × Nat)) (anc : List (List Nat)) (V : Nat → (Nat → Value) → World → Prop) (G : (Nat → Bool) → World → Prop) (j : Nat) (o : Oper) : Prop where
 run : ∀ L xs w, G L w → L j = false → (∀ i, (anc.getD j []).contains i = true → L i = true) → (∀ i, (anc.getD i []).contains j = true → L i = false) → (∀ i, (anc.getD j []).contains i = true → V i xs w) → (∀ i d, (anc.getD i []).contains j = true → (ol.toArray[i]?).bind (·.dst) = some d → xs i = l.getD d undef) →
  OpGoal P ol.toArray o ⟨(patchS 0 l ds xs).toArray, df⟩ w (fun v w' => V j (upd xs j v) w' ∧ G (updL L j) w' ∧ ∀ i, i < ol.length → i ≠ j → (anc.getD i []).contains j = false → V i xs w → V i (upd xs j v) w')
theorem any_invL {P : Program} {ol : List Oper} {Q : Exit → Act → World → Prop} {l : List Value} {df : List Deferred} {w0 : World}
 (ds : List (Nat × Nat)) (anc : List (List Nat)) (V : Nat → (Nat → Value) → World → Prop) (G : (Nat → Bool) → World → Prop)
 (hds : dsOk ol ds l.length = true) (hanc : ancOk ol anc = true) (h0 : G (fun _ => false) w0)
 (hop : ∀ j o, ol[j]? = some o → ObOkL P ol l df ds anc V G j o)
 (hend : ∀ xs w', (∀ i, i < ol.length → V i xs w') → (∃ L, (∀ i, i < ol.length → L i = true) ∧ G L w') → Q .normal ⟨(patchS 0 l ds xs).toArray, df⟩ w') :
 wpAny P .any ol.toArray Q ol.length (Array.replicate ol.length false) ⟨l.toArray, df⟩ w0 := by
 simp only [dsOk, Bool.and_eq_true, List.all_eq_true, decide_eq_true_eq, beq_iff_eq, List.mem_range] at hds
 obtain ⟨⟨⟨ha, hd1⟩, hnd⟩, hd2⟩ := hds
 simp only [ancOk, Bool.and_eq_true, List.all_eq_true, beq_iff_eq, List.mem_range] at hanc
 obtain ⟨hal, hanc⟩ := hanc
 -- the states that are met
 have key : ∀ (fuel : Nat) (listed : Array Bool) (xs : Nat → Value) (w : World), listed.size = ol.length → listed.toList.count true + fuel = ol.length →
  (∀ i, listed.getD i false = true → ∀ j, (anc.getD i []).contains j = true → listed.getD j false = true) →
  (∀ i, i < ol.length → listed.getD i false = true → V i xs w) → G (fun i => listed.getD i false) w →
  (∀ i d, listed.getD i false = false → (ol.toArray[i]?).bind (·.dst) = some d → xs i = l.getD d undef) →
  wpAny P .any ol.toArray Q fuel listed ⟨(patchS 0 l ds xs).toArray, df⟩ w := by
  intro fuel
  have full : ∀ (listed : Array Bool), listed.size = ol.length → listed.toList.count true = ol.length → ∀ i, i < ol.length → listed.getD i false = true := by
   intro listed hs hc i hi
   have h1 : ∀ b ∈ listed.toList, true = b := List.count_eq_length.1 (by rw [hc]; simp [hs])
   have h2 := h1 listed[i] (by simp)
   simp [Array.getD, hs, hi, ← h2]
  have none_ready : ∀ (listed : Array Bool), listed.size = ol.length → listed.toList.count true < ol.length → Region.ready .any ol.toArray listed ≠ [] := by
   intro listed hs hc hr
   -- the least that is not listed
   have hex : ∃ i, i < ol.length ∧ listed.getD i false = false := by
    refine Classical.byContradiction fun hno => ?_
    have : listed.toList.count true = ol.length := by
     rw [← hs, ← Array.length_toList, List.count_eq_length]
     intro b hb
     obtain ⟨i, hi, rfl⟩ := List.getElem_of_mem hb
     simp at hi
     refine Classical.byContradiction fun hne => hno ⟨i, by omega, ?_⟩
     simp [Array.getD, hi]
     simpa using hne
    omega
   obtain ⟨i, ⟨hi, hli⟩, hmin⟩ := exists_least hex
   have : i ∈ Region.ready .any ol.toArray listed := by
    rw [mem_ready]
    refine ⟨?_, ol[i], by simp [hi], fun e he hb => ?_⟩
    ·simp [Array.getD, hs, hi] at hli ⊢; exact hli
    ·have h1 := (hanc i hi)
     simp only [List.getElem?_eq_getElem hi, Bool.and_eq_true, List.all_eq_true, decide_eq_true_eq] at h1
     have h2 := h1.1 e.on (List.mem_map.2 ⟨e, List.mem_filter.2 ⟨by simpa using he, hb⟩, rfl⟩)
     cases hle : listed.getD e.on false with
     | true => rfl
     | false => have := hmin e.on ⟨by omega, hle⟩; omega
   rw [hr] at this
   cases this
  induction fuel with
  | zero =>
   intro listed xs w hs hc hcl hV hG _
   have hf := full listed hs (by omega)
   refine ⟨?_, ?_⟩
   ·refine List.eq_nil_iff_forall_not_mem.2 fun i hi => ?_
    obtain ⟨h1, o, h2, -⟩ := mem_ready.1 hi
    have hlt : i < ol.length := by
     have := (Array.getElem?_eq_some_iff.1 h2).1
     simpa using this
    have := hf i hlt
    simp [Array.getD, hs, hlt] at this h1
    rw [this] at h1
    cases h1
   ·exact hend xs w (fun i hi => hV i hi (hf i hi)) ⟨_, hf, hG⟩
  | succ fuel ih =>
   intro listed xs w hs hc hcl hV hG hI
   refine ⟨fun hr => absurd hr (none_ready listed hs (by omega)), fun i hi => ?_⟩
   obtain ⟨h1, o, h2, h3⟩ := mem_ready.1 hi
   have hlt : i < ol.length := by
    have := (Array.getElem?_eq_some_iff.1 h2).1
    simpa using this
   have h2' : ol[i]? = some o := by simpa using h2
   have hun : listed.getD i false = false := by simp [Array.getD, hs, hlt] at h1 ⊢; exact h1
   have hA := hanc i hlt
   rw [h2'] at hA
   simp only [Bool.and_eq_true, List.all_eq_true, decide_eq_true_eq, Bool.or_eq_true, List.any_eq_true] at hA
   have dirL : ∀ d ∈ direct o, listed.getD d false = true := by
    intro d hd
    obtain ⟨e, he, rfl⟩ := List.mem_map.1 hd
    obtain ⟨he1, he2⟩ := List.mem_filter.1 he
    exact h3 e (by simpa using he1) he2
   have ancL : ∀ j, (anc.getD i []).contains j = true → listed.getD j false = true := by
    intro j hj
    rcases hA.2 j (by simpa using hj) with h | ⟨d, hd, h⟩
    ·exact dirL j (by simpa using h)
    ·exact hcl d (dirL d hd) j h
   have ltL : ∀ j, listed.getD j false = true → j < ol.length := by
    intro j hj
    refine Classical.byContradiction fun hge => ?_
    simp [Array.getD, show ¬ j < listed.size by omega] at hj
   have goal := (hop i o h2').run (fun i => listed.getD i false) xs w hG hun ancL (fun j hj => by
    cases hc2 : listed.getD j false with
    | false => rfl
    | true => have := hcl j hc2 i hj; rw [hun] at this; cases this) (fun j hj => hV j (ltL j (ancL j hj)) (ancL j hj)) (fun j d hj hd => hI j d (by
    cases hc2 : listed.getD j false with
    | false => rfl
    | true => have := hcl j hc2 i hj; rw [hun] at this; cases this) hd)
   refine wpOp_of_goal h2 goal fun v w' hp => ?_
   obtain ⟨hp1, hp2, hp3⟩ := hp
   have hcount : (listed.setIfInBounds i true).toList.count true = listed.toList.count true + 1 := by
    rw [Array.toList_setIfInBounds, List.count_set (by simp; omega)]
    have : listed.toList[i]'(by simp; omega) = false := by
     simp [Array.getD, hs, hlt] at hun
     simpa using hun
    simp [this]
   have hput : (⟨(patchS 0 l ds xs).toArray, df⟩ : Act).put o.dst v = ⟨(patchS 0 l ds (upd xs i v)).toArray, df⟩ := by
    cases hd : o.dst with
    | none =>
     have hni : i ∉ ds.map (·.2) := by
      intro hmem
      obtain ⟨x, hx, rfl⟩ := List.mem_map.1 hmem
      have := (hd1 x hx).2
      rw [h2'] at this
      simp [hd] at this
     have rest : ∀ (q : Nat) (l : List Value) (ds : List (Nat × Nat)), i ∉ ds.map (·.2) → patchS q l ds (upd xs i v) = patchS q l ds xs := by
      intro q l
      induction l generalizing q with
      | nil => intro ds _; simp [patchS]
      | cons u l ih2 =>
       intro ds hj
       cases ds with
       | nil => simp [patchS]
       | cons e ds =>
        obtain ⟨e1, e2⟩ := e
        simp only [patchS]
        simp at hj
        have : upd xs i v e2 = xs e2 := by unfold upd; rw [if_neg (fun h => hj.1 h.symm)]
        rw [this, ih2 (q + 1) ds (by simpa using hj.2), ih2 (q + 1) ((e1, e2) :: ds) (by simpa using hj)]
     rw [rest _ _ _ hni]
     rfl
    | some d =>
     have hmem : (d, i) ∈ ds := by
      have := hd2 i hlt
      rw [h2'] at this
      simpa [hd] using this
     have h5 := patchS_set xs v l 0 ds d i ha (by simpa using hnd) hmem
     simp only [Nat.sub_zero] at h5
     rw [← h5]
     simp [Act.put]
   rw [hput]
   refine ih _ _ _ (by simpa using hs) (by rw [hcount]; omega) ?_ ?_ (by
    have e : updL (fun i => listed.getD i false) i = fun q => (listed.setIfInBounds i true).getD q false := by
     funext q
     unfold updL
     by_cases hqi : q = i
     ·subst hqi
      rw [if_pos rfl, Array.getD_eq_getD_getElem?, Array.getElem?_setIfInBounds, if_pos rfl, if_pos (by omega)]
      rfl
     ·rw [if_neg hqi, getD_set_ne false (Ne.symm hqi)]
    rw [← e]
    exact hp2) (fun q d hq hd => ?_)
   rotate_right
   ·by_cases hqi : q = i
    ·subst hqi
     rw [Array.getD_eq_getD_getElem?, Array.getElem?_setIfInBounds, if_pos rfl, if_pos (by omega)] at hq
     simp at hq
    ·rw [getD_set_ne false (Ne.symm hqi)] at hq
     rw [show upd xs i v q = xs q by simp [upd, hqi]]
     exact hI q d hq hd
   ·intro q hq j hj
    by_cases hqi : q = i
    ·subst hqi
     exact getD_set_true (ancL j hj)
    ·rw [getD_set_ne false (Ne.symm hqi)] at hq
     exact getD_set_true (hcl q hq j hj)
   ·intro q hq hl
    by_cases hqi : q = i
    ·subst hqi; exact hp1
    ·rw [getD_set_ne false (Ne.symm hqi)] at hl
     refine hp3 q hq hqi ?_ (hV q hq hl)
     cases hc2 : (anc.getD q []).contains i with
     | false => rfl
     | true => have := hcl q hl i hc2; rw [hun] at this; cases this
 have init := key ol.length (Array.replicate ol.length false) (fun i => (((ol[i]?).bind (·.dst)).map (fun d => l.getD d undef)).getD undef) w0 (by simp) (by simp [List.count_replicate]) (fun i hi => by simp [Array.getD] at hi) (fun i _ hi => by simp [Array.getD] at hi) (by
  have e : (fun i => (Array.replicate ol.length false).getD i false) = fun _ => false := by
   funext i
   simp [Array.getD]
  rw [e]
  exact h0) (fun i d _ hd => by
  have hd' : (ol[i]?).bind (·.dst) = some d := by simpa using hd
  simp [hd'])
 have hsame := patchS_same (fun i => (((ol[i]?).bind (·.dst)).map (fun d => l.getD d undef)).getD undef) l 0 ds ha (fun x hx _ => by
  have := (hd1 x hx).2
  rw [this]
  simp)
 rw [hsame] at init
 simpa using init
/-- What operation j must do: own value v, what is kept of the others. -/
def ObL (P : Program) (n : Nat) (ops : Array Oper) (l : List Value) (df : List Deferred) (ds : List (Nat × Nat)) (anc : List (List Nat)) (W : Nat → Value → (Nat → Value) → World → Prop) (G : (Nat → Bool) → World → Prop) (j : Nat) (o : Oper) : Prop :=
 ∀ L xs w, G L w → L j = false → (∀ i, (anc.getD j []).contains i = true → L i = true) → (∀ i, (anc.getD i []).contains j = true → L i = false) → (∀ i, (anc.getD j []).contains i = true → W i (xs i) (mask anc i xs) w) → (∀ i d, (anc.getD i []).contains j = true → (ops[i]?).bind (·.dst) = some d → xs i = l.getD d undef) →
  OpGoal P ops o ⟨(patchS 0 l ds xs).toArray, df⟩ w (fun v w' => W j v (mask anc j xs) w' ∧ G (updL L j) w' ∧ ∀ i, i < n → i ≠ j → (anc.getD i []).contains j = false → ∀ own ys, W i own ys w → W i own ys w')
def ObsL (P : Program) (n : Nat) (ops : Array Oper) (l : List Value) (df : List Deferred) (ds : List (Nat × Nat)) (anc : List (List Nat)) (W : Nat → Value → (Nat → Value) → World → Prop) (G : (Nat → Bool) → World → Prop) : Nat → List Oper → Prop
 | _, [] => True
 | j, o :: os => ObL P n ops l df ds anc W G j o ∧ ObsL P n ops l df ds anc W G (j + 1) os
theorem ObsL.get {P : Program} {n : Nat} {ops : Array Oper} {l : List Value} {df : List Deferred} {ds : List (Nat × Nat)} {anc : List (List Nat)} {W : Nat → Value → (Nat → Value) → World → Prop} {G : (Nat → Bool) → World → Prop} :
 ∀ {os : List Oper} {p : Nat}, ObsL P n ops l df ds anc W G p os → ∀ j o, os[j]? = some o → ObL P n ops l df ds anc W G (p + j) o
 | [], _, _, j, o, h => by simp at h
 | u :: os, p, h, j, o, hj => by
  cases j with
  | zero => simp at hj; subst hj; exact h.1
  | succ j =>
   simp at hj
   have := h.2.get j o hj
   rwa [show p + 1 + j = p + (j + 1) by omega] at this
theorem any_inv2L {P : Program} {ol : List Oper} {Q : Exit → Act → World → Prop} {l : List Value} {df : List Deferred} {w0 : World}
 (ds : List (Nat × Nat)) (anc : List (List Nat)) (W : Nat → Value → (Nat → Value) → World → Prop) (G : (Nat → Bool) → World → Prop)
 (hds : dsOk ol ds l.length = true) (hanc : ancOk ol anc = true) (hself : (List.range ol.length).all (fun i => !(anc.getD i []).contains i) = true) (h0 : G (fun _ => false) w0)
 (hop : ObsL P ol.length ol.toArray l df ds anc W G 0 ol)
 (hend : ∀ xs w', (∀ i, i < ol.length → W i (xs i) (mask anc i xs) w') → (∃ L, (∀ i, i < ol.length → L i = true) ∧ G L w') → Q .normal ⟨(patchS 0 l ds xs).toArray, df⟩ w') :
 wpAny P .any ol.toArray Q ol.length (Array.replicate ol.length false) ⟨l.toArray, df⟩ w0 := by
 refine any_invL ds anc (fun i xs w => W i (xs i) (mask anc i xs) w) G hds hanc h0 (fun j o hj => ⟨fun L xs w hG hl ha hb hD hI => ?_⟩) hend
 have h1 := hop.get j o hj
 rw [Nat.zero_add] at h1
 have hjl : j < ol.length := (List.getElem?_eq_some_iff.1 hj).1
 have hs : (anc.getD j []).contains j = false := by
  simp only [List.all_eq_true, List.mem_range] at hself
  simpa using hself j hjl
 have h2 := h1 L xs w hG hl ha hb hD hI
 intro Qo K hK hQo
 refine h2 Qo K (fun v w' ⟨p1, p2, p3⟩ => hK v w' ⟨?_, p2, fun i hi hne hc hV => ?_⟩) hQo
 ·rw [mask_upd hs, show upd xs j v j = v by simp [upd]]; exact p1
 ·rw [mask_upd hc, show upd xs j v i = xs i by simp [upd, hne]]; exact p3 i hi hne hc _ _ hV
theorem wp_region_invL {P : Program} {id : Nat} {ol : List Oper} {Q : Exit → Act → World → Prop} {l : List Value} {df : List Deferred} {w0 : World}
 (hm : P.follows .mixedOrders = true) (ds : List (Nat × Nat)) (anc : List (List Nat)) (W : Nat → Value → (Nat → Value) → World → Prop) (G : (Nat → Bool) → World → Prop)
 (hds : dsOk ol ds l.length = true) (hanc : ancOk ol anc = true) (hself : (List.range ol.length).all (fun i => !(anc.getD i []).contains i) = true) (h0 : G (fun _ => false) w0.drew)
 (hop : ObsL P ol.length ol.toArray l df ds anc W G 0 ol)
 (hend : ∀ xs w', (∀ i, i < ol.length → W i (xs i) (mask anc i xs) w') → (∃ L, (∀ i, i < ol.length → L i = true) ∧ G L w') → Q .normal ⟨(patchS 0 l ds xs).toArray, df⟩ w') :
 (Code.region id ol.toArray true).wp P Q ⟨l.toArray, df⟩ w0 := by
 refine wp_region_any hm ?_
 rw [List.size_toArray]
 exact any_inv2L ds anc W G hds hanc hself h0 hop hend
/-! ### Within a round -/
/-- Left by its end alone. -/
def OnlyNormal (K : Act → World → Prop) : Exit → Act → World → Prop
 | .normal, a, w => K a w
 | _, _, _ => False
/-- No operation of the list is a deferred call. -/
def noDefer (ol : List Oper) : Bool := ol.all fun o => match o.op with | .defer _ => false | _ => true
end Go.Proofs.YtbnhaegidfbgbaaDoor
