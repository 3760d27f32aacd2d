/- FnExactMacroCost: the program's answer is the reference's: the walk of the law. | From the reading of an argument to the walks' words. | Opening arguments: pictures. | Opening arguments: macroblocks. -/
import Derived.Test.YtbnhaegidfbgbaaDoorQg16
import Derived.ProofKit
import Derived.OpenShut
import Derived.ShutString
import Derived.ChangeOld
import Derived.Deep.Slices
import Derived.Lib.SmallJoins
namespace Go.Proofs.YtbnhaegidfbgbaaDoor
open Go.RowKit
set_option maxHeartbeats 1000000
set_option maxRecDepth 100000 in
set_option maxHeartbeats 4000000 in
theorem law_FnExactMacroCost (au : Option Addr) (cu : Nat) (pu : Pic) (ar : Option Addr) (cr : Nat) (pr : Pic) (ap : Option Addr) (cp : Nat) (pp : Pic) (x : Int) (wx : (Lit.int .i64 x).wf = true) (y : Int) (wy : (Lit.int .i64 y).wf = true) (mm : Mac) (q : Int) (wq : (Lit.int .i64 q).wf = true) (top : Int) (wtop : (Lit.int .i64 top).wf = true) (w : World) (hT : TabQ w) (slu : Sl w au pu.px.length (pu.px.map (Value.int .i64))) (hn0u : pu.px.length ≤ cu ∧ cu ≤ maxLen) (slr : Sl w ar pr.px.length (pr.px.map (Value.int .i64))) (hn0r : pr.px.length ≤ cr ∧ cr ≤ maxLen) (slp : Sl w ap pp.px.length (pp.px.map (Value.int .i64))) (hn0p : pp.px.length ≤ cp ∧ cp ≤ maxLen) (hm : mm.ok) (wm : ∀ z ∈ mm.zs, (Lit.int .i64 z).wf = true) :
 Calls Tryd.prog 8 #[.agg #[.int .i64 pu.w, .int .i64 pu.h, .slice au pu.px.length cu], .agg #[.int .i64 pr.w, .int .i64 pr.h, .slice ar pr.px.length cr], .agg #[.int .i64 pp.w, .int .i64 pp.h, .slice ap pp.px.length cp], .int .i64 x, .int .i64 y, .agg (ic mm.zs), .int .i64 q, .int .i64 top] w fun e w' => e = .returned (.bool true) ∧ Ext w w' := by
 have hnu : pu.px.length ≤ 9223372036854775807 := Nat.le_trans hn0u.1 hn0u.2
 have hnr : pr.px.length ≤ 9223372036854775807 := Nat.le_trans hn0r.1 hn0r.2
 have hnp : pp.px.length ≤ 9223372036854775807 := Nat.le_trans hn0p.1 hn0p.2
 clear hn0u hn0r hn0p wx wy wq wtop wm
 have HS := Lib.hid (fun (au : Option Addr) (cu : Nat) (ar : Option Addr) (cr : Nat) (ap : Option Addr) (cp : Nat) (w : World) (ru : Sl w au pu.px.length (pu.px.map (Value.int .i64))) (rr : Sl w ar pr.px.length (pr.px.map (Value.int .i64))) (rp : Sl w ap pp.px.length (pp.px.map (Value.int .i64))) => spec_MacroCost_any pu pr pp x y mm q top au ar ap cu cr cp _ _ _ w rfl rfl rfl hnu hnr hnp ru rr rp hm)
 have HI := Lib.hid (fun (au : Option Addr) (cu : Nat) (ar : Option Addr) (cr : Nat) (ap : Option Addr) (cp : Nat) (w : World) (hT : TabQ w) (ru : Sl w au pu.px.length (pu.px.map (Value.int .i64))) (rr : Sl w ar pr.px.length (pr.px.map (Value.int .i64))) (rp : Sl w ap pp.px.length (pp.px.map (Value.int .i64))) => impl_MacroCost_any pu pr pp x y mm q top au ar ap cu cr cp _ _ _ w hT rfl rfl rfl hnu hnr hnp ru rr rp hm)
 obtain ⟨xu, yu, zu⟩ := pu
 obtain ⟨xr, yr, zr⟩ := pr
 obtain ⟨xp, yp, zp⟩ := pp
 simp only at hnu slu hnr slr hnp slp HS HI ⊢
 generalize costP ⟨xu, yu, zu⟩ ⟨xr, yr, zr⟩ ⟨xp, yp, zp⟩ x y mm q top = R at *
 obtain ⟨nu, hzu⟩ : ∃ n, n = zu.length := ⟨_, rfl⟩
 obtain ⟨nr, hzr⟩ : ∃ n, n = zr.length := ⟨_, rfl⟩
 obtain ⟨np, hzp⟩ : ∃ n, n = zp.length := ⟨_, rfl⟩
 rw [← hzu] at hnu slu ⊢
 rw [← hzr] at hnr slr ⊢
 rw [← hzp] at hnp slp ⊢
 simp only [← hzu, ← hzr, ← hzp] at HS HI
 clear hzu hzr hzp
 have Hm := Lib.hid hm
 have Hl := Lib.hid (Mac.zs_len hm)
 clear hm
 have a0_1 := Ext.alloc (w.alloc (.cells #[.int .i64 xu, .int .i64 yu, .slice au nu cu] 42)) (.cells #[.int .i64 xr, .int .i64 yr, .slice ar nr cr] 42)
 have a0_2 := Ext.alloc ((w.alloc (.cells #[.int .i64 xu, .int .i64 yu, .slice au nu cu] 42)).alloc (.cells #[.int .i64 xr, .int .i64 yr, .slice ar nr cr] 42)) (.cells #[.int .i64 xp, .int .i64 yp, .slice ap np cp] 42)
 have a0_3 := Ext.alloc (((w.alloc (.cells #[.int .i64 xu, .int .i64 yu, .slice au nu cu] 42)).alloc (.cells #[.int .i64 xr, .int .i64 yr, .slice ar nr cr] 42)).alloc (.cells #[.int .i64 xp, .int .i64 yp, .slice ap np cp] 42)) (.cells (ic mm.zs) 45)
 have X0_0 := a0_3.blk (a0_2.blk (a0_1.blk (blk_new w (.cells #[.int .i64 xu, .int .i64 yu, .slice au nu cu] 42))))
 have a1_2 := Ext.alloc ((w.alloc (.cells #[.int .i64 xu, .int .i64 yu, .slice au nu cu] 42)).alloc (.cells #[.int .i64 xr, .int .i64 yr, .slice ar nr cr] 42)) (.cells #[.int .i64 xp, .int .i64 yp, .slice ap np cp] 42)
 have a1_3 := Ext.alloc (((w.alloc (.cells #[.int .i64 xu, .int .i64 yu, .slice au nu cu] 42)).alloc (.cells #[.int .i64 xr, .int .i64 yr, .slice ar nr cr] 42)).alloc (.cells #[.int .i64 xp, .int .i64 yp, .slice ap np cp] 42)) (.cells (ic mm.zs) 45)
 have X1_0 := a1_3.blk (a1_2.blk (blk_new (w.alloc (.cells #[.int .i64 xu, .int .i64 yu, .slice au nu cu] 42)) (.cells #[.int .i64 xr, .int .i64 yr, .slice ar nr cr] 42)))
 have a2_3 := Ext.alloc (((w.alloc (.cells #[.int .i64 xu, .int .i64 yu, .slice au nu cu] 42)).alloc (.cells #[.int .i64 xr, .int .i64 yr, .slice ar nr cr] 42)).alloc (.cells #[.int .i64 xp, .int .i64 yp, .slice ap np cp] 42)) (.cells (ic mm.zs) 45)
 have X2_0 := a2_3.blk (blk_new ((w.alloc (.cells #[.int .i64 xu, .int .i64 yu, .slice au nu cu] 42)).alloc (.cells #[.int .i64 xr, .int .i64 yr, .slice ar nr cr] 42)) (.cells #[.int .i64 xp, .int .i64 yp, .slice ap np cp] 42))
 have X3_0 := IB.new (((w.alloc (.cells #[.int .i64 xu, .int .i64 yu, .slice au nu cu] 42)).alloc (.cells #[.int .i64 xr, .int .i64 yr, .slice ar nr cr] 42)).alloc (.cells #[.int .i64 xp, .int .i64 yp, .slice ap np cp] 42)) 45 mm.zs
 have E_0 := (((Ext.alloc w (.cells #[.int .i64 xu, .int .i64 yu, .slice au nu cu] 42)).trans (Ext.alloc (w.alloc (.cells #[.int .i64 xu, .int .i64 yu, .slice au nu cu] 42)) (.cells #[.int .i64 xr, .int .i64 yr, .slice ar nr cr] 42))).trans (Ext.alloc ((w.alloc (.cells #[.int .i64 xu, .int .i64 yu, .slice au nu cu] 42)).alloc (.cells #[.int .i64 xr, .int .i64 yr, .slice ar nr cr] 42)) (.cells #[.int .i64 xp, .int .i64 yp, .slice ap np cp] 42))).trans (Ext.alloc (((w.alloc (.cells #[.int .i64 xu, .int .i64 yu, .slice au nu cu] 42)).alloc (.cells #[.int .i64 xr, .int .i64 yr, .slice ar nr cr] 42)).alloc (.cells #[.int .i64 xp, .int .i64 yp, .slice ap np cp] 42)) (.cells (ic mm.zs) 45))
 simp only [World.size_alloc] at X1_0 X2_0 X3_0
 clear a0_1 a0_2 a0_3 a1_2 a1_3 a2_3
 obtain ⟨B, hB⟩ : ∃ B, B = w.heap.size := ⟨_, rfl⟩
 rw [← hB] at X0_0 X1_0 X2_0 X3_0
 have Au_0 := X0_0
 clear X0_0
 have Ar_0 := X1_0
 clear X1_0
 have Ap_0 := X2_0
 clear X2_0
 have AM_0 := X3_0
 clear X3_0
 have hwB : w.heap.size ≤ B := by omega
 go_enter Tryd.func8, Tryd.ntmps8
 obtain ⟨-, kAu0, kAu1, kAu2, -⟩ := bx3 Au_0
 obtain ⟨-, kAr0, kAr1, kAr2, -⟩ := bx3 Ar_0
 obtain ⟨-, kAp0, kAp1, kAp2, -⟩ := bx3 Ap_0
 go_wp2_with (first | (refine wpList_iload 45 _ rfl rfl AM_0 0 71 rfl _ Tryd.underlying45 rfl size_lMacro (by rw [Hl.out]; omega) _ (by rw [sub_all _ _ Hl.out]) ?_))
 rw [← hB]
 have HB := Lib.hid hB
 clear hB
 have hB0 : B + 1 + 1 + 1 < w.heap.size + 4 := by have := HB.out; omega
 refine (szPicture_any xu yu au cu nu (1048576) _ hnu (by omega) (by omega)).mono ?_
 rintro e v1 ⟨rfl, e1⟩
 clear kAu0 kAu1 kAu2 kAr0 kAr1 kAr2 kAp0 kAp1 kAp2
 have Au_1 : v1.heap[B]? = some (.cells #[.int .i64 xu, .int .i64 yu, .slice au nu cu] 42 (0, 0)) := e1.blk Au_0
 have Ar_1 : v1.heap[B + 1]? = some (.cells #[.int .i64 xr, .int .i64 yr, .slice ar nr cr] 42 (0, 0)) := e1.blk Ar_0
 have Ap_1 : v1.heap[B + 1 + 1]? = some (.cells #[.int .i64 xp, .int .i64 yp, .slice ap np cp] 42 (0, 0)) := e1.blk Ap_0
 have AM_1 : IB v1 (B + 1 + 1 + 1) 45 mm.zs := AM_0.ext e1
 have E_1 : Ext w v1 := E_0.trans e1
 clear Au_0 Ar_0 Ap_0 AM_0 E_0 e1
 by_cases hnegu : (1048576 : Int) - nu < 0
 ·rw [if_pos hnegu]
  go_wp2
  go_ret
  exact ⟨rfl, E_1⟩
 rw [if_neg hnegu]
 have hdu : decide ((1048576 : Int) - (nu : Int) < 0) = false := by simpa using hnegu
 obtain ⟨-, kAu0, kAu1, kAu2, -⟩ := bx3 Au_1
 obtain ⟨-, kAr0, kAr1, kAr2, -⟩ := bx3 Ar_1
 obtain ⟨-, kAp0, kAp1, kAp2, -⟩ := bx3 Ap_1
 go_wp2_with (first | (refine wpList_iload 45 _ rfl rfl AM_1 0 71 rfl _ Tryd.underlying45 rfl size_lMacro (by rw [Hl.out]; omega) _ (by rw [sub_all _ _ Hl.out]) ?_))
 refine (szPicture_any xr yr ar cr nr (1048576 - (nu : Int)) _ hnr (by omega) (by omega)).mono ?_
 rintro e v2 ⟨rfl, e1⟩
 clear kAu0 kAu1 kAu2 kAr0 kAr1 kAr2 kAp0 kAp1 kAp2
 have Au_2 : v2.heap[B]? = some (.cells #[.int .i64 xu, .int .i64 yu, .slice au nu cu] 42 (0, 0)) := e1.blk Au_1
 have Ar_2 : v2.heap[B + 1]? = some (.cells #[.int .i64 xr, .int .i64 yr, .slice ar nr cr] 42 (0, 0)) := e1.blk Ar_1
 have Ap_2 : v2.heap[B + 1 + 1]? = some (.cells #[.int .i64 xp, .int .i64 yp, .slice ap np cp] 42 (0, 0)) := e1.blk Ap_1
 have AM_2 : IB v2 (B + 1 + 1 + 1) 45 mm.zs := AM_1.ext e1
 have E_2 : Ext w v2 := E_1.trans e1
 clear Au_1 Ar_1 Ap_1 AM_1 E_1 e1
 by_cases hnegr : (1048576 - (nu : Int) : Int) - nr < 0
 ·rw [if_pos hnegr]
  go_wp2
  go_ret
  exact ⟨rfl, E_2⟩
 rw [if_neg hnegr]
 have hdr : decide ((1048576 - (nu : Int) : Int) - (nr : Int) < 0) = false := by simpa using hnegr
 obtain ⟨-, kAu0, kAu1, kAu2, -⟩ := bx3 Au_2
 obtain ⟨-, kAr0, kAr1, kAr2, -⟩ := bx3 Ar_2
 obtain ⟨-, kAp0, kAp1, kAp2, -⟩ := bx3 Ap_2
 go_wp2_with (first | (refine wpList_iload 45 _ rfl rfl AM_2 0 71 rfl _ Tryd.underlying45 rfl size_lMacro (by rw [Hl.out]; omega) _ (by rw [sub_all _ _ Hl.out]) ?_))
 refine (szPicture_any xp yp ap cp np (1048576 - (nu : Int) - (nr : Int)) _ hnp (by omega) (by omega)).mono ?_
 rintro e v3 ⟨rfl, e1⟩
 clear kAu0 kAu1 kAu2 kAr0 kAr1 kAr2 kAp0 kAp1 kAp2
 have Au_3 : v3.heap[B]? = some (.cells #[.int .i64 xu, .int .i64 yu, .slice au nu cu] 42 (0, 0)) := e1.blk Au_2
 have Ar_3 : v3.heap[B + 1]? = some (.cells #[.int .i64 xr, .int .i64 yr, .slice ar nr cr] 42 (0, 0)) := e1.blk Ar_2
 have Ap_3 : v3.heap[B + 1 + 1]? = some (.cells #[.int .i64 xp, .int .i64 yp, .slice ap np cp] 42 (0, 0)) := e1.blk Ap_2
 have AM_3 : IB v3 (B + 1 + 1 + 1) 45 mm.zs := AM_2.ext e1
 have E_3 : Ext w v3 := E_2.trans e1
 clear Au_2 Ar_2 Ap_2 AM_2 E_2 e1
 by_cases hnegp : (1048576 - (nu : Int) - (nr : Int) : Int) - np < 0
 ·rw [if_pos hnegp]
  go_wp2
  go_ret
  exact ⟨rfl, E_3⟩
 rw [if_neg hnegp]
 have hdp : decide ((1048576 - (nu : Int) - (nr : Int) : Int) - (np : Int) < 0) = false := by simpa using hnegp
 have h40u : nu < 2^40 := by omega
 have h40r : nr < 2^40 := by omega
 have h40p : np < 2^40 := by omega
 go_upto_region 11 with fail
 obtain ⟨h0, hh0⟩ : ∃ h, h = v3.heap.size := ⟨_, rfl⟩
 have HH0 := Lib.hid hh0
 have hlo : B + 1 + 1 + 1 < h0 := by rw [hh0]; exact lt_of_block AM_3
 clear hh0
 have hext : ∀ (i : Nat) (own : Value) (ys : Nat → Value) (wa wb : World), Ext wa wb → (match i with | 0 => own = .agg #[.int .i64 xu, .int .i64 yu, .slice au nu cu] | 1 => ∃ (a2 : Option Addr) (c2 : Nat), own = .agg #[.int .i64 xu, .int .i64 yu, .slice a2 nu c2] ∧ wa.ownsRow v3.heap.size 3 1 (.slice a2 nu c2) nu (zu.map (Value.int .i64)) | 2 => own = .agg #[.int .i64 xr, .int .i64 yr, .slice ar nr cr] | 3 => ∃ (a2 : Option Addr) (c2 : Nat), own = .agg #[.int .i64 xr, .int .i64 yr, .slice a2 nr c2] ∧ wa.ownsRow v3.heap.size 3 1 (.slice a2 nr c2) nr (zr.map (Value.int .i64)) | 4 => own = .agg #[.int .i64 xp, .int .i64 yp, .slice ap np cp] | 5 => ∃ (a2 : Option Addr) (c2 : Nat), own = .agg #[.int .i64 xp, .int .i64 yp, .slice a2 np c2] ∧ wa.ownsRow v3.heap.size 3 1 (.slice a2 np c2) np (zp.map (Value.int .i64)) | 6 => own = .int .i64 x | 7 => own = .int .i64 y | 8 => own = .agg (ic mm.zs) | 9 => own = .agg (ic mm.zs) | 10 => own = .int .i64 q | 11 => own = .int .i64 top | 12 => own = .int .i64 R | 13 => own = .int .i64 R | _ => True) → (match i with | 0 => own = .agg #[.int .i64 xu, .int .i64 yu, .slice au nu cu] | 1 => ∃ (a2 : Option Addr) (c2 : Nat), own = .agg #[.int .i64 xu, .int .i64 yu, .slice a2 nu c2] ∧ wb.ownsRow v3.heap.size 3 1 (.slice a2 nu c2) nu (zu.map (Value.int .i64)) | 2 => own = .agg #[.int .i64 xr, .int .i64 yr, .slice ar nr cr] | 3 => ∃ (a2 : Option Addr) (c2 : Nat), own = .agg #[.int .i64 xr, .int .i64 yr, .slice a2 nr c2] ∧ wb.ownsRow v3.heap.size 3 1 (.slice a2 nr c2) nr (zr.map (Value.int .i64)) | 4 => own = .agg #[.int .i64 xp, .int .i64 yp, .slice ap np cp] | 5 => ∃ (a2 : Option Addr) (c2 : Nat), own = .agg #[.int .i64 xp, .int .i64 yp, .slice a2 np c2] ∧ wb.ownsRow v3.heap.size 3 1 (.slice a2 np c2) np (zp.map (Value.int .i64)) | 6 => own = .int .i64 x | 7 => own = .int .i64 y | 8 => own = .agg (ic mm.zs) | 9 => own = .agg (ic mm.zs) | 10 => own = .int .i64 q | 11 => own = .int .i64 top | 12 => own = .int .i64 R | 13 => own = .int .i64 R | _ => True) := by
  intro i own ys wa wb e h
  match i, h with
  | 0, h => exact h
  | 1, h => obtain ⟨a2, c2, h1, h2⟩ := h; exact ⟨a2, c2, h1, owns_ext h2 e⟩
  | 2, h => exact h
  | 3, h => obtain ⟨a2, c2, h1, h2⟩ := h; exact ⟨a2, c2, h1, owns_ext h2 e⟩
  | 4, h => exact h
  | 5, h => obtain ⟨a2, c2, h1, h2⟩ := h; exact ⟨a2, c2, h1, owns_ext h2 e⟩
  | 6, h => exact h
  | 7, h => exact h
  | 8, h => exact h
  | 9, h => exact h
  | 10, h => exact h
  | 11, h => exact h
  | 12, h => exact h
  | 13, h => exact h
  | _ + 14, _ => trivial
 have Hext := Lib.hid hext
 clear hext
 refine wp_region_inv2 (by kernel_rfl) [(18, 13), (38, 0), (39, 1), (40, 2), (41, 3), (42, 4), (43, 5), (44, 6), (45, 7), (46, 8), (47, 9), (48, 10), (49, 11), (50, 12)] [[], [0], [], [0, 1, 2], [], [0, 1, 2, 3, 4], [], [], [], [0, 1, 2, 3, 4, 5, 8], [], [], [0, 1, 2, 3, 4, 5, 6, 7, 8, 9, 10, 11], [0, 1, 2, 3, 4, 5, 6, 7, 8, 9, 10, 11, 12]] (fun i own ys wx => match i with | 0 => own = .agg #[.int .i64 xu, .int .i64 yu, .slice au nu cu] | 1 => ∃ (a2 : Option Addr) (c2 : Nat), own = .agg #[.int .i64 xu, .int .i64 yu, .slice a2 nu c2] ∧ wx.ownsRow v3.heap.size 3 1 (.slice a2 nu c2) nu (zu.map (Value.int .i64)) | 2 => own = .agg #[.int .i64 xr, .int .i64 yr, .slice ar nr cr] | 3 => ∃ (a2 : Option Addr) (c2 : Nat), own = .agg #[.int .i64 xr, .int .i64 yr, .slice a2 nr c2] ∧ wx.ownsRow v3.heap.size 3 1 (.slice a2 nr c2) nr (zr.map (Value.int .i64)) | 4 => own = .agg #[.int .i64 xp, .int .i64 yp, .slice ap np cp] | 5 => ∃ (a2 : Option Addr) (c2 : Nat), own = .agg #[.int .i64 xp, .int .i64 yp, .slice a2 np c2] ∧ wx.ownsRow v3.heap.size 3 1 (.slice a2 np c2) np (zp.map (Value.int .i64)) | 6 => own = .int .i64 x | 7 => own = .int .i64 y | 8 => own = .agg (ic mm.zs) | 9 => own = .agg (ic mm.zs) | 10 => own = .int .i64 q | 11 => own = .int .i64 top | 12 => own = .int .i64 R | 13 => own = .int .i64 R | _ => True) (fun kx wx => Ext v3 wx) (by kernel_rfl) (by kernel_rfl) (by kernel_rfl) ?g0_r1 ?gop_r1 ?gend_r1
 case g0_r1 => exact Ext.drewN _ 1
 case gop_r1 =>
  refine ⟨?_, ?_, ?_, ?_, ?_, ?_, ?_, ?_, ?_, ?_, ?_, ?_, ?_, ?_, trivial⟩
  ·intro kx xs wx hk hG hD hI Qo Kx hK hQo
   clear hD hI
   simp only [patchS, Nat.reduceAdd, Nat.reduceEqDiff, ↓reduceIte] at hQo ⊢
   obtain ⟨-, k0, k1, k2, -⟩ := bx3 (hG.blk Au_3)
   go_wp2
   exact hK.out _ _ ⟨rfl, hG, fun _ _ _ _ _ _ h => h⟩
  ·intro kx xs wx hk hG hD hI Qo Kx hK hQo
   have d0 : (xs 0) = .agg #[.int .i64 xu, .int .i64 yu, .slice au nu cu] := hD 0 rfl
   clear hD hI
   simp only [patchS, Nat.reduceAdd, Nat.reduceEqDiff, ↓reduceIte] at hQo ⊢
   generalize xs 0 = y0 at *
   subst d0
   go_wp2_with fail
   refine (toPicture_any xu yu au nu cu zu _ (by omega) (slu.ext (E_3.trans hG))).mono ?_
   rintro e wz ⟨az, cz, rfl, ownz, ez⟩
   go_wp2
   exact hK.out _ _ ⟨⟨az, cz, rfl, owns_mono ownz hG.size⟩, hG.trans ez, fun i _ _ _ own ys h => Hext.out i own ys _ _ ez h⟩
  ·intro kx xs wx hk hG hD hI Qo Kx hK hQo
   clear hD hI
   simp only [patchS, Nat.reduceAdd, Nat.reduceEqDiff, ↓reduceIte] at hQo ⊢
   obtain ⟨-, k0, k1, k2, -⟩ := bx3 (hG.blk Ar_3)
   go_wp2
   exact hK.out _ _ ⟨rfl, hG, fun _ _ _ _ _ _ h => h⟩
  ·intro kx xs wx hk hG hD hI Qo Kx hK hQo
   have d2 : (xs 2) = .agg #[.int .i64 xr, .int .i64 yr, .slice ar nr cr] := hD 2 rfl
   clear hD hI
   simp only [patchS, Nat.reduceAdd, Nat.reduceEqDiff, ↓reduceIte] at hQo ⊢
   generalize xs 2 = y2 at *
   subst d2
   go_wp2_with fail
   refine (toPicture_any xr yr ar nr cr zr _ (by omega) (slr.ext (E_3.trans hG))).mono ?_
   rintro e wz ⟨az, cz, rfl, ownz, ez⟩
   go_wp2
   exact hK.out _ _ ⟨⟨az, cz, rfl, owns_mono ownz hG.size⟩, hG.trans ez, fun i _ _ _ own ys h => Hext.out i own ys _ _ ez h⟩
  ·intro kx xs wx hk hG hD hI Qo Kx hK hQo
   clear hD hI
   simp only [patchS, Nat.reduceAdd, Nat.reduceEqDiff, ↓reduceIte] at hQo ⊢
   obtain ⟨-, k0, k1, k2, -⟩ := bx3 (hG.blk Ap_3)
   go_wp2
   exact hK.out _ _ ⟨rfl, hG, fun _ _ _ _ _ _ h => h⟩
  ·intro kx xs wx hk hG hD hI Qo Kx hK hQo
   have d4 : (xs 4) = .agg #[.int .i64 xp, .int .i64 yp, .slice ap np cp] := hD 4 rfl
   clear hD hI
   simp only [patchS, Nat.reduceAdd, Nat.reduceEqDiff, ↓reduceIte] at hQo ⊢
   generalize xs 4 = y4 at *
   subst d4
   go_wp2_with fail
   refine (toPicture_any xp yp ap np cp zp _ (by omega) (slp.ext (E_3.trans hG))).mono ?_
   rintro e wz ⟨az, cz, rfl, ownz, ez⟩
   go_wp2
   exact hK.out _ _ ⟨⟨az, cz, rfl, owns_mono ownz hG.size⟩, hG.trans ez, fun i _ _ _ own ys h => Hext.out i own ys _ _ ez h⟩
  ·intro kx xs wx hk hG hD hI Qo Kx hK hQo
   clear hD hI
   simp only [patchS, Nat.reduceAdd, Nat.reduceEqDiff, ↓reduceIte] at hQo ⊢
   go_wp2
   exact hK.out _ _ ⟨rfl, hG, fun _ _ _ _ _ _ h => h⟩
  ·intro kx xs wx hk hG hD hI Qo Kx hK hQo
   clear hD hI
   simp only [patchS, Nat.reduceAdd, Nat.reduceEqDiff, ↓reduceIte] at hQo ⊢
   go_wp2
   exact hK.out _ _ ⟨rfl, hG, fun _ _ _ _ _ _ h => h⟩
  ·intro kx xs wx hk hG hD hI Qo Kx hK hQo
   clear hD hI
   simp only [patchS, Nat.reduceAdd, Nat.reduceEqDiff, ↓reduceIte] at hQo ⊢
   go_wp2_with (refine wpList_iload 45 _ rfl rfl (AM_3.ext hG) 0 71 rfl _ Tryd.underlying45 rfl size_lMacro (by rw [Hl.out]; omega) _ (by rw [sub_all _ _ Hl.out]) ?_)
   exact hK.out _ _ ⟨rfl, hG, fun _ _ _ _ _ _ h => h⟩
  ·intro kx xs wx hk hG hD hI Qo Kx hK hQo
   have d8 : (xs 8) = .agg (ic mm.zs) := hD 8 rfl
   clear hD hI
   simp only [patchS, Nat.reduceAdd, Nat.reduceEqDiff, ↓reduceIte] at hQo ⊢
   generalize xs 8 = y8 at *
   subst d8
   go_wp2_with fail
   refine (toMacro_any mm _ Hm.out).mono ?_
   rintro e wz ⟨rfl, ez⟩
   go_wp2
   exact hK.out _ _ ⟨rfl, hG.trans ez, fun i _ _ _ own ys h => Hext.out i own ys _ _ ez h⟩
  ·intro kx xs wx hk hG hD hI Qo Kx hK hQo
   clear hD hI
   simp only [patchS, Nat.reduceAdd, Nat.reduceEqDiff, ↓reduceIte] at hQo ⊢
   go_wp2
   exact hK.out _ _ ⟨rfl, hG, fun _ _ _ _ _ _ h => h⟩
  ·intro kx xs wx hk hG hD hI Qo Kx hK hQo
   clear hD hI
   simp only [patchS, Nat.reduceAdd, Nat.reduceEqDiff, ↓reduceIte] at hQo ⊢
   go_wp2
   exact hK.out _ _ ⟨rfl, hG, fun _ _ _ _ _ _ h => h⟩
  ·intro kx xs wx hk hG hD hI Qo Kx hK hQo
   have d1 : ∃ (a2 : Option Addr) (c2 : Nat), (xs 1) = .agg #[.int .i64 xu, .int .i64 yu, .slice a2 nu c2] ∧ wx.ownsRow v3.heap.size 3 1 (.slice a2 nu c2) nu (zu.map (Value.int .i64)) := hD 1 rfl
   have d3 : ∃ (a2 : Option Addr) (c2 : Nat), (xs 3) = .agg #[.int .i64 xr, .int .i64 yr, .slice a2 nr c2] ∧ wx.ownsRow v3.heap.size 3 1 (.slice a2 nr c2) nr (zr.map (Value.int .i64)) := hD 3 rfl
   have d5 : ∃ (a2 : Option Addr) (c2 : Nat), (xs 5) = .agg #[.int .i64 xp, .int .i64 yp, .slice a2 np c2] ∧ wx.ownsRow v3.heap.size 3 1 (.slice a2 np c2) np (zp.map (Value.int .i64)) := hD 5 rfl
   have d6 : (xs 6) = .int .i64 x := hD 6 rfl
   have d7 : (xs 7) = .int .i64 y := hD 7 rfl
   have d9 : (xs 9) = .agg (ic mm.zs) := hD 9 rfl
   have d10 : (xs 10) = .int .i64 q := hD 10 rfl
   have d11 : (xs 11) = .int .i64 top := hD 11 rfl
   clear hD hI
   simp only [patchS, Nat.reduceAdd, Nat.reduceEqDiff, ↓reduceIte] at hQo ⊢
   generalize xs 1 = y1 at *
   generalize xs 3 = y3 at *
   generalize xs 5 = y5 at *
   generalize xs 6 = y6 at *
   generalize xs 7 = y7 at *
   generalize xs 9 = y9 at *
   generalize xs 10 = y10 at *
   generalize xs 11 = y11 at *
   obtain ⟨a1, c1, rfl, o1⟩ := d1
   obtain ⟨a3, c3, rfl, o3⟩ := d3
   obtain ⟨a5, c5, rfl, o5⟩ := d5
   subst d6 d7 d9 d10 d11
   go_wp2_with fail
   refine (HS.out a1 c1 a3 c3 a5 c5 _ (Sl.of_owns o1) (Sl.of_owns o3) (Sl.of_owns o5)).mono ?_
   rintro e wz ⟨rfl, ez⟩
   go_wp2
   exact hK.out _ _ ⟨rfl, hG.trans ez, fun i _ _ _ own ys h => Hext.out i own ys _ _ ez h⟩
  ·intro kx xs wx hk hG hD hI Qo Kx hK hQo
   have d12 : (xs 12) = .int .i64 R := hD 12 rfl
   clear hD hI
   simp only [patchS, Nat.reduceAdd, Nat.reduceEqDiff, ↓reduceIte] at hQo ⊢
   generalize xs 12 = y12 at *
   subst d12
   go_wp2
   exact hK.out _ _ ⟨rfl, hG, fun _ _ _ _ _ _ h => h⟩
 clear Hext
 intro xs wx hV hG
 have d0 : (xs 0) = .agg #[.int .i64 xu, .int .i64 yu, .slice au nu cu] := hV 0 (by decide)
 have d1 : ∃ (a2 : Option Addr) (c2 : Nat), (xs 1) = .agg #[.int .i64 xu, .int .i64 yu, .slice a2 nu c2] ∧ wx.ownsRow v3.heap.size 3 1 (.slice a2 nu c2) nu (zu.map (Value.int .i64)) := hV 1 (by decide)
 have d2 : (xs 2) = .agg #[.int .i64 xr, .int .i64 yr, .slice ar nr cr] := hV 2 (by decide)
 have d3 : ∃ (a2 : Option Addr) (c2 : Nat), (xs 3) = .agg #[.int .i64 xr, .int .i64 yr, .slice a2 nr c2] ∧ wx.ownsRow v3.heap.size 3 1 (.slice a2 nr c2) nr (zr.map (Value.int .i64)) := hV 3 (by decide)
 have d4 : (xs 4) = .agg #[.int .i64 xp, .int .i64 yp, .slice ap np cp] := hV 4 (by decide)
 have d5 : ∃ (a2 : Option Addr) (c2 : Nat), (xs 5) = .agg #[.int .i64 xp, .int .i64 yp, .slice a2 np c2] ∧ wx.ownsRow v3.heap.size 3 1 (.slice a2 np c2) np (zp.map (Value.int .i64)) := hV 5 (by decide)
 have d6 : (xs 6) = .int .i64 x := hV 6 (by decide)
 have d7 : (xs 7) = .int .i64 y := hV 7 (by decide)
 have d8 : (xs 8) = .agg (ic mm.zs) := hV 8 (by decide)
 have d9 : (xs 9) = .agg (ic mm.zs) := hV 9 (by decide)
 have d10 : (xs 10) = .int .i64 q := hV 10 (by decide)
 have d11 : (xs 11) = .int .i64 top := hV 11 (by decide)
 have d12 : (xs 12) = .int .i64 R := hV 12 (by decide)
 have d13 : (xs 13) = .int .i64 R := hV 13 (by decide)
 clear hV
 simp only [patchS, Nat.reduceAdd, Nat.reduceEqDiff, ↓reduceIte]
 generalize xs 0 = y0 at *
 generalize xs 1 = y1 at *
 generalize xs 2 = y2 at *
 generalize xs 3 = y3 at *
 generalize xs 4 = y4 at *
 generalize xs 5 = y5 at *
 generalize xs 6 = y6 at *
 generalize xs 7 = y7 at *
 generalize xs 8 = y8 at *
 generalize xs 9 = y9 at *
 generalize xs 10 = y10 at *
 generalize xs 11 = y11 at *
 generalize xs 12 = y12 at *
 generalize xs 13 = y13 at *
 replace hG : Ext v3 wx := hG
 clear d0 d1 d2 d3 d4 d5 d6 d7 d8 d9 d10 d11 d12
 subst d13
 generalize wx = v4 at *
 have hsg := hG.size
 clear hsg
 have Au_4 : v4.heap[B]? = some (.cells #[.int .i64 xu, .int .i64 yu, .slice au nu cu] 42 (0, 0)) := hG.blk Au_3
 have Ar_4 : v4.heap[B + 1]? = some (.cells #[.int .i64 xr, .int .i64 yr, .slice ar nr cr] 42 (0, 0)) := hG.blk Ar_3
 have Ap_4 : v4.heap[B + 1 + 1]? = some (.cells #[.int .i64 xp, .int .i64 yp, .slice ap np cp] 42 (0, 0)) := hG.blk Ap_3
 have AM_4 : IB v4 (B + 1 + 1 + 1) 45 mm.zs := AM_3.ext hG
 have E_4 : Ext w v4 := E_3.trans hG
 clear Au_3 Ar_3 Ap_3 AM_3 E_3 hG
 obtain ⟨-, kAu0, kAu1, kAu2, -⟩ := bx3 Au_4
 obtain ⟨-, kAr0, kAr1, kAr2, -⟩ := bx3 Ar_4
 obtain ⟨-, kAp0, kAp1, kAp2, -⟩ := bx3 Ap_4
 go_wp2_with (first | (refine wpList_iload 45 _ rfl rfl AM_4 0 71 rfl _ Tryd.underlying45 rfl size_lMacro (by rw [Hl.out]; omega) _ (by rw [sub_all _ _ Hl.out]) ?_))
 refine (toPicture_any xu yu au nu cu zu _ (by omega) (slu.ext E_4)).mono ?_
 rintro e uu ⟨aXu, cXu, rfl, oXu, e1⟩
 clear kAu0 kAu1 kAu2 kAr0 kAr1 kAr2 kAp0 kAp1 kAp2
 have ea := Ext.alloc uu (.cells #[.int .i64 xu, .int .i64 yu, .slice aXu nu cXu] 25)
 have ee := e1.trans ea
 obtain ⟨bXu, hbxu⟩ : ∃ d, d = uu.heap.size := ⟨_, rfl⟩
 have hsz1 := e1.size
 obtain ⟨h1, hh1⟩ : ∃ h, h = v4.heap.size := ⟨_, rfl⟩
 have HH1 := Lib.hid hh1
 have hlo : B + 1 + 1 + 1 < h1 := by rw [hh1]; exact lt_of_block AM_4
 clear hh1
 rw [← HH1.out] at oXu hsz1
 have RXu := Lib.hid (show ∀ k, (Value.slice aXu nu cXu).ownBlock = some k → h1 ≤ k ∧ k < bXu from fun k hk => by rw [hbxu]; exact oXu.lt k hk)
 rw [← hbxu] at hsz1
 have hblu : h1 ≤ bXu := hsz1
 clear hsz1
 have Au_5 : (uu.alloc (.cells #[.int .i64 xu, .int .i64 yu, .slice aXu nu cXu] 25)).heap[B]? = some (.cells #[.int .i64 xu, .int .i64 yu, .slice au nu cu] 42 (0, 0)) := ee.blk Au_4
 have Ar_5 : (uu.alloc (.cells #[.int .i64 xu, .int .i64 yu, .slice aXu nu cXu] 25)).heap[B + 1]? = some (.cells #[.int .i64 xr, .int .i64 yr, .slice ar nr cr] 42 (0, 0)) := ee.blk Ar_4
 have Ap_5 : (uu.alloc (.cells #[.int .i64 xu, .int .i64 yu, .slice aXu nu cXu] 25)).heap[B + 1 + 1]? = some (.cells #[.int .i64 xp, .int .i64 yp, .slice ap np cp] 42 (0, 0)) := ee.blk Ap_4
 have AM_5 : IB (uu.alloc (.cells #[.int .i64 xu, .int .i64 yu, .slice aXu nu cXu] 25)) (B + 1 + 1 + 1) 45 mm.zs := AM_4.ext ee
 have E_5 : Ext w (uu.alloc (.cells #[.int .i64 xu, .int .i64 yu, .slice aXu nu cXu] 25)) := E_4.trans ee
 clear Au_4 Ar_4 Ap_4 AM_4 E_4
 have OXu_5 := owns_ext oXu ea
 have BXu_5 : PX (uu.alloc (.cells #[.int .i64 xu, .int .i64 yu, .slice aXu nu cXu] 25)) bXu xu yu aXu nu cXu := by rw [hbxu]; exact blk_new _ _
 obtain ⟨h2, hh2⟩ : ∃ h, h = (uu.alloc (.cells #[.int .i64 xu, .int .i64 yu, .slice aXu nu cXu] 25)).heap.size := ⟨_, rfl⟩
 have hbuu : bXu < h2 := by rw [hh2, hbxu]; simp
 have HH2 := Lib.hid hh2
 clear hh2 oXu ea ee e1
 obtain ⟨-, kAu0, kAu1, kAu2, -⟩ := bx3 Au_5
 obtain ⟨-, kAr0, kAr1, kAr2, -⟩ := bx3 Ar_5
 obtain ⟨-, kAp0, kAp1, kAp2, -⟩ := bx3 Ap_5
 go_wp2_with (first | (refine wpList_iload 45 _ rfl rfl AM_5 0 71 rfl _ Tryd.underlying45 rfl size_lMacro (by rw [Hl.out]; omega) _ (by rw [sub_all _ _ Hl.out]) ?_))
 rw [← hbxu]
 generalize uu.alloc (.cells #[.int .i64 xu, .int .i64 yu, .slice aXu nu cXu] 25) = v5x at *
 clear hbxu
 refine (toPicture_any xr yr ar nr cr zr _ (by omega) (slr.ext E_5)).mono ?_
 rintro e ur ⟨aXr, cXr, rfl, oXr, e1⟩
 clear kAu0 kAu1 kAu2 kAr0 kAr1 kAr2 kAp0 kAp1 kAp2
 have ea := Ext.alloc ur (.cells #[.int .i64 xr, .int .i64 yr, .slice aXr nr cXr] 25)
 have ee := e1.trans ea
 obtain ⟨bXr, hbxr⟩ : ∃ d, d = ur.heap.size := ⟨_, rfl⟩
 have hsz1 := e1.size
 rw [← HH2.out] at oXr hsz1
 have RXr := Lib.hid (show ∀ k, (Value.slice aXr nr cXr).ownBlock = some k → h2 ≤ k ∧ k < bXr from fun k hk => by rw [hbxr]; exact oXr.lt k hk)
 rw [← hbxr] at hsz1
 have hblr : h2 ≤ bXr := hsz1
 clear hsz1
 have Au_6 : (ur.alloc (.cells #[.int .i64 xr, .int .i64 yr, .slice aXr nr cXr] 25)).heap[B]? = some (.cells #[.int .i64 xu, .int .i64 yu, .slice au nu cu] 42 (0, 0)) := ee.blk Au_5
 have Ar_6 : (ur.alloc (.cells #[.int .i64 xr, .int .i64 yr, .slice aXr nr cXr] 25)).heap[B + 1]? = some (.cells #[.int .i64 xr, .int .i64 yr, .slice ar nr cr] 42 (0, 0)) := ee.blk Ar_5
 have Ap_6 : (ur.alloc (.cells #[.int .i64 xr, .int .i64 yr, .slice aXr nr cXr] 25)).heap[B + 1 + 1]? = some (.cells #[.int .i64 xp, .int .i64 yp, .slice ap np cp] 42 (0, 0)) := ee.blk Ap_5
 have AM_6 : IB (ur.alloc (.cells #[.int .i64 xr, .int .i64 yr, .slice aXr nr cXr] 25)) (B + 1 + 1 + 1) 45 mm.zs := AM_5.ext ee
 have E_6 : Ext w (ur.alloc (.cells #[.int .i64 xr, .int .i64 yr, .slice aXr nr cXr] 25)) := E_5.trans ee
 have OXu_6 : (ur.alloc (.cells #[.int .i64 xr, .int .i64 yr, .slice aXr nr cXr] 25)).ownsRow h1 3 1 (.slice aXu nu cXu) nu (zu.map (Value.int .i64)) := owns_ext OXu_5 ee
 have BXu_6 : PX (ur.alloc (.cells #[.int .i64 xr, .int .i64 yr, .slice aXr nr cXr] 25)) bXu xu yu aXu nu cXu := BXu_5.ext ee
 clear Au_5 Ar_5 Ap_5 AM_5 E_5 OXu_5 BXu_5
 have OXr_6 := owns_ext oXr ea
 have BXr_6 : PX (ur.alloc (.cells #[.int .i64 xr, .int .i64 yr, .slice aXr nr cXr] 25)) bXr xr yr aXr nr cXr := by rw [hbxr]; exact blk_new _ _
 obtain ⟨h3, hh3⟩ : ∃ h, h = (ur.alloc (.cells #[.int .i64 xr, .int .i64 yr, .slice aXr nr cXr] 25)).heap.size := ⟨_, rfl⟩
 have hbur : bXr < h3 := by rw [hh3, hbxr]; simp
 have HH3 := Lib.hid hh3
 clear hh3 oXr ea ee e1
 obtain ⟨-, kAu0, kAu1, kAu2, -⟩ := bx3 Au_6
 obtain ⟨-, kAr0, kAr1, kAr2, -⟩ := bx3 Ar_6
 obtain ⟨-, kAp0, kAp1, kAp2, -⟩ := bx3 Ap_6
 go_wp2_with (first | (refine wpList_iload 45 _ rfl rfl AM_6 0 71 rfl _ Tryd.underlying45 rfl size_lMacro (by rw [Hl.out]; omega) _ (by rw [sub_all _ _ Hl.out]) ?_))
 rw [← hbxr]
 generalize ur.alloc (.cells #[.int .i64 xr, .int .i64 yr, .slice aXr nr cXr] 25) = v6x at *
 clear hbxr
 refine (toPicture_any xp yp ap np cp zp _ (by omega) (slp.ext E_6)).mono ?_
 rintro e up ⟨aXp, cXp, rfl, oXp, e1⟩
 clear kAu0 kAu1 kAu2 kAr0 kAr1 kAr2 kAp0 kAp1 kAp2
 have ea := Ext.alloc up (.cells #[.int .i64 xp, .int .i64 yp, .slice aXp np cXp] 25)
 have ee := e1.trans ea
 obtain ⟨bXp, hbxp⟩ : ∃ d, d = up.heap.size := ⟨_, rfl⟩
 have hsz1 := e1.size
 rw [← HH3.out] at oXp hsz1
 have RXp := Lib.hid (show ∀ k, (Value.slice aXp np cXp).ownBlock = some k → h3 ≤ k ∧ k < bXp from fun k hk => by rw [hbxp]; exact oXp.lt k hk)
 rw [← hbxp] at hsz1
 have hblp : h3 ≤ bXp := hsz1
 clear hsz1
 have Au_7 : (up.alloc (.cells #[.int .i64 xp, .int .i64 yp, .slice aXp np cXp] 25)).heap[B]? = some (.cells #[.int .i64 xu, .int .i64 yu, .slice au nu cu] 42 (0, 0)) := ee.blk Au_6
 have Ar_7 : (up.alloc (.cells #[.int .i64 xp, .int .i64 yp, .slice aXp np cXp] 25)).heap[B + 1]? = some (.cells #[.int .i64 xr, .int .i64 yr, .slice ar nr cr] 42 (0, 0)) := ee.blk Ar_6
 have Ap_7 : (up.alloc (.cells #[.int .i64 xp, .int .i64 yp, .slice aXp np cXp] 25)).heap[B + 1 + 1]? = some (.cells #[.int .i64 xp, .int .i64 yp, .slice ap np cp] 42 (0, 0)) := ee.blk Ap_6
 have AM_7 : IB (up.alloc (.cells #[.int .i64 xp, .int .i64 yp, .slice aXp np cXp] 25)) (B + 1 + 1 + 1) 45 mm.zs := AM_6.ext ee
 have E_7 : Ext w (up.alloc (.cells #[.int .i64 xp, .int .i64 yp, .slice aXp np cXp] 25)) := E_6.trans ee
 have OXu_7 : (up.alloc (.cells #[.int .i64 xp, .int .i64 yp, .slice aXp np cXp] 25)).ownsRow h1 3 1 (.slice aXu nu cXu) nu (zu.map (Value.int .i64)) := owns_ext OXu_6 ee
 have BXu_7 : PX (up.alloc (.cells #[.int .i64 xp, .int .i64 yp, .slice aXp np cXp] 25)) bXu xu yu aXu nu cXu := BXu_6.ext ee
 have OXr_7 : (up.alloc (.cells #[.int .i64 xp, .int .i64 yp, .slice aXp np cXp] 25)).ownsRow h2 3 1 (.slice aXr nr cXr) nr (zr.map (Value.int .i64)) := owns_ext OXr_6 ee
 have BXr_7 : PX (up.alloc (.cells #[.int .i64 xp, .int .i64 yp, .slice aXp np cXp] 25)) bXr xr yr aXr nr cXr := BXr_6.ext ee
 clear Au_6 Ar_6 Ap_6 AM_6 E_6 OXu_6 BXu_6 OXr_6 BXr_6
 have OXp_7 := owns_ext oXp ea
 have BXp_7 : PX (up.alloc (.cells #[.int .i64 xp, .int .i64 yp, .slice aXp np cXp] 25)) bXp xp yp aXp np cXp := by rw [hbxp]; exact blk_new _ _
 obtain ⟨h4, hh4⟩ : ∃ h, h = (up.alloc (.cells #[.int .i64 xp, .int .i64 yp, .slice aXp np cXp] 25)).heap.size := ⟨_, rfl⟩
 have hbup : bXp < h4 := by rw [hh4, hbxp]; simp
 have HH4 := Lib.hid hh4
 clear hh4 oXp ea ee e1
 go_upto_region 15 with fail
 rw [← hbxp]
 generalize up.alloc (.cells #[.int .i64 xp, .int .i64 yp, .slice aXp np cXp] 25) = v7x at *
 clear hbxp
 have hext : ∀ (i : Nat) (own : Value) (ys : Nat → Value) (wa wb : World), Ext wa wb → (match i with | 0 => own = .agg #[.int .i64 xu, .int .i64 yu, .slice aXu nu cXu] | 1 => own = .agg #[.int .i64 xr, .int .i64 yr, .slice aXr nr cXr] | 2 => own = .agg #[.int .i64 xp, .int .i64 yp, .slice aXp np cXp] | 3 => own = .int .i64 x | 4 => own = .int .i64 y | 5 => own = .agg (ic mm.zs) | 6 => own = .agg (ic mm.zs) | 7 => own = .int .i64 q | 8 => own = .int .i64 top | 9 => own = .int .i64 R | 10 => own = .int .i64 R | _ => True) → (match i with | 0 => own = .agg #[.int .i64 xu, .int .i64 yu, .slice aXu nu cXu] | 1 => own = .agg #[.int .i64 xr, .int .i64 yr, .slice aXr nr cXr] | 2 => own = .agg #[.int .i64 xp, .int .i64 yp, .slice aXp np cXp] | 3 => own = .int .i64 x | 4 => own = .int .i64 y | 5 => own = .agg (ic mm.zs) | 6 => own = .agg (ic mm.zs) | 7 => own = .int .i64 q | 8 => own = .int .i64 top | 9 => own = .int .i64 R | 10 => own = .int .i64 R | _ => True) := by
  intro i own ys wa wb e h
  match i, h with
  | 0, h => exact h
  | 1, h => exact h
  | 2, h => exact h
  | 3, h => exact h
  | 4, h => exact h
  | 5, h => exact h
  | 6, h => exact h
  | 7, h => exact h
  | 8, h => exact h
  | 9, h => exact h
  | 10, h => exact h
  | _ + 11, _ => trivial
 have Hext := Lib.hid hext
 clear hext
 refine wp_region_inv2 (by kernel_rfl) [(22, 10), (57, 0), (58, 1), (59, 2), (60, 3), (61, 4), (62, 5), (63, 6), (64, 7), (65, 8), (66, 9)] [[], [], [], [], [], [], [5], [], [], [0, 1, 2, 3, 4, 5, 6, 7, 8], [0, 1, 2, 3, 4, 5, 6, 7, 8, 9]] (fun i own ys wx => match i with | 0 => own = .agg #[.int .i64 xu, .int .i64 yu, .slice aXu nu cXu] | 1 => own = .agg #[.int .i64 xr, .int .i64 yr, .slice aXr nr cXr] | 2 => own = .agg #[.int .i64 xp, .int .i64 yp, .slice aXp np cXp] | 3 => own = .int .i64 x | 4 => own = .int .i64 y | 5 => own = .agg (ic mm.zs) | 6 => own = .agg (ic mm.zs) | 7 => own = .int .i64 q | 8 => own = .int .i64 top | 9 => own = .int .i64 R | 10 => own = .int .i64 R | _ => True) (fun kx wx => Ext v7x wx) (by kernel_rfl) (by kernel_rfl) (by kernel_rfl) ?g0_r2 ?gop_r2 ?gend_r2
 case g0_r2 => exact Ext.drewN _ 1
 case gop_r2 =>
  refine ⟨?_, ?_, ?_, ?_, ?_, ?_, ?_, ?_, ?_, ?_, ?_, trivial⟩
  ·intro kx xs wx hk hG hD hI Qo Kx hK hQo
   clear hD hI
   simp only [patchS, Nat.reduceAdd, Nat.reduceEqDiff, ↓reduceIte] at hQo ⊢
   obtain ⟨k0, k1, k2⟩ := PX.cells (BXu_7.ext hG)
   go_wp2
   exact hK.out _ _ ⟨rfl, hG, fun _ _ _ _ _ _ h => h⟩
  ·intro kx xs wx hk hG hD hI Qo Kx hK hQo
   clear hD hI
   simp only [patchS, Nat.reduceAdd, Nat.reduceEqDiff, ↓reduceIte] at hQo ⊢
   obtain ⟨k0, k1, k2⟩ := PX.cells (BXr_7.ext hG)
   go_wp2
   exact hK.out _ _ ⟨rfl, hG, fun _ _ _ _ _ _ h => h⟩
  ·intro kx xs wx hk hG hD hI Qo Kx hK hQo
   clear hD hI
   simp only [patchS, Nat.reduceAdd, Nat.reduceEqDiff, ↓reduceIte] at hQo ⊢
   obtain ⟨k0, k1, k2⟩ := PX.cells (BXp_7.ext hG)
   go_wp2
   exact hK.out _ _ ⟨rfl, hG, fun _ _ _ _ _ _ h => h⟩
  ·intro kx xs wx hk hG hD hI Qo Kx hK hQo
   clear hD hI
   simp only [patchS, Nat.reduceAdd, Nat.reduceEqDiff, ↓reduceIte] at hQo ⊢
   go_wp2
   exact hK.out _ _ ⟨rfl, hG, fun _ _ _ _ _ _ h => h⟩
  ·intro kx xs wx hk hG hD hI Qo Kx hK hQo
   clear hD hI
   simp only [patchS, Nat.reduceAdd, Nat.reduceEqDiff, ↓reduceIte] at hQo ⊢
   go_wp2
   exact hK.out _ _ ⟨rfl, hG, fun _ _ _ _ _ _ h => h⟩
  ·intro kx xs wx hk hG hD hI Qo Kx hK hQo
   clear hD hI
   simp only [patchS, Nat.reduceAdd, Nat.reduceEqDiff, ↓reduceIte] at hQo ⊢
   go_wp2_with (refine wpList_iload 45 _ rfl rfl (AM_7.ext hG) 0 71 rfl _ Tryd.underlying45 rfl size_lMacro (by rw [Hl.out]; omega) _ (by rw [sub_all _ _ Hl.out]) ?_)
   exact hK.out _ _ ⟨rfl, hG, fun _ _ _ _ _ _ h => h⟩
  ·intro kx xs wx hk hG hD hI Qo Kx hK hQo
   have d5 : (xs 5) = .agg (ic mm.zs) := hD 5 rfl
   clear hD hI
   simp only [patchS, Nat.reduceAdd, Nat.reduceEqDiff, ↓reduceIte] at hQo ⊢
   generalize xs 5 = y5 at *
   subst d5
   go_wp2_with fail
   refine (toMacro_any mm _ Hm.out).mono ?_
   rintro e wz ⟨rfl, ez⟩
   go_wp2
   exact hK.out _ _ ⟨rfl, hG.trans ez, fun i _ _ _ own ys h => Hext.out i own ys _ _ ez h⟩
  ·intro kx xs wx hk hG hD hI Qo Kx hK hQo
   clear hD hI
   simp only [patchS, Nat.reduceAdd, Nat.reduceEqDiff, ↓reduceIte] at hQo ⊢
   go_wp2
   exact hK.out _ _ ⟨rfl, hG, fun _ _ _ _ _ _ h => h⟩
  ·intro kx xs wx hk hG hD hI Qo Kx hK hQo
   clear hD hI
   simp only [patchS, Nat.reduceAdd, Nat.reduceEqDiff, ↓reduceIte] at hQo ⊢
   go_wp2
   exact hK.out _ _ ⟨rfl, hG, fun _ _ _ _ _ _ h => h⟩
  ·intro kx xs wx hk hG hD hI Qo Kx hK hQo
   have d0 : (xs 0) = .agg #[.int .i64 xu, .int .i64 yu, .slice aXu nu cXu] := hD 0 rfl
   have d1 : (xs 1) = .agg #[.int .i64 xr, .int .i64 yr, .slice aXr nr cXr] := hD 1 rfl
   have d2 : (xs 2) = .agg #[.int .i64 xp, .int .i64 yp, .slice aXp np cXp] := hD 2 rfl
   have d3 : (xs 3) = .int .i64 x := hD 3 rfl
   have d4 : (xs 4) = .int .i64 y := hD 4 rfl
   have d6 : (xs 6) = .agg (ic mm.zs) := hD 6 rfl
   have d7 : (xs 7) = .int .i64 q := hD 7 rfl
   have d8 : (xs 8) = .int .i64 top := hD 8 rfl
   clear hD hI
   simp only [patchS, Nat.reduceAdd, Nat.reduceEqDiff, ↓reduceIte] at hQo ⊢
   generalize xs 0 = y0 at *
   generalize xs 1 = y1 at *
   generalize xs 2 = y2 at *
   generalize xs 3 = y3 at *
   generalize xs 4 = y4 at *
   generalize xs 6 = y6 at *
   generalize xs 7 = y7 at *
   generalize xs 8 = y8 at *
   subst d0 d1 d2 d3 d4 d6 d7 d8
   go_wp2_with fail
   refine (HI.out aXu cXu aXr cXr aXp cXp _ (hT.ext (E_7.trans hG)) ((Sl.of_owns OXu_7).ext hG) ((Sl.of_owns OXr_7).ext hG) ((Sl.of_owns OXp_7).ext hG)).mono ?_
   rintro e wz ⟨rfl, ez⟩
   go_wp2
   exact hK.out _ _ ⟨rfl, hG.trans ez, fun i _ _ _ own ys h => Hext.out i own ys _ _ ez h⟩
  ·intro kx xs wx hk hG hD hI Qo Kx hK hQo
   have d9 : (xs 9) = .int .i64 R := hD 9 rfl
   clear hD hI
   simp only [patchS, Nat.reduceAdd, Nat.reduceEqDiff, ↓reduceIte] at hQo ⊢
   generalize xs 9 = y9 at *
   subst d9
   go_wp2
   exact hK.out _ _ ⟨rfl, hG, fun _ _ _ _ _ _ h => h⟩
 clear Hext
 intro xs wx hV hG
 have d0 : (xs 0) = .agg #[.int .i64 xu, .int .i64 yu, .slice aXu nu cXu] := hV 0 (by decide)
 have d1 : (xs 1) = .agg #[.int .i64 xr, .int .i64 yr, .slice aXr nr cXr] := hV 1 (by decide)
 have d2 : (xs 2) = .agg #[.int .i64 xp, .int .i64 yp, .slice aXp np cXp] := hV 2 (by decide)
 have d3 : (xs 3) = .int .i64 x := hV 3 (by decide)
 have d4 : (xs 4) = .int .i64 y := hV 4 (by decide)
 have d5 : (xs 5) = .agg (ic mm.zs) := hV 5 (by decide)
 have d6 : (xs 6) = .agg (ic mm.zs) := hV 6 (by decide)
 have d7 : (xs 7) = .int .i64 q := hV 7 (by decide)
 have d8 : (xs 8) = .int .i64 top := hV 8 (by decide)
 have d9 : (xs 9) = .int .i64 R := hV 9 (by decide)
 have d10 : (xs 10) = .int .i64 R := hV 10 (by decide)
 clear hV
 simp only [patchS, Nat.reduceAdd, Nat.reduceEqDiff, ↓reduceIte]
 generalize xs 0 = y0 at *
 generalize xs 1 = y1 at *
 generalize xs 2 = y2 at *
 generalize xs 3 = y3 at *
 generalize xs 4 = y4 at *
 generalize xs 5 = y5 at *
 generalize xs 6 = y6 at *
 generalize xs 7 = y7 at *
 generalize xs 8 = y8 at *
 generalize xs 9 = y9 at *
 generalize xs 10 = y10 at *
 replace hG : Ext v7x wx := hG
 clear d0 d1 d2 d3 d4 d5 d6 d7 d8 d9
 subst d10
 generalize wx = v8 at *
 have hsg := hG.size
 clear hsg
 have Au_8 : v8.heap[B]? = some (.cells #[.int .i64 xu, .int .i64 yu, .slice au nu cu] 42 (0, 0)) := hG.blk Au_7
 have Ar_8 : v8.heap[B + 1]? = some (.cells #[.int .i64 xr, .int .i64 yr, .slice ar nr cr] 42 (0, 0)) := hG.blk Ar_7
 have Ap_8 : v8.heap[B + 1 + 1]? = some (.cells #[.int .i64 xp, .int .i64 yp, .slice ap np cp] 42 (0, 0)) := hG.blk Ap_7
 have AM_8 : IB v8 (B + 1 + 1 + 1) 45 mm.zs := AM_7.ext hG
 have E_8 : Ext w v8 := E_7.trans hG
 have OXu_8 : v8.ownsRow h1 3 1 (.slice aXu nu cXu) nu (zu.map (Value.int .i64)) := owns_ext OXu_7 hG
 have BXu_8 : PX v8 bXu xu yu aXu nu cXu := BXu_7.ext hG
 have OXr_8 : v8.ownsRow h2 3 1 (.slice aXr nr cXr) nr (zr.map (Value.int .i64)) := owns_ext OXr_7 hG
 have BXr_8 : PX v8 bXr xr yr aXr nr cXr := BXr_7.ext hG
 have OXp_8 : v8.ownsRow h3 3 1 (.slice aXp np cXp) np (zp.map (Value.int .i64)) := owns_ext OXp_7 hG
 have BXp_8 : PX v8 bXp xp yp aXp np cXp := BXp_7.ext hG
 clear Au_7 Ar_7 Ap_7 AM_7 E_7 OXu_7 BXu_7 OXr_7 BXr_7 OXp_7 BXp_7 hG
 have hne : (R != R) = false := by simp
 go_upto_region 18 with fail
 have hext : ∀ (i : Nat) (own : Value) (ys : Nat → Value) (wa wb : World), Ext wa wb → (match i with | 0 => own = .agg #[.int .i64 xu, .int .i64 yu, .slice aXu nu cXu] | 1 => own = .agg #[.int .i64 xu, .int .i64 yu, .slice au nu cu] | 2 => ∃ (a2 : Option Addr) (c2 : Nat), own = .agg #[.int .i64 xu, .int .i64 yu, .slice a2 nu c2] ∧ wa.ownsRow v8.heap.size 3 1 (.slice a2 nu c2) nu (zu.map (Value.int .i64)) | 3 => own = .bool true | 4 => own = .bool false | _ => True) → (match i with | 0 => own = .agg #[.int .i64 xu, .int .i64 yu, .slice aXu nu cXu] | 1 => own = .agg #[.int .i64 xu, .int .i64 yu, .slice au nu cu] | 2 => ∃ (a2 : Option Addr) (c2 : Nat), own = .agg #[.int .i64 xu, .int .i64 yu, .slice a2 nu c2] ∧ wb.ownsRow v8.heap.size 3 1 (.slice a2 nu c2) nu (zu.map (Value.int .i64)) | 3 => own = .bool true | 4 => own = .bool false | _ => True) := by
  intro i own ys wa wb e h
  match i, h with
  | 0, h => exact h
  | 1, h => exact h
  | 2, h => obtain ⟨a2, c2, h1, h2⟩ := h; exact ⟨a2, c2, h1, owns_ext h2 e⟩
  | 3, h => exact h
  | 4, h => exact h
  | _ + 5, _ => trivial
 have Hext := Lib.hid hext
 clear hext
 refine wp_region_inv2 (by kernel_rfl) [(70, 0), (71, 1), (72, 2), (73, 3), (74, 4)] [[], [], [1], [0, 1, 2], [0, 1, 2, 3]] (fun i own ys wx => match i with | 0 => own = .agg #[.int .i64 xu, .int .i64 yu, .slice aXu nu cXu] | 1 => own = .agg #[.int .i64 xu, .int .i64 yu, .slice au nu cu] | 2 => ∃ (a2 : Option Addr) (c2 : Nat), own = .agg #[.int .i64 xu, .int .i64 yu, .slice a2 nu c2] ∧ wx.ownsRow v8.heap.size 3 1 (.slice a2 nu c2) nu (zu.map (Value.int .i64)) | 3 => own = .bool true | 4 => own = .bool false | _ => True) (fun kx wx => Ext v8 wx) (by kernel_rfl) (by kernel_rfl) (by kernel_rfl) ?g0_r3 ?gop_r3 ?gend_r3
 case g0_r3 => exact Ext.drewN _ 1
 case gop_r3 =>
  refine ⟨?_, ?_, ?_, ?_, ?_, trivial⟩
  ·intro kx xs wx hk hG hD hI Qo Kx hK hQo
   clear hD hI
   simp only [patchS, Nat.reduceAdd, Nat.reduceEqDiff, ↓reduceIte] at hQo ⊢
   obtain ⟨k0, k1, k2⟩ := PX.cells (BXu_8.ext hG)
   go_wp2
   exact hK.out _ _ ⟨rfl, hG, fun _ _ _ _ _ _ h => h⟩
  ·intro kx xs wx hk hG hD hI Qo Kx hK hQo
   clear hD hI
   simp only [patchS, Nat.reduceAdd, Nat.reduceEqDiff, ↓reduceIte] at hQo ⊢
   obtain ⟨-, k0, k1, k2, -⟩ := bx3 (hG.blk Au_8)
   go_wp2
   exact hK.out _ _ ⟨rfl, hG, fun _ _ _ _ _ _ h => h⟩
  ·intro kx xs wx hk hG hD hI Qo Kx hK hQo
   have d1 : (xs 1) = .agg #[.int .i64 xu, .int .i64 yu, .slice au nu cu] := hD 1 rfl
   clear hD hI
   simp only [patchS, Nat.reduceAdd, Nat.reduceEqDiff, ↓reduceIte] at hQo ⊢
   generalize xs 1 = y1 at *
   subst d1
   go_wp2_with fail
   refine (toPicture_any xu yu au nu cu zu _ (by omega) (slu.ext (E_8.trans hG))).mono ?_
   rintro e wz ⟨az, cz, rfl, ownz, ez⟩
   go_wp2
   exact hK.out _ _ ⟨⟨az, cz, rfl, owns_mono ownz hG.size⟩, hG.trans ez, fun i _ _ _ own ys h => Hext.out i own ys _ _ ez h⟩
  ·intro kx xs wx hk hG hD hI Qo Kx hK hQo
   have d0 : (xs 0) = .agg #[.int .i64 xu, .int .i64 yu, .slice aXu nu cXu] := hD 0 rfl
   have d2 : ∃ (a2 : Option Addr) (c2 : Nat), (xs 2) = .agg #[.int .i64 xu, .int .i64 yu, .slice a2 nu c2] ∧ wx.ownsRow v8.heap.size 3 1 (.slice a2 nu c2) nu (zu.map (Value.int .i64)) := hD 2 rfl
   clear hD hI
   simp only [patchS, Nat.reduceAdd, Nat.reduceEqDiff, ↓reduceIte] at hQo ⊢
   generalize xs 0 = y0 at *
   generalize xs 2 = y2 at *
   subst d0
   obtain ⟨a2, c2, rfl, o2⟩ := d2
   go_wp2_with fail
   refine (eqPicture_same xu yu aXu a2 cXu c2 nu zu _ (by omega) ((Sl.of_owns OXu_8).ext hG) (Sl.of_owns o2)).mono ?_
   rintro e wz ⟨rfl, ez⟩
   go_wp2
   exact hK.out _ _ ⟨rfl, hG.trans ez, fun i _ _ _ own ys h => Hext.out i own ys _ _ ez h⟩
  ·intro kx xs wx hk hG hD hI Qo Kx hK hQo
   have d3 : (xs 3) = .bool true := hD 3 rfl
   clear hD hI
   simp only [patchS, Nat.reduceAdd, Nat.reduceEqDiff, ↓reduceIte] at hQo ⊢
   generalize xs 3 = y3 at *
   subst d3
   go_wp2
   exact hK.out _ _ ⟨rfl, hG, fun _ _ _ _ _ _ h => h⟩
 clear Hext
 intro xs wx hV hG
 have d0 : (xs 0) = .agg #[.int .i64 xu, .int .i64 yu, .slice aXu nu cXu] := hV 0 (by decide)
 have d1 : (xs 1) = .agg #[.int .i64 xu, .int .i64 yu, .slice au nu cu] := hV 1 (by decide)
 have d2 : ∃ (a2 : Option Addr) (c2 : Nat), (xs 2) = .agg #[.int .i64 xu, .int .i64 yu, .slice a2 nu c2] ∧ wx.ownsRow v8.heap.size 3 1 (.slice a2 nu c2) nu (zu.map (Value.int .i64)) := hV 2 (by decide)
 have d3 : (xs 3) = .bool true := hV 3 (by decide)
 have d4 : (xs 4) = .bool false := hV 4 (by decide)
 clear hV
 simp only [patchS, Nat.reduceAdd, Nat.reduceEqDiff, ↓reduceIte]
 generalize xs 0 = y0 at *
 generalize xs 1 = y1 at *
 generalize xs 2 = y2 at *
 generalize xs 3 = y3 at *
 generalize xs 4 = y4 at *
 replace hG : Ext v8 wx := hG
 clear d0 d1 d2 d3
 subst d4
 generalize wx = v9 at *
 have hsg := hG.size
 clear hsg
 have Au_9 : v9.heap[B]? = some (.cells #[.int .i64 xu, .int .i64 yu, .slice au nu cu] 42 (0, 0)) := hG.blk Au_8
 have Ar_9 : v9.heap[B + 1]? = some (.cells #[.int .i64 xr, .int .i64 yr, .slice ar nr cr] 42 (0, 0)) := hG.blk Ar_8
 have Ap_9 : v9.heap[B + 1 + 1]? = some (.cells #[.int .i64 xp, .int .i64 yp, .slice ap np cp] 42 (0, 0)) := hG.blk Ap_8
 have AM_9 : IB v9 (B + 1 + 1 + 1) 45 mm.zs := AM_8.ext hG
 have E_9 : Ext w v9 := E_8.trans hG
 have OXu_9 : v9.ownsRow h1 3 1 (.slice aXu nu cXu) nu (zu.map (Value.int .i64)) := owns_ext OXu_8 hG
 have BXu_9 : PX v9 bXu xu yu aXu nu cXu := BXu_8.ext hG
 have OXr_9 : v9.ownsRow h2 3 1 (.slice aXr nr cXr) nr (zr.map (Value.int .i64)) := owns_ext OXr_8 hG
 have BXr_9 : PX v9 bXr xr yr aXr nr cXr := BXr_8.ext hG
 have OXp_9 : v9.ownsRow h3 3 1 (.slice aXp np cXp) np (zp.map (Value.int .i64)) := owns_ext OXp_8 hG
 have BXp_9 : PX v9 bXp xp yp aXp np cXp := BXp_8.ext hG
 clear Au_8 Ar_8 Ap_8 AM_8 E_8 OXu_8 BXu_8 OXr_8 BXr_8 OXp_8 BXp_8 hG
 go_upto_region 20 with fail
 have hext : ∀ (i : Nat) (own : Value) (ys : Nat → Value) (wa wb : World), Ext wa wb → (match i with | 0 => own = .agg #[.int .i64 xr, .int .i64 yr, .slice aXr nr cXr] | 1 => own = .agg #[.int .i64 xr, .int .i64 yr, .slice ar nr cr] | 2 => ∃ (a2 : Option Addr) (c2 : Nat), own = .agg #[.int .i64 xr, .int .i64 yr, .slice a2 nr c2] ∧ wa.ownsRow v9.heap.size 3 1 (.slice a2 nr c2) nr (zr.map (Value.int .i64)) | 3 => own = .bool true | 4 => own = .bool false | _ => True) → (match i with | 0 => own = .agg #[.int .i64 xr, .int .i64 yr, .slice aXr nr cXr] | 1 => own = .agg #[.int .i64 xr, .int .i64 yr, .slice ar nr cr] | 2 => ∃ (a2 : Option Addr) (c2 : Nat), own = .agg #[.int .i64 xr, .int .i64 yr, .slice a2 nr c2] ∧ wb.ownsRow v9.heap.size 3 1 (.slice a2 nr c2) nr (zr.map (Value.int .i64)) | 3 => own = .bool true | 4 => own = .bool false | _ => True) := by
  intro i own ys wa wb e h
  match i, h with
  | 0, h => exact h
  | 1, h => exact h
  | 2, h => obtain ⟨a2, c2, h1, h2⟩ := h; exact ⟨a2, c2, h1, owns_ext h2 e⟩
  | 3, h => exact h
  | 4, h => exact h
  | _ + 5, _ => trivial
 have Hext := Lib.hid hext
 clear hext
 refine wp_region_inv2 (by kernel_rfl) [(75, 0), (76, 1), (77, 2), (78, 3), (79, 4)] [[], [], [1], [0, 1, 2], [0, 1, 2, 3]] (fun i own ys wx => match i with | 0 => own = .agg #[.int .i64 xr, .int .i64 yr, .slice aXr nr cXr] | 1 => own = .agg #[.int .i64 xr, .int .i64 yr, .slice ar nr cr] | 2 => ∃ (a2 : Option Addr) (c2 : Nat), own = .agg #[.int .i64 xr, .int .i64 yr, .slice a2 nr c2] ∧ wx.ownsRow v9.heap.size 3 1 (.slice a2 nr c2) nr (zr.map (Value.int .i64)) | 3 => own = .bool true | 4 => own = .bool false | _ => True) (fun kx wx => Ext v9 wx) (by kernel_rfl) (by kernel_rfl) (by kernel_rfl) ?g0_r4 ?gop_r4 ?gend_r4
 case g0_r4 => exact Ext.drewN _ 1
 case gop_r4 =>
  refine ⟨?_, ?_, ?_, ?_, ?_, trivial⟩
  ·intro kx xs wx hk hG hD hI Qo Kx hK hQo
   clear hD hI
   simp only [patchS, Nat.reduceAdd, Nat.reduceEqDiff, ↓reduceIte] at hQo ⊢
   obtain ⟨k0, k1, k2⟩ := PX.cells (BXr_9.ext hG)
   go_wp2
   exact hK.out _ _ ⟨rfl, hG, fun _ _ _ _ _ _ h => h⟩
  ·intro kx xs wx hk hG hD hI Qo Kx hK hQo
   clear hD hI
   simp only [patchS, Nat.reduceAdd, Nat.reduceEqDiff, ↓reduceIte] at hQo ⊢
   obtain ⟨-, k0, k1, k2, -⟩ := bx3 (hG.blk Ar_9)
   go_wp2
   exact hK.out _ _ ⟨rfl, hG, fun _ _ _ _ _ _ h => h⟩
  ·intro kx xs wx hk hG hD hI Qo Kx hK hQo
   have d1 : (xs 1) = .agg #[.int .i64 xr, .int .i64 yr, .slice ar nr cr] := hD 1 rfl
   clear hD hI
   simp only [patchS, Nat.reduceAdd, Nat.reduceEqDiff, ↓reduceIte] at hQo ⊢
   generalize xs 1 = y1 at *
   subst d1
   go_wp2_with fail
   refine (toPicture_any xr yr ar nr cr zr _ (by omega) (slr.ext (E_9.trans hG))).mono ?_
   rintro e wz ⟨az, cz, rfl, ownz, ez⟩
   go_wp2
   exact hK.out _ _ ⟨⟨az, cz, rfl, owns_mono ownz hG.size⟩, hG.trans ez, fun i _ _ _ own ys h => Hext.out i own ys _ _ ez h⟩
  ·intro kx xs wx hk hG hD hI Qo Kx hK hQo
   have d0 : (xs 0) = .agg #[.int .i64 xr, .int .i64 yr, .slice aXr nr cXr] := hD 0 rfl
   have d2 : ∃ (a2 : Option Addr) (c2 : Nat), (xs 2) = .agg #[.int .i64 xr, .int .i64 yr, .slice a2 nr c2] ∧ wx.ownsRow v9.heap.size 3 1 (.slice a2 nr c2) nr (zr.map (Value.int .i64)) := hD 2 rfl
   clear hD hI
   simp only [patchS, Nat.reduceAdd, Nat.reduceEqDiff, ↓reduceIte] at hQo ⊢
   generalize xs 0 = y0 at *
   generalize xs 2 = y2 at *
   subst d0
   obtain ⟨a2, c2, rfl, o2⟩ := d2
   go_wp2_with fail
   refine (eqPicture_same xr yr aXr a2 cXr c2 nr zr _ (by omega) ((Sl.of_owns OXr_9).ext hG) (Sl.of_owns o2)).mono ?_
   rintro e wz ⟨rfl, ez⟩
   go_wp2
   exact hK.out _ _ ⟨rfl, hG.trans ez, fun i _ _ _ own ys h => Hext.out i own ys _ _ ez h⟩
  ·intro kx xs wx hk hG hD hI Qo Kx hK hQo
   have d3 : (xs 3) = .bool true := hD 3 rfl
   clear hD hI
   simp only [patchS, Nat.reduceAdd, Nat.reduceEqDiff, ↓reduceIte] at hQo ⊢
   generalize xs 3 = y3 at *
   subst d3
   go_wp2
   exact hK.out _ _ ⟨rfl, hG, fun _ _ _ _ _ _ h => h⟩
 clear Hext
 intro xs wx hV hG
 have d0 : (xs 0) = .agg #[.int .i64 xr, .int .i64 yr, .slice aXr nr cXr] := hV 0 (by decide)
 have d1 : (xs 1) = .agg #[.int .i64 xr, .int .i64 yr, .slice ar nr cr] := hV 1 (by decide)
 have d2 : ∃ (a2 : Option Addr) (c2 : Nat), (xs 2) = .agg #[.int .i64 xr, .int .i64 yr, .slice a2 nr c2] ∧ wx.ownsRow v9.heap.size 3 1 (.slice a2 nr c2) nr (zr.map (Value.int .i64)) := hV 2 (by decide)
 have d3 : (xs 3) = .bool true := hV 3 (by decide)
 have d4 : (xs 4) = .bool false := hV 4 (by decide)
 clear hV
 simp only [patchS, Nat.reduceAdd, Nat.reduceEqDiff, ↓reduceIte]
 generalize xs 0 = y0 at *
 generalize xs 1 = y1 at *
 generalize xs 2 = y2 at *
 generalize xs 3 = y3 at *
 generalize xs 4 = y4 at *
 replace hG : Ext v9 wx := hG
 clear d0 d1 d2 d3
 subst d4
 generalize wx = v10 at *
 have hsg := hG.size
 clear hsg
 have Au_10 : v10.heap[B]? = some (.cells #[.int .i64 xu, .int .i64 yu, .slice au nu cu] 42 (0, 0)) := hG.blk Au_9
 have Ar_10 : v10.heap[B + 1]? = some (.cells #[.int .i64 xr, .int .i64 yr, .slice ar nr cr] 42 (0, 0)) := hG.blk Ar_9
 have Ap_10 : v10.heap[B + 1 + 1]? = some (.cells #[.int .i64 xp, .int .i64 yp, .slice ap np cp] 42 (0, 0)) := hG.blk Ap_9
 have AM_10 : IB v10 (B + 1 + 1 + 1) 45 mm.zs := AM_9.ext hG
 have E_10 : Ext w v10 := E_9.trans hG
 have OXu_10 : v10.ownsRow h1 3 1 (.slice aXu nu cXu) nu (zu.map (Value.int .i64)) := owns_ext OXu_9 hG
 have BXu_10 : PX v10 bXu xu yu aXu nu cXu := BXu_9.ext hG
 have OXr_10 : v10.ownsRow h2 3 1 (.slice aXr nr cXr) nr (zr.map (Value.int .i64)) := owns_ext OXr_9 hG
 have BXr_10 : PX v10 bXr xr yr aXr nr cXr := BXr_9.ext hG
 have OXp_10 : v10.ownsRow h3 3 1 (.slice aXp np cXp) np (zp.map (Value.int .i64)) := owns_ext OXp_9 hG
 have BXp_10 : PX v10 bXp xp yp aXp np cXp := BXp_9.ext hG
 clear Au_9 Ar_9 Ap_9 AM_9 E_9 OXu_9 BXu_9 OXr_9 BXr_9 OXp_9 BXp_9 hG
 go_upto_region 22 with fail
 have hext : ∀ (i : Nat) (own : Value) (ys : Nat → Value) (wa wb : World), Ext wa wb → (match i with | 0 => own = .agg #[.int .i64 xp, .int .i64 yp, .slice aXp np cXp] | 1 => own = .agg #[.int .i64 xp, .int .i64 yp, .slice ap np cp] | 2 => ∃ (a2 : Option Addr) (c2 : Nat), own = .agg #[.int .i64 xp, .int .i64 yp, .slice a2 np c2] ∧ wa.ownsRow v10.heap.size 3 1 (.slice a2 np c2) np (zp.map (Value.int .i64)) | 3 => own = .bool true | 4 => own = .bool false | _ => True) → (match i with | 0 => own = .agg #[.int .i64 xp, .int .i64 yp, .slice aXp np cXp] | 1 => own = .agg #[.int .i64 xp, .int .i64 yp, .slice ap np cp] | 2 => ∃ (a2 : Option Addr) (c2 : Nat), own = .agg #[.int .i64 xp, .int .i64 yp, .slice a2 np c2] ∧ wb.ownsRow v10.heap.size 3 1 (.slice a2 np c2) np (zp.map (Value.int .i64)) | 3 => own = .bool true | 4 => own = .bool false | _ => True) := by
  intro i own ys wa wb e h
  match i, h with
  | 0, h => exact h
  | 1, h => exact h
  | 2, h => obtain ⟨a2, c2, h1, h2⟩ := h; exact ⟨a2, c2, h1, owns_ext h2 e⟩
  | 3, h => exact h
  | 4, h => exact h
  | _ + 5, _ => trivial
 have Hext := Lib.hid hext
 clear hext
 refine wp_region_inv2 (by kernel_rfl) [(80, 0), (81, 1), (82, 2), (83, 3), (84, 4)] [[], [], [1], [0, 1, 2], [0, 1, 2, 3]] (fun i own ys wx => match i with | 0 => own = .agg #[.int .i64 xp, .int .i64 yp, .slice aXp np cXp] | 1 => own = .agg #[.int .i64 xp, .int .i64 yp, .slice ap np cp] | 2 => ∃ (a2 : Option Addr) (c2 : Nat), own = .agg #[.int .i64 xp, .int .i64 yp, .slice a2 np c2] ∧ wx.ownsRow v10.heap.size 3 1 (.slice a2 np c2) np (zp.map (Value.int .i64)) | 3 => own = .bool true | 4 => own = .bool false | _ => True) (fun kx wx => Ext v10 wx) (by kernel_rfl) (by kernel_rfl) (by kernel_rfl) ?g0_r5 ?gop_r5 ?gend_r5
 case g0_r5 => exact Ext.drewN _ 1
 case gop_r5 =>
  refine ⟨?_, ?_, ?_, ?_, ?_, trivial⟩
  ·intro kx xs wx hk hG hD hI Qo Kx hK hQo
   clear hD hI
   simp only [patchS, Nat.reduceAdd, Nat.reduceEqDiff, ↓reduceIte] at hQo ⊢
   obtain ⟨k0, k1, k2⟩ := PX.cells (BXp_10.ext hG)
   go_wp2
   exact hK.out _ _ ⟨rfl, hG, fun _ _ _ _ _ _ h => h⟩
  ·intro kx xs wx hk hG hD hI Qo Kx hK hQo
   clear hD hI
   simp only [patchS, Nat.reduceAdd, Nat.reduceEqDiff, ↓reduceIte] at hQo ⊢
   obtain ⟨-, k0, k1, k2, -⟩ := bx3 (hG.blk Ap_10)
   go_wp2
   exact hK.out _ _ ⟨rfl, hG, fun _ _ _ _ _ _ h => h⟩
  ·intro kx xs wx hk hG hD hI Qo Kx hK hQo
   have d1 : (xs 1) = .agg #[.int .i64 xp, .int .i64 yp, .slice ap np cp] := hD 1 rfl
   clear hD hI
   simp only [patchS, Nat.reduceAdd, Nat.reduceEqDiff, ↓reduceIte] at hQo ⊢
   generalize xs 1 = y1 at *
   subst d1
   go_wp2_with fail
   refine (toPicture_any xp yp ap np cp zp _ (by omega) (slp.ext (E_10.trans hG))).mono ?_
   rintro e wz ⟨az, cz, rfl, ownz, ez⟩
   go_wp2
   exact hK.out _ _ ⟨⟨az, cz, rfl, owns_mono ownz hG.size⟩, hG.trans ez, fun i _ _ _ own ys h => Hext.out i own ys _ _ ez h⟩
  ·intro kx xs wx hk hG hD hI Qo Kx hK hQo
   have d0 : (xs 0) = .agg #[.int .i64 xp, .int .i64 yp, .slice aXp np cXp] := hD 0 rfl
   have d2 : ∃ (a2 : Option Addr) (c2 : Nat), (xs 2) = .agg #[.int .i64 xp, .int .i64 yp, .slice a2 np c2] ∧ wx.ownsRow v10.heap.size 3 1 (.slice a2 np c2) np (zp.map (Value.int .i64)) := hD 2 rfl
   clear hD hI
   simp only [patchS, Nat.reduceAdd, Nat.reduceEqDiff, ↓reduceIte] at hQo ⊢
   generalize xs 0 = y0 at *
   generalize xs 2 = y2 at *
   subst d0
   obtain ⟨a2, c2, rfl, o2⟩ := d2
   go_wp2_with fail
   refine (eqPicture_same xp yp aXp a2 cXp c2 np zp _ (by omega) ((Sl.of_owns OXp_10).ext hG) (Sl.of_owns o2)).mono ?_
   rintro e wz ⟨rfl, ez⟩
   go_wp2
   exact hK.out _ _ ⟨rfl, hG.trans ez, fun i _ _ _ own ys h => Hext.out i own ys _ _ ez h⟩
  ·intro kx xs wx hk hG hD hI Qo Kx hK hQo
   have d3 : (xs 3) = .bool true := hD 3 rfl
   clear hD hI
   simp only [patchS, Nat.reduceAdd, Nat.reduceEqDiff, ↓reduceIte] at hQo ⊢
   generalize xs 3 = y3 at *
   subst d3
   go_wp2
   exact hK.out _ _ ⟨rfl, hG, fun _ _ _ _ _ _ h => h⟩
 clear Hext
 intro xs wx hV hG
 have d0 : (xs 0) = .agg #[.int .i64 xp, .int .i64 yp, .slice aXp np cXp] := hV 0 (by decide)
 have d1 : (xs 1) = .agg #[.int .i64 xp, .int .i64 yp, .slice ap np cp] := hV 1 (by decide)
 have d2 : ∃ (a2 : Option Addr) (c2 : Nat), (xs 2) = .agg #[.int .i64 xp, .int .i64 yp, .slice a2 np c2] ∧ wx.ownsRow v10.heap.size 3 1 (.slice a2 np c2) np (zp.map (Value.int .i64)) := hV 2 (by decide)
 have d3 : (xs 3) = .bool true := hV 3 (by decide)
 have d4 : (xs 4) = .bool false := hV 4 (by decide)
 clear hV
 simp only [patchS, Nat.reduceAdd, Nat.reduceEqDiff, ↓reduceIte]
 generalize xs 0 = y0 at *
 generalize xs 1 = y1 at *
 generalize xs 2 = y2 at *
 generalize xs 3 = y3 at *
 generalize xs 4 = y4 at *
 replace hG : Ext v10 wx := hG
 clear d0 d1 d2 d3
 subst d4
 generalize wx = v11 at *
 have hsg := hG.size
 clear hsg
 have Au_11 : v11.heap[B]? = some (.cells #[.int .i64 xu, .int .i64 yu, .slice au nu cu] 42 (0, 0)) := hG.blk Au_10
 have Ar_11 : v11.heap[B + 1]? = some (.cells #[.int .i64 xr, .int .i64 yr, .slice ar nr cr] 42 (0, 0)) := hG.blk Ar_10
 have Ap_11 : v11.heap[B + 1 + 1]? = some (.cells #[.int .i64 xp, .int .i64 yp, .slice ap np cp] 42 (0, 0)) := hG.blk Ap_10
 have AM_11 : IB v11 (B + 1 + 1 + 1) 45 mm.zs := AM_10.ext hG
 have E_11 : Ext w v11 := E_10.trans hG
 have OXu_11 : v11.ownsRow h1 3 1 (.slice aXu nu cXu) nu (zu.map (Value.int .i64)) := owns_ext OXu_10 hG
 have BXu_11 : PX v11 bXu xu yu aXu nu cXu := BXu_10.ext hG
 have OXr_11 : v11.ownsRow h2 3 1 (.slice aXr nr cXr) nr (zr.map (Value.int .i64)) := owns_ext OXr_10 hG
 have BXr_11 : PX v11 bXr xr yr aXr nr cXr := BXr_10.ext hG
 have OXp_11 : v11.ownsRow h3 3 1 (.slice aXp np cXp) np (zp.map (Value.int .i64)) := owns_ext OXp_10 hG
 have BXp_11 : PX v11 bXp xp yp aXp np cXp := BXp_10.ext hG
 clear Au_10 Ar_10 Ap_10 AM_10 E_10 OXu_10 BXu_10 OXr_10 BXr_10 OXp_10 BXp_10 hG
 go_wp2
 go_ret
 exact ⟨rfl, E_11⟩
end Go.Proofs.YtbnhaegidfbgbaaDoor
namespace Go.Proofs.YtbnhaegidfbgbaaDoor
open Go.RowKit Go.ChangeShapes Go.WideShapes
section
variable {H : Type} {enc : TypeId × Value → H} {P : Program} {w : World}
/-- The cells cs read as a value of type t. -/
def Cells (enc : TypeId × Value → H) (P : Program) (w : World) (t : TypeId) (cs : List Value) : Prop :=
 ∃ fuel x, DataW.trod enc P w 0 (fun _ => true) true fuel t cs = some x
theorem Cells.of_trod {t : TypeId} {v : Value} {d : DataW H} {ps : List MemPlace} (h : DataW.Trod enc P w 0 (fun _ => true) true t v d ps) : Cells enc P w t v.cells.toList := by
 obtain ⟨fuel, hf⟩ := h
 exact ⟨fuel, _, hf⟩
theorem Cells.int {t : TypeId} {k : IntKind} {cs : List Value} (h : Cells enc P w t cs) (ht : P.underlying t = some (.int k)) : ∃ n, cs = [.int k n] ∧ (Lit.int k n).wf = true := by
 obtain ⟨fuel, x, hf⟩ := h
 obtain ⟨n, h1, -, h2⟩ := DataW.trod_int ht hf
 exact ⟨n, h1, h2⟩
theorem Cells.bool {t : TypeId} {cs : List Value} (h : Cells enc P w t cs) (ht : P.underlying t = some .bool) : ∃ b, cs = [.bool b] := by
 obtain ⟨fuel, x, hf⟩ := h
 obtain ⟨n, h1, -⟩ := DataW.trod_bool ht hf
 exact ⟨n, h1⟩
theorem add_add (a : Addr) (i j : Nat) : a.add (i + j) = (a.add i).add j := by
 unfold Addr.add
 by_cases h1 : i = 0
 ·subst h1; simp
 ·by_cases h2 : j = 0
  ·subst h2; simp
  ·simp [h1, h2, Nat.add_assoc]
/-- A slice whose elements have c cells each: cell j of element i. -/
theorem Cells.slice {t e : TypeId} {c : Nat} {cs : List Value} (h : Cells enc P w t cs) (ht : P.underlying t = some (.slice e)) (hc : P.cellsOf e = c) :
 ∃ a n cap, cs = [.slice a n cap] ∧ (n ≤ cap ∧ cap ≤ maxLen) ∧ ∀ i, i < n → ∃ x es, a = some x ∧ es.length = c ∧ (∀ j, j < c → w.cell? (x.add (i * c + j)) = es[j]?) ∧ Cells enc P w e es := by
 subst hc
 obtain ⟨fuel, x, hf⟩ := h
 rcases Deep.open_slice ht hf with ⟨rfl, -⟩ | ⟨a, len, cap, m, n, D, Pl, rfl, -, hl, hm, hmm, -, hx⟩
 ·exact ⟨none, 0, 0, rfl, ⟨by omega, by simp⟩, fun i hi => by omega⟩
 ·refine ⟨some a, len, cap, rfl, ⟨hl, hm⟩, fun i hi => ?_⟩
  obtain ⟨cs', h1, h2⟩ := hx i (by simp at hmm; omega)
  obtain ⟨-, hlen, hcell⟩ := World.cells?_some h1
  refine ⟨a, cs', rfl, hlen, fun j hj => ?_, ⟨n, _, h2⟩⟩
  have := hcell j hj
  rw [← this, add_add]
theorem Cells.struct {t : TypeId} {fs : Array Field} {cs : List Value} (h : Cells enc P w t cs) (ht : P.underlying t = some (.struct fs)) :
 cs.length = P.cellsOf t ∧ ∀ (i : Nat) (f : Field), fs[i]? = some f → Cells enc P w f.type ((cs.drop f.offset).take (P.cellsOf f.type)) := by
 obtain ⟨fuel, x, hf⟩ := h
 obtain ⟨xs, n, -, -, h1, h2, h3⟩ := DataW.trod_struct ht hf
 refine ⟨h1, fun i f hi => ?_⟩
 have h4 := h3 i f hi
 have hl : i < xs.length := by
  rw [h2]
  exact (Array.getElem?_eq_some_iff.1 hi).1
 exact ⟨n, xs[i], by rw [h4]; simp [hl]⟩
theorem Cells.array {t e : TypeId} {n : Nat} {cs : List Value} (h : Cells enc P w t cs) (ht : P.underlying t = some (.array n e)) :
 cs.length = P.cellsOf t ∧ ∀ i, i < n → Cells enc P w e ((cs.drop (i * P.cellsOf e)).take (P.cellsOf e)) := by
 obtain ⟨fuel, x, hf⟩ := h
 cases fuel with
 | zero => simp [DataW.trod] at hf
 | succ m =>
  unfold DataW.trod at hf
  rw [ht] at hf
  split at hf <;> simp_all
  obtain ⟨hl, xs, hp, hd⟩ := hf
  intro i hi
  have h4 := mapM_some_get hp i i (by simp [hi])
  have hl : i < xs.length := by rw [mapM_some_length hp]; simpa using hi
  exact ⟨m, xs[i], by rw [h4]; simp [hl]⟩
theorem Sl.of_add {a : Addr} {n : Nat} {xs : List Value} (hl : xs.length = n) (h : ∀ i, i < n → w.cell? (a.add i) = some (xs.getD i undef)) : Sl w (some a) n xs := by
 refine ⟨hl, fun i hi => ?_⟩
 obtain ⟨b, off, spot⟩ := a
 have hc := h 0 (by omega)
 have hs : spot = none := by simpa [Addr.add] using World.cell?_spot hc
 subst hs
 exact ⟨b, off, rfl, by rw [← h i hi, Addr.add_lit]⟩
/-- A list out of a choice for each index. -/
theorem list_of {α : Type} (n : Nat) (p : Nat → α → Prop) (h : ∀ i, i < n → ∃ y, p i y) : ∃ ys : List α, ys.length = n ∧ ∀ i (hi : i < ys.length), p i ys[i] := by
 induction n with
 | zero => exact ⟨[], rfl, fun i hi => by simp at hi⟩
 | succ n ih =>
  obtain ⟨ys, hl, hy⟩ := ih (fun i hi => h i (by omega))
  obtain ⟨y, hp⟩ := h n (by omega)
  refine ⟨ys ++ [y], by simp [hl], fun i hi => ?_⟩
  by_cases h1 : i < ys.length
  ·rw [List.getElem_append_left h1]; exact hy i h1
  ·have : i = n := by simp at hi; omega
   subst this
   rw [List.getElem_append_right (by omega)]
   simpa [hl] using hp
/-- A slice of one-cell elements. -/
theorem Cells.slice1 {t e : TypeId} {cs : List Value} (h : Cells enc P w t cs) (ht : P.underlying t = some (.slice e)) (hc : P.cellsOf e = 1) :
 ∃ a n cap xs, cs = [.slice a n cap] ∧ (n ≤ cap ∧ cap ≤ maxLen) ∧ Sl w a n xs ∧ ∀ x ∈ xs, Cells enc P w e [x] := by
 obtain ⟨a, n, cap, rfl, hn, hx⟩ := h.slice ht hc
 obtain ⟨ys, hl, hy⟩ := list_of (α := Value) n (fun i y => (∃ x, a = some x ∧ w.cell? (x.add i) = some y) ∧ Cells enc P w e [y]) (fun i hi => by
  obtain ⟨x, es, ha, h1, h2, h3⟩ := hx i hi
  match es, h1 with
  | [y], _ => exact ⟨y, ⟨x, ha, by simpa using h2 0 (by omega)⟩, h3⟩)
 refine ⟨a, n, cap, ys, rfl, hn, ?_, ?_⟩
 ·cases a with
  | none =>
   refine ⟨hl, fun i hi => ?_⟩
   obtain ⟨⟨x, hx, -⟩, -⟩ := hy i (by omega)
   simp at hx
  | some a =>
   refine Sl.of_add hl fun i hi => ?_
   obtain ⟨⟨x, hx, hc⟩, -⟩ := hy i (by omega)
   simp only [Option.some.injEq] at hx
   subst hx
   rw [hc]
   simp [show i < ys.length by omega]
 ·intro x hx
  obtain ⟨i, hi, rfl⟩ := List.getElem_of_mem hx
  exact (hy i hi).2
theorem map_of {α : Type} (C : α → Value) (p : α → Prop) (xs : List Value) (h : ∀ x ∈ xs, ∃ z, x = C z ∧ p z) : ∃ zs : List α, xs = zs.map C ∧ ∀ z ∈ zs, p z := by
 induction xs with
 | nil => exact ⟨[], rfl, fun z hz => by simp at hz⟩
 | cons x xs ih =>
  obtain ⟨zs, rfl, hz⟩ := ih (fun y hy => h y (by simp [hy]))
  obtain ⟨z, rfl, hp⟩ := h x (by simp)
  refine ⟨z :: zs, rfl, fun y hy => ?_⟩
  rcases List.mem_cons.1 hy with rfl | hy
  ·exact hp
  ·exact hz y hy
theorem Cells.slice_int {t e : TypeId} {k : IntKind} {cs : List Value} (h : Cells enc P w t cs) (ht : P.underlying t = some (.slice e)) (he : P.underlying e = some (.int k)) (hc : P.cellsOf e = 1) :
 ∃ (a : Option Addr) (n cap : Nat) (zs : List Int), cs = [.slice a n cap] ∧ (n ≤ cap ∧ cap ≤ maxLen) ∧ Sl w a n (zs.map (Value.int k)) ∧ ∀ z ∈ zs, (Lit.int k z).wf = true := by
 obtain ⟨a, n, cap, xs, rfl, hn, s, hx⟩ := h.slice1 ht hc
 obtain ⟨zs, rfl, hz⟩ := map_of (Value.int k) (fun z => (Lit.int k z).wf = true) xs (fun x hx' => by
  obtain ⟨z, h1, h2⟩ := (hx x hx').int he
  exact ⟨z, by simpa using h1, h2⟩)
 exact ⟨a, n, cap, zs, rfl, hn, s, hz⟩
end
end Go.Proofs.YtbnhaegidfbgbaaDoor
namespace Go.Proofs.YtbnhaegidfbgbaaDoor
open Go.RowKit Go.ChangeShapes Go.WideShapes
section
variable {H : Type} {enc : TypeId × Value → H} {w : World}
set_option maxRecDepth 100000 in
theorem open_PictureC {es : List Value} (hl : es.length = 3) (h6 : Cells enc Tryd.prog w 42 es) :
 ∃ (p : Pic) (a : Option Addr) (c : Nat), es = [.int .i64 p.w, .int .i64 p.h, .slice a p.px.length c] ∧ Sl w a p.px.length (p.px.map (Value.int .i64)) ∧ (p.px.length ≤ c ∧ c ≤ maxLen) := by
 obtain ⟨-, h8⟩ := h6.struct Tryd.underlying42
 match es, hl with
 | [e0, e1, e2], _ =>
  have f0 : Cells enc Tryd.prog w 3 [e0] := by
   have := h8 0 _ rfl
   rw [show Tryd.prog.cellsOf _ = 1 from by kernel_rfl] at this
   exact this
  have f1 : Cells enc Tryd.prog w 3 [e1] := by
   have := h8 1 _ rfl
   rw [show Tryd.prog.cellsOf _ = 1 from by kernel_rfl] at this
   exact this
  have f2 : Cells enc Tryd.prog w 23 [e2] := by
   have := h8 2 _ rfl
   rw [show Tryd.prog.cellsOf _ = 1 from by kernel_rfl] at this
   exact this
  obtain ⟨t0, ht0, -⟩ := f0.int Tryd.underlying3
  obtain ⟨t1, ht1, -⟩ := f1.int Tryd.underlying3
  obtain ⟨a2, n2, c2, zs, hz, hn2, s2, -⟩ := f2.slice_int Tryd.underlying23 Tryd.underlying3 (by kernel_rfl)
  simp only [List.cons.injEq, and_true] at ht0 ht1 hz
  obtain rfl : n2 = zs.length := s2.int_len.symm
  subst ht0 ht1 hz
  exact ⟨⟨t0, t1, zs⟩, a2, c2, rfl, s2, hn2⟩
set_option maxRecDepth 100000 in
theorem open_Picture {r : Reach} {b0 : Nat} {v : Value} {d : DataW H} {ps : List MemPlace}
 (hv : Value.okWide Tryd.prog w r b0 42 v) (h : DataW.Trod enc Tryd.prog w 0 (fun _ => true) true 42 v d ps) :
 ∃ (a : Option Addr) (c : Nat) (p : Pic), v = .agg #[.int .i64 p.w, .int .i64 p.h, .slice a p.px.length c] ∧ Sl w a p.px.length (p.px.map (Value.int .i64)) ∧ (p.px.length ≤ c ∧ c ≤ maxLen) := by
 obtain ⟨cs, rfl, hsz⟩ := okWide_struct Tryd.underlying42 hv
 have hsz6 : cs.toList.length = 3 := by rw [Array.length_toList, hsz]; kernel_rfl
 obtain ⟨p, a, c, h1, h2, h3⟩ := open_PictureC hsz6 (Cells.of_trod h)
 refine ⟨a, c, p, ?_, h2, h3⟩
 have : cs = cs.toList.toArray := by simp
 rw [this, h1]
end
end Go.Proofs.YtbnhaegidfbgbaaDoor
namespace Go.Proofs.YtbnhaegidfbgbaaDoor
open Go.RowKit Go.ChangeShapes Go.WideShapes
section
variable {H : Type} {enc : TypeId × Value → H} {P : Program} {w : World}
/-- All cells are well-formed integers. -/
def AllI (cs : List Value) : Prop := ∀ (j : Nat) (v : Value), cs[j]? = some v → ∃ z : Int, v = Value.int .i64 z ∧ (Lit.int .i64 z).wf = true
theorem AllI.of_int {t : TypeId} {cs : List Value} (h : Cells enc P w t cs) (ht : P.underlying t = some (.int .i64)) : AllI cs := by
 obtain ⟨n, rfl, hw⟩ := h.int ht
 intro j v hv
 match j, hv with
 | 0, hv => simp at hv; exact ⟨n, hv.symm, hw⟩
theorem AllI.part {cs : List Value} {o c j : Nat} {v : Value} (h : AllI ((cs.drop o).take c)) (h1 : o ≤ j) (h2 : j < o + c) (hv : cs[j]? = some v) : ∃ z : Int, v = Value.int .i64 z ∧ (Lit.int .i64 z).wf = true := by
 refine h (j - o) v ?_
 rw [List.getElem?_take_of_lt (by omega), List.getElem?_drop, show o + (j - o) = j by omega]
 exact hv
theorem AllI.of_array {t e : TypeId} {n c : Nat} {cs : List Value} (h : Cells enc P w t cs) (ht : P.underlying t = some (.array n e)) (hc : P.cellsOf e = c) (hn : P.cellsOf t = n * c) (hp : 0 < c) (he : ∀ cs, Cells enc P w e cs → AllI cs) : AllI cs := by
 obtain ⟨hl, hx⟩ := h.array ht
 rw [hn] at hl
 rw [hc] at hx
 intro j v hv
 have hj : j < n * c := by rw [← hl]; exact (List.getElem?_eq_some_iff.1 hv).1
 have hd : j / c < n := Nat.div_lt_of_lt_mul (by rw [Nat.mul_comm]; exact hj)
 have hm := Nat.mod_lt j hp
 have e1 : j / c * c + j % c = j := by rw [Nat.mul_comm]; exact Nat.div_add_mod j c
 exact AllI.part (he _ (hx _ hd)) (by omega) (by omega) hv
theorem AllI.ints {cs : List Value} (h : AllI cs) : ∃ zs : List Int, cs = zs.map (Value.int .i64) ∧ ∀ z ∈ zs, (Lit.int .i64 z).wf = true := by
 induction cs with
 | nil => exact ⟨[], rfl, by simp⟩
 | cons v cs ih =>
  obtain ⟨z, rfl, hz⟩ := h 0 v rfl
  obtain ⟨zs, rfl, hw⟩ := ih (fun j u hu => h (j + 1) u (by simpa using hu))
  exact ⟨z :: zs, rfl, by simp [hz]; exact hw⟩
theorem mac_of (zs : List Int) (h : zs.length = 71) : ∃ m : Mac, m.zs = zs ∧ m.ok := by
 match zs, h with
 | k :: x :: y :: r, h =>
  have hr : r.length = 68 := by simpa using h
  refine ⟨⟨k, x, y, r.take 4, r.drop 4⟩, ?_, ⟨by simp; omega, by simp; omega⟩⟩
  simp [Mac.zs]
set_option maxRecDepth 100000 in
theorem open_Macro {r : Reach} {b0 : Nat} {v : Value} {d : DataW H} {ps : List MemPlace}
 (hv : Value.okWide Tryd.prog w r b0 45 v) (h : DataW.Trod enc Tryd.prog w 0 (fun _ => true) true 45 v d ps) :
 ∃ m : Mac, v = .agg (ic m.zs) ∧ m.ok ∧ ∀ z ∈ m.zs, (Lit.int .i64 z).wf = true := by
 obtain ⟨cs, rfl, hsz⟩ := okWide_struct Tryd.underlying45 hv
 have hl : cs.toList.length = 71 := by rw [Array.length_toList, hsz]; kernel_rfl
 have h6 : Cells enc Tryd.prog w 45 cs.toList := Cells.of_trod h
 obtain ⟨-, h8⟩ := h6.struct Tryd.underlying45
 have c1 : Tryd.prog.cellsOf 3 = 1 := by kernel_rfl
 have cV : Tryd.prog.cellsOf 43 = 2 := by kernel_rfl
 have c4 : Tryd.prog.cellsOf 30 = 4 := by kernel_rfl
 have c16 : Tryd.prog.cellsOf 31 = 16 := by kernel_rfl
 have c64 : Tryd.prog.cellsOf 32 = 64 := by kernel_rfl
 have aI : ∀ cs, Cells enc Tryd.prog w 3 cs → AllI cs := fun cs h => AllI.of_int h Tryd.underlying3
 have a4 : ∀ cs, Cells enc Tryd.prog w 30 cs → AllI cs := fun cs h => AllI.of_array h Tryd.underlying30 c1 c4 (by omega) aI
 have a16 : ∀ cs, Cells enc Tryd.prog w 31 cs → AllI cs := fun cs h => AllI.of_array h Tryd.underlying31 c1 c16 (by omega) aI
 have a64 : ∀ cs, Cells enc Tryd.prog w 32 cs → AllI cs := fun cs h => AllI.of_array h Tryd.underlying32 c16 c64 (by omega) a16
 have aV : ∀ cs, Cells enc Tryd.prog w 43 cs → AllI cs := fun cs h j v hv => by
  obtain ⟨hlv, hx⟩ := h.struct Tryd.underlying43
  rw [cV] at hlv
  have hj : j < 2 := by rw [← hlv]; exact (List.getElem?_eq_some_iff.1 hv).1
  have v0 : Cells enc Tryd.prog w 3 ((cs.drop 0).take (Tryd.prog.cellsOf 3)) := hx 0 _ rfl
  have v1 : Cells enc Tryd.prog w 3 ((cs.drop 1).take (Tryd.prog.cellsOf 3)) := hx 1 _ rfl
  rw [c1] at v0 v1
  by_cases h0 : j < 1
  ·exact AllI.part (aI _ v0) (by omega) (by omega) hv
  ·exact AllI.part (aI _ v1) (by omega) (by omega) hv
 have f0 : Cells enc Tryd.prog w 3 ((cs.toList.drop 0).take (Tryd.prog.cellsOf 3)) := h8 0 _ rfl
 have f1 : Cells enc Tryd.prog w 43 ((cs.toList.drop 1).take (Tryd.prog.cellsOf 43)) := h8 1 _ rfl
 have f2 : Cells enc Tryd.prog w 30 ((cs.toList.drop 3).take (Tryd.prog.cellsOf 30)) := h8 2 _ rfl
 have f3 : Cells enc Tryd.prog w 32 ((cs.toList.drop 7).take (Tryd.prog.cellsOf 32)) := h8 3 _ rfl
 rw [c1] at f0
 rw [cV] at f1
 rw [c4] at f2
 rw [c64] at f3
 have all : AllI cs.toList := fun j v hv => by
  have hj : j < 71 := by rw [← hl]; exact (List.getElem?_eq_some_iff.1 hv).1
  by_cases h0 : j < 1
  ·exact AllI.part (aI _ f0) (by omega) (by omega) hv
  by_cases h1 : j < 3
  ·exact AllI.part (aV _ f1) (by omega) (by omega) hv
  by_cases h2 : j < 7
  ·exact AllI.part (a4 _ f2) (by omega) (by omega) hv
  ·exact AllI.part (a64 _ f3) (by omega) (by omega) hv
 obtain ⟨zs, hz, hw⟩ := all.ints
 obtain ⟨m, rfl, hm⟩ := mac_of zs (by rw [← hl, hz]; simp)
 refine ⟨m, ?_, hm, hw⟩
 have : cs = cs.toList.toArray := by simp
 rw [this, hz]
 rfl
end
end Go.Proofs.YtbnhaegidfbgbaaDoor
