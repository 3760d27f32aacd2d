/- FnExactReconstruct: the program's answer is the reference's: the walk of the law. -/
import Derived.Test.YtbnhaegidfbgbaaDoorQa16
namespace Go.Proofs.YtbnhaegidfbgbaaDoor
open Go.RowKit
set_option maxHeartbeats 1000000
set_option maxRecDepth 100000 in
set_option maxHeartbeats 4000000 in
theorem law_FnExactReconstruct (ar : Option Addr) (cr : Nat) (pr : Pic) (ap : Option Addr) (cp : Nat) (pp : Pic) (x : Int) (wx : (Lit.int .i64 x).wf = true) (y : Int) (wy : (Lit.int .i64 y).wf = true) (mm : Mac) (q : Int) (wq : (Lit.int .i64 q).wf = true) (top : Int) (wtop : (Lit.int .i64 top).wf = true) (w : World) (hT : TabQ w) (slr : Sl w ar pr.px.length (pr.px.map (Value.int .i64))) (hn0r : pr.px.length ≤ cr ∧ cr ≤ maxLen) (slp : Sl w ap pp.px.length (pp.px.map (Value.int .i64))) (hn0p : pp.px.length ≤ cp ∧ cp ≤ maxLen) (hm : mm.ok) (wm : ∀ z ∈ mm.zs, (Lit.int .i64 z).wf = true) :
    Calls Tryd.prog 4 #[.agg #[.int .i64 pr.w, .int .i64 pr.h, .slice ar pr.px.length cr], .agg #[.int .i64 pp.w, .int .i64 pp.h, .slice ap pp.px.length cp], .int .i64 x, .int .i64 y, .agg (ic mm.zs), .int .i64 q, .int .i64 top] w fun e w' => e = .returned (.bool true) ∧ Ext w w' := by
  have hnr : pr.px.length ≤ 9223372036854775807 := Nat.le_trans hn0r.1 hn0r.2
  have hnp : pp.px.length ≤ 9223372036854775807 := Nat.le_trans hn0p.1 hn0p.2
  clear hn0r hn0p wx wy wq wtop wm
  have hmr := recP_len pr pp x y mm q top
  have HS := Lib.hid (fun (ar : Option Addr) (cr : Nat) (ap : Option Addr) (cp : Nat) (w : World) (r : Sl w ar pr.px.length (pr.px.map (Value.int .i64))) (s : Sl w ap pp.px.length (pp.px.map (Value.int .i64))) => spec_Reconstruct_any pr pp x y mm q top ar ap cr cp _ _ w rfl rfl hnr hnp r s hm)
  have HI := Lib.hid (fun (ar : Option Addr) (cr : Nat) (ap : Option Addr) (cp : Nat) (w : World) (hT : TabQ w) (r : Sl w ar pr.px.length (pr.px.map (Value.int .i64))) (s : Sl w ap pp.px.length (pp.px.map (Value.int .i64))) => impl_Reconstruct_any pr pp x y mm q top ar ap cr cp _ _ w hT rfl rfl hnr hnp r s hm)
  obtain ⟨xr, yr, zr⟩ := pr
  obtain ⟨xp, yp, zp⟩ := pp
  simp only at hnr slr hnp slp HS HI hmr ⊢
  generalize recP ⟨xr, yr, zr⟩ ⟨xp, yp, zp⟩ x y mm q top = R at *
  obtain ⟨rx, ry, rz⟩ := R
  simp only at HS HI hmr
  obtain ⟨mr, hmz⟩ : ∃ m, m = rz.length := ⟨_, rfl⟩
  rw [← hmz] at hmr HS HI
  obtain ⟨nr, hzr⟩ : ∃ n, n = zr.length := ⟨_, rfl⟩
  obtain ⟨np, hzp⟩ : ∃ n, n = zp.length := ⟨_, rfl⟩
  rw [← hzr] at hnr slr ⊢
  rw [← hzp] at hnp slp ⊢
  simp only [← hzr, ← hzp] at HS HI hmr
  clear hzr hzp hmz
  have Hm := Lib.hid hm
  have Hl := Lib.hid (Mac.zs_len hm)
  clear hm
  have a0_1 := Ext.alloc (w.alloc (.cells #[.int .i64 xr, .int .i64 yr, .slice ar nr cr] 42)) (.cells #[.int .i64 xp, .int .i64 yp, .slice ap np cp] 42)
  have a0_2 := Ext.alloc ((w.alloc (.cells #[.int .i64 xr, .int .i64 yr, .slice ar nr cr] 42)).alloc (.cells #[.int .i64 xp, .int .i64 yp, .slice ap np cp] 42)) (.cells (ic mm.zs) 45)
  have X0_0 := a0_2.blk (a0_1.blk (blk_new w (.cells #[.int .i64 xr, .int .i64 yr, .slice ar nr cr] 42)))
  have a1_2 := Ext.alloc ((w.alloc (.cells #[.int .i64 xr, .int .i64 yr, .slice ar nr cr] 42)).alloc (.cells #[.int .i64 xp, .int .i64 yp, .slice ap np cp] 42)) (.cells (ic mm.zs) 45)
  have X1_0 := a1_2.blk (blk_new (w.alloc (.cells #[.int .i64 xr, .int .i64 yr, .slice ar nr cr] 42)) (.cells #[.int .i64 xp, .int .i64 yp, .slice ap np cp] 42))
  have X2_0 := IB.new ((w.alloc (.cells #[.int .i64 xr, .int .i64 yr, .slice ar nr cr] 42)).alloc (.cells #[.int .i64 xp, .int .i64 yp, .slice ap np cp] 42)) 45 mm.zs
  have E_0 := ((Ext.alloc w (.cells #[.int .i64 xr, .int .i64 yr, .slice ar nr cr] 42)).trans (Ext.alloc (w.alloc (.cells #[.int .i64 xr, .int .i64 yr, .slice ar nr cr] 42)) (.cells #[.int .i64 xp, .int .i64 yp, .slice ap np cp] 42))).trans (Ext.alloc ((w.alloc (.cells #[.int .i64 xr, .int .i64 yr, .slice ar nr cr] 42)).alloc (.cells #[.int .i64 xp, .int .i64 yp, .slice ap np cp] 42)) (.cells (ic mm.zs) 45))
  simp only [World.size_alloc] at X1_0 X2_0
  clear a0_1
  clear a0_2
  clear a1_2
  obtain ⟨B, hB⟩ : ∃ B, B = w.heap.size := ⟨_, rfl⟩
  rw [← hB] at X0_0 X1_0 X2_0
  have Ar_0 := X0_0
  clear X0_0
  have Ap_0 := X1_0
  clear X1_0
  have AM_0 := X2_0
  clear X2_0
  have hwB : w.heap.size ≤ B := by omega
  go_enter Tryd.func4, Tryd.ntmps4
  obtain ⟨-, kAr0, kAr1, kAr2, -⟩ := bx3 Ar_0
  obtain ⟨-, kAp0, kAp1, kAp2, -⟩ := bx3 Ap_0
  go_wp2_with (first | (refine wpList_iload 45 _ rfl rfl AM_0 0 71 rfl _ Tryd.underlying45 rfl size_lMacro (by rw [Hl.out]; omega) _ (by rw [sub_all _ _ Hl.out]) ?_))
  rw [← hB]
  have HB := Lib.hid hB
  clear hB
  have hB0 : B + 1 + 1 < w.heap.size + 3 := by have := HB.out; omega
  refine (szPicture_any xr yr ar cr nr (1048576) _ hnr (by omega) (by omega)).mono ?_
  rintro e v1 ⟨rfl, e1⟩
  clear kAr0 kAr1 kAr2 kAp0 kAp1 kAp2
  have Ar_1 : v1.heap[B]? = some (.cells #[.int .i64 xr, .int .i64 yr, .slice ar nr cr] 42 (0, 0)) := e1.blk Ar_0
  have Ap_1 : v1.heap[B + 1]? = some (.cells #[.int .i64 xp, .int .i64 yp, .slice ap np cp] 42 (0, 0)) := e1.blk Ap_0
  have AM_1 : IB v1 (B + 1 + 1) 45 mm.zs := AM_0.ext e1
  have E_1 : Ext w v1 := E_0.trans e1
  clear Ar_0 Ap_0 AM_0 E_0
  clear e1
  by_cases hnegr : (1048576 : Int) - nr < 0
  · rw [if_pos hnegr]
    go_wp2
    go_ret
    exact ⟨rfl, E_1⟩
  rw [if_neg hnegr]
  have hdr : decide ((1048576 : Int) - (nr : Int) < 0) = false := by simpa using hnegr
  obtain ⟨-, kAr0, kAr1, kAr2, -⟩ := bx3 Ar_1
  obtain ⟨-, kAp0, kAp1, kAp2, -⟩ := bx3 Ap_1
  go_wp2_with (first | (refine wpList_iload 45 _ rfl rfl AM_1 0 71 rfl _ Tryd.underlying45 rfl size_lMacro (by rw [Hl.out]; omega) _ (by rw [sub_all _ _ Hl.out]) ?_))
  refine (szPicture_any xp yp ap cp np (1048576 - (nr : Int)) _ hnp (by omega) (by omega)).mono ?_
  rintro e v2 ⟨rfl, e1⟩
  clear kAr0 kAr1 kAr2 kAp0 kAp1 kAp2
  have Ar_2 : v2.heap[B]? = some (.cells #[.int .i64 xr, .int .i64 yr, .slice ar nr cr] 42 (0, 0)) := e1.blk Ar_1
  have Ap_2 : v2.heap[B + 1]? = some (.cells #[.int .i64 xp, .int .i64 yp, .slice ap np cp] 42 (0, 0)) := e1.blk Ap_1
  have AM_2 : IB v2 (B + 1 + 1) 45 mm.zs := AM_1.ext e1
  have E_2 : Ext w v2 := E_1.trans e1
  clear Ar_1 Ap_1 AM_1 E_1
  clear e1
  by_cases hnegp : (1048576 - (nr : Int) : Int) - np < 0
  · rw [if_pos hnegp]
    go_wp2
    go_ret
    exact ⟨rfl, E_2⟩
  rw [if_neg hnegp]
  have hdp : decide ((1048576 - (nr : Int) : Int) - (np : Int) < 0) = false := by simpa using hnegp
  have h40r : nr < 2^40 := by omega
  have h40p : np < 2^40 := by omega
  go_upto_region 8 with fail
  obtain ⟨h0, hh0⟩ : ∃ h, h = v2.heap.size := ⟨_, rfl⟩
  have HH0 := Lib.hid hh0
  have hlo : B + 1 + 1 < h0 := by rw [hh0]; exact lt_of_block AM_2
  clear hh0
  have hext : ∀ (i : Nat) (own : Value) (ys : Nat → Value) (wa wb : World), Ext wa wb → (match i with | 0 => own = .agg #[.int .i64 xr, .int .i64 yr, .slice ar nr cr] | 1 => ∃ (a2 : Option Addr) (c2 : Nat), own = .agg #[.int .i64 xr, .int .i64 yr, .slice a2 nr c2] ∧ wa.ownsRow v2.heap.size 3 1 (.slice a2 nr c2) nr (zr.map (Value.int .i64)) | 2 => own = .agg #[.int .i64 xp, .int .i64 yp, .slice ap np cp] | 3 => ∃ (a2 : Option Addr) (c2 : Nat), own = .agg #[.int .i64 xp, .int .i64 yp, .slice a2 np c2] ∧ wa.ownsRow v2.heap.size 3 1 (.slice a2 np c2) np (zp.map (Value.int .i64)) | 4 => own = .int .i64 x | 5 => own = .int .i64 y | 6 => own = .agg (ic mm.zs) | 7 => own = .agg (ic mm.zs) | 8 => own = .int .i64 q | 9 => own = .int .i64 top | 10 => ∃ (a2 : Option Addr) (c2 : Nat), own = .agg #[.int .i64 rx, .int .i64 ry, .slice a2 mr c2] ∧ wa.ownsRow v2.heap.size 3 1 (.slice a2 mr c2) mr (rz.map (Value.int .i64)) | 11 => ∃ b : Nat, own = .pointer (some ⟨b, 0, none⟩) ∧ v2.heap.size ≤ b ∧ PZ wa b | 12 => ∃ (b : Nat) (a2 : Option Addr) (c2 : Nat), ys 11 = .pointer (some ⟨b, 0, none⟩) ∧ v2.heap.size ≤ b ∧ PX wa b rx ry a2 mr c2 ∧ wa.ownsRow v2.heap.size 3 1 (.slice a2 mr c2) mr (rz.map (Value.int .i64)) | _ => True) → (match i with | 0 => own = .agg #[.int .i64 xr, .int .i64 yr, .slice ar nr cr] | 1 => ∃ (a2 : Option Addr) (c2 : Nat), own = .agg #[.int .i64 xr, .int .i64 yr, .slice a2 nr c2] ∧ wb.ownsRow v2.heap.size 3 1 (.slice a2 nr c2) nr (zr.map (Value.int .i64)) | 2 => own = .agg #[.int .i64 xp, .int .i64 yp, .slice ap np cp] | 3 => ∃ (a2 : Option Addr) (c2 : Nat), own = .agg #[.int .i64 xp, .int .i64 yp, .slice a2 np c2] ∧ wb.ownsRow v2.heap.size 3 1 (.slice a2 np c2) np (zp.map (Value.int .i64)) | 4 => own = .int .i64 x | 5 => own = .int .i64 y | 6 => own = .agg (ic mm.zs) | 7 => own = .agg (ic mm.zs) | 8 => own = .int .i64 q | 9 => own = .int .i64 top | 10 => ∃ (a2 : Option Addr) (c2 : Nat), own = .agg #[.int .i64 rx, .int .i64 ry, .slice a2 mr c2] ∧ wb.ownsRow v2.heap.size 3 1 (.slice a2 mr c2) mr (rz.map (Value.int .i64)) | 11 => ∃ b : Nat, own = .pointer (some ⟨b, 0, none⟩) ∧ v2.heap.size ≤ b ∧ PZ wb b | 12 => ∃ (b : Nat) (a2 : Option Addr) (c2 : Nat), ys 11 = .pointer (some ⟨b, 0, none⟩) ∧ v2.heap.size ≤ b ∧ PX wb b rx ry a2 mr c2 ∧ wb.ownsRow v2.heap.size 3 1 (.slice a2 mr c2) mr (rz.map (Value.int .i64)) | _ => True) := by
    intro i own ys wa wb e h
    match i, h with
    | 0, h => exact h
    | 1, h => obtain ⟨a2, c2, h1, h2⟩ := h; exact ⟨a2, c2, h1, owns_ext h2 e⟩
    | 2, h => exact h
    | 3, h => obtain ⟨a2, c2, h1, h2⟩ := h; exact ⟨a2, c2, h1, owns_ext h2 e⟩
    | 4, h => exact h
    | 5, h => exact h
    | 6, h => exact h
    | 7, h => exact h
    | 8, h => exact h
    | 9, h => exact h
    | 10, h => obtain ⟨a2, c2, h1, h2⟩ := h; exact ⟨a2, c2, h1, owns_ext h2 e⟩
    | 11, h => obtain ⟨b, h1, h2, h3⟩ := h; exact ⟨b, h1, h2, h3.ext e⟩
    | 12, h => obtain ⟨b, a2, c2, h1, h2, h3, h4⟩ := h; exact ⟨b, a2, c2, h1, h2, h3.ext e, owns_ext h4 e⟩
    | _ + 13, _ => trivial
  have Hext := Lib.hid hext
  clear hext
  refine wp_region_inv2 (by kernel_rfl) [(16, 11), (34, 0), (35, 1), (36, 2), (37, 3), (38, 4), (39, 5), (40, 6), (41, 7), (42, 8), (43, 9), (44, 10)] [[], [0], [], [0, 1, 2], [], [], [], [0, 1, 2, 3, 6], [], [], [0, 1, 2, 3, 4, 5, 6, 7, 8, 9], [], [0, 1, 2, 3, 4, 5, 6, 7, 8, 9, 10, 11]] (fun i own ys wx => match i with | 0 => own = .agg #[.int .i64 xr, .int .i64 yr, .slice ar nr cr] | 1 => ∃ (a2 : Option Addr) (c2 : Nat), own = .agg #[.int .i64 xr, .int .i64 yr, .slice a2 nr c2] ∧ wx.ownsRow v2.heap.size 3 1 (.slice a2 nr c2) nr (zr.map (Value.int .i64)) | 2 => own = .agg #[.int .i64 xp, .int .i64 yp, .slice ap np cp] | 3 => ∃ (a2 : Option Addr) (c2 : Nat), own = .agg #[.int .i64 xp, .int .i64 yp, .slice a2 np c2] ∧ wx.ownsRow v2.heap.size 3 1 (.slice a2 np c2) np (zp.map (Value.int .i64)) | 4 => own = .int .i64 x | 5 => own = .int .i64 y | 6 => own = .agg (ic mm.zs) | 7 => own = .agg (ic mm.zs) | 8 => own = .int .i64 q | 9 => own = .int .i64 top | 10 => ∃ (a2 : Option Addr) (c2 : Nat), own = .agg #[.int .i64 rx, .int .i64 ry, .slice a2 mr c2] ∧ wx.ownsRow v2.heap.size 3 1 (.slice a2 mr c2) mr (rz.map (Value.int .i64)) | 11 => ∃ b : Nat, own = .pointer (some ⟨b, 0, none⟩) ∧ v2.heap.size ≤ b ∧ PZ wx b | 12 => ∃ (b : Nat) (a2 : Option Addr) (c2 : Nat), ys 11 = .pointer (some ⟨b, 0, none⟩) ∧ v2.heap.size ≤ b ∧ PX wx b rx ry a2 mr c2 ∧ wx.ownsRow v2.heap.size 3 1 (.slice a2 mr c2) mr (rz.map (Value.int .i64)) | _ => True) (fun kx wx => Ext v2 wx) (by kernel_rfl) (by kernel_rfl) (by kernel_rfl) ?g0_r1 ?gop_r1 ?gend_r1
  case g0_r1 => exact Ext.drewN _ 1
  case gop_r1 =>
    refine ⟨?_, ?_, ?_, ?_, ?_, ?_, ?_, ?_, ?_, ?_, ?_, ?_, ?_, trivial⟩
    · intro kx xs wx hk hG hD hI Qo Kx hK hQo
      clear hD
      clear hI
      simp only [patchS, Nat.reduceAdd, Nat.reduceEqDiff, ↓reduceIte] at hQo ⊢
      obtain ⟨-, k0, k1, k2, -⟩ := bx3 (hG.blk Ar_2)
      go_wp2
      exact hK.out _ _ ⟨rfl, hG, fun _ _ _ _ _ _ h => h⟩
    · intro kx xs wx hk hG hD hI Qo Kx hK hQo
      have d0 : (xs 0) = .agg #[.int .i64 xr, .int .i64 yr, .slice ar nr cr] := hD 0 rfl
      clear hD
      clear hI
      simp only [patchS, Nat.reduceAdd, Nat.reduceEqDiff, ↓reduceIte] at hQo ⊢
      generalize xs 0 = y0 at *
      subst d0
      go_wp2_with fail
      refine (toPicture_any xr yr ar nr cr zr _ (by omega) (slr.ext (E_2.trans hG))).mono ?_
      rintro e wz ⟨az, cz, rfl, ownz, ez⟩
      go_wp2
      exact hK.out _ _ ⟨⟨az, cz, rfl, owns_mono ownz hG.size⟩, hG.trans ez, fun i _ _ _ own ys h => Hext.out i own ys _ _ ez h⟩
    · intro kx xs wx hk hG hD hI Qo Kx hK hQo
      clear hD
      clear hI
      simp only [patchS, Nat.reduceAdd, Nat.reduceEqDiff, ↓reduceIte] at hQo ⊢
      obtain ⟨-, k0, k1, k2, -⟩ := bx3 (hG.blk Ap_2)
      go_wp2
      exact hK.out _ _ ⟨rfl, hG, fun _ _ _ _ _ _ h => h⟩
    · intro kx xs wx hk hG hD hI Qo Kx hK hQo
      have d2 : (xs 2) = .agg #[.int .i64 xp, .int .i64 yp, .slice ap np cp] := hD 2 rfl
      clear hD
      clear hI
      simp only [patchS, Nat.reduceAdd, Nat.reduceEqDiff, ↓reduceIte] at hQo ⊢
      generalize xs 2 = y2 at *
      subst d2
      go_wp2_with fail
      refine (toPicture_any xp yp ap np cp zp _ (by omega) (slp.ext (E_2.trans hG))).mono ?_
      rintro e wz ⟨az, cz, rfl, ownz, ez⟩
      go_wp2
      exact hK.out _ _ ⟨⟨az, cz, rfl, owns_mono ownz hG.size⟩, hG.trans ez, fun i _ _ _ own ys h => Hext.out i own ys _ _ ez h⟩
    · intro kx xs wx hk hG hD hI Qo Kx hK hQo
      clear hD
      clear hI
      simp only [patchS, Nat.reduceAdd, Nat.reduceEqDiff, ↓reduceIte] at hQo ⊢
      go_wp2
      exact hK.out _ _ ⟨rfl, hG, fun _ _ _ _ _ _ h => h⟩
    · intro kx xs wx hk hG hD hI Qo Kx hK hQo
      clear hD
      clear hI
      simp only [patchS, Nat.reduceAdd, Nat.reduceEqDiff, ↓reduceIte] at hQo ⊢
      go_wp2
      exact hK.out _ _ ⟨rfl, hG, fun _ _ _ _ _ _ h => h⟩
    · intro kx xs wx hk hG hD hI Qo Kx hK hQo
      clear hD
      clear hI
      simp only [patchS, Nat.reduceAdd, Nat.reduceEqDiff, ↓reduceIte] at hQo ⊢
      go_wp2_with (refine wpList_iload 45 _ rfl rfl (AM_2.ext hG) 0 71 rfl _ Tryd.underlying45 rfl size_lMacro (by rw [Hl.out]; omega) _ (by rw [sub_all _ _ Hl.out]) ?_)
      exact hK.out _ _ ⟨rfl, hG, fun _ _ _ _ _ _ h => h⟩
    · intro kx xs wx hk hG hD hI Qo Kx hK hQo
      have d6 : (xs 6) = .agg (ic mm.zs) := hD 6 rfl
      clear hD
      clear hI
      simp only [patchS, Nat.reduceAdd, Nat.reduceEqDiff, ↓reduceIte] at hQo ⊢
      generalize xs 6 = y6 at *
      subst d6
      go_wp2_with fail
      refine (toMacro_any mm _ Hm.out).mono ?_
      rintro e wz ⟨rfl, ez⟩
      go_wp2
      exact hK.out _ _ ⟨rfl, hG.trans ez, fun i _ _ _ own ys h => Hext.out i own ys _ _ ez h⟩
    · intro kx xs wx hk hG hD hI Qo Kx hK hQo
      clear hD
      clear hI
      simp only [patchS, Nat.reduceAdd, Nat.reduceEqDiff, ↓reduceIte] at hQo ⊢
      go_wp2
      exact hK.out _ _ ⟨rfl, hG, fun _ _ _ _ _ _ h => h⟩
    · intro kx xs wx hk hG hD hI Qo Kx hK hQo
      clear hD
      clear hI
      simp only [patchS, Nat.reduceAdd, Nat.reduceEqDiff, ↓reduceIte] at hQo ⊢
      go_wp2
      exact hK.out _ _ ⟨rfl, hG, fun _ _ _ _ _ _ h => h⟩
    · intro kx xs wx hk hG hD hI Qo Kx hK hQo
      have d1 : ∃ (a2 : Option Addr) (c2 : Nat), (xs 1) = .agg #[.int .i64 xr, .int .i64 yr, .slice a2 nr c2] ∧ wx.ownsRow v2.heap.size 3 1 (.slice a2 nr c2) nr (zr.map (Value.int .i64)) := hD 1 rfl
      have d3 : ∃ (a2 : Option Addr) (c2 : Nat), (xs 3) = .agg #[.int .i64 xp, .int .i64 yp, .slice a2 np c2] ∧ wx.ownsRow v2.heap.size 3 1 (.slice a2 np c2) np (zp.map (Value.int .i64)) := hD 3 rfl
      have d4 : (xs 4) = .int .i64 x := hD 4 rfl
      have d5 : (xs 5) = .int .i64 y := hD 5 rfl
      have d7 : (xs 7) = .agg (ic mm.zs) := hD 7 rfl
      have d8 : (xs 8) = .int .i64 q := hD 8 rfl
      have d9 : (xs 9) = .int .i64 top := hD 9 rfl
      clear hD
      clear hI
      simp only [patchS, Nat.reduceAdd, Nat.reduceEqDiff, ↓reduceIte] at hQo ⊢
      generalize xs 1 = y1 at *
      generalize xs 3 = y3 at *
      generalize xs 4 = y4 at *
      generalize xs 5 = y5 at *
      generalize xs 7 = y7 at *
      generalize xs 8 = y8 at *
      generalize xs 9 = y9 at *
      obtain ⟨a1, c1, rfl, o1⟩ := d1
      obtain ⟨a3, c3, rfl, o3⟩ := d3
      subst d4
      subst d5
      subst d7
      subst d8
      subst d9
      go_wp2_with fail
      refine (HS.out a1 c1 a3 c3 _ (Sl.of_owns o1) (Sl.of_owns o3)).mono ?_
      rintro e wz ⟨az, cz, rfl, ownz, ez⟩
      go_wp2
      exact hK.out _ _ ⟨⟨az, cz, rfl, owns_mono ownz hG.size⟩, hG.trans ez, fun i _ _ _ own ys h => Hext.out i own ys _ _ ez h⟩
    · intro kx xs wx hk hG hD hI Qo Kx hK hQo
      clear hD
      clear hI
      simp only [patchS, Nat.reduceAdd, Nat.reduceEqDiff, ↓reduceIte] at hQo ⊢
      have ea := Ext.alloc wx (.cells #[.int .i64 0, .int .i64 0, .slice none 0 0] 25)
      go_wp2
      exact hK.out _ _ ⟨⟨_, rfl, hG.size, _, _, _, blk_new _ _⟩, hG.trans ea, fun i _ _ _ own ys h => Hext.out i own ys _ _ ea h⟩
    · intro kx xs wx hk hG hD hI Qo Kx hK hQo
      have d11 : ∃ b : Nat, (xs 11) = .pointer (some ⟨b, 0, none⟩) ∧ v2.heap.size ≤ b ∧ PZ wx b := hD 11 rfl
      have d10 : ∃ (a2 : Option Addr) (c2 : Nat), (xs 10) = .agg #[.int .i64 rx, .int .i64 ry, .slice a2 mr c2] ∧ wx.ownsRow v2.heap.size 3 1 (.slice a2 mr c2) mr (rz.map (Value.int .i64)) := hD 10 rfl
      clear hD
      clear hI
      simp only [patchS, Nat.reduceAdd, Nat.reduceEqDiff, ↓reduceIte] at hQo ⊢
      generalize hx11 : xs 11 = y11 at *
      have Hx11 := Lib.hid hx11
      clear hx11
      generalize xs 10 = y10 at *
      obtain ⟨b11, rfl, hb11, z11⟩ := d11
      obtain ⟨a10, c10, rfl, o10⟩ := d10
      obtain ⟨zc0, zc1, zc2, zc⟩ := z11
      obtain ⟨-, z0, z1, z2, fr0, fr1, fr2⟩ := bx3 zc
      go_wp2
      have hst : ∀ (wy : World), (∀ b : Nat, PZ wx b → PZ wy b) ∧ (∀ (v : Value) (n : Nat) (xs : List Value), wx.ownsRow v2.heap.size 3 1 v n xs → wy.ownsRow v2.heap.size 3 1 v n xs) → ∀ (ii : Nat), ii < 13 → ii ≠ 12 → ([[], [0], [], [0, 1, 2], [], [], [], [0, 1, 2, 3, 6], [], [], [0, 1, 2, 3, 4, 5, 6, 7, 8, 9], [], [0, 1, 2, 3, 4, 5, 6, 7, 8, 9, 10, 11]].getD ii []).contains 12 = false → ∀ (own : Value) (ys : Nat → Value), (match ii with | 0 => own = .agg #[.int .i64 xr, .int .i64 yr, .slice ar nr cr] | 1 => ∃ (a2 : Option Addr) (c2 : Nat), own = .agg #[.int .i64 xr, .int .i64 yr, .slice a2 nr c2] ∧ wx.ownsRow v2.heap.size 3 1 (.slice a2 nr c2) nr (zr.map (Value.int .i64)) | 2 => own = .agg #[.int .i64 xp, .int .i64 yp, .slice ap np cp] | 3 => ∃ (a2 : Option Addr) (c2 : Nat), own = .agg #[.int .i64 xp, .int .i64 yp, .slice a2 np c2] ∧ wx.ownsRow v2.heap.size 3 1 (.slice a2 np c2) np (zp.map (Value.int .i64)) | 4 => own = .int .i64 x | 5 => own = .int .i64 y | 6 => own = .agg (ic mm.zs) | 7 => own = .agg (ic mm.zs) | 8 => own = .int .i64 q | 9 => own = .int .i64 top | 10 => ∃ (a2 : Option Addr) (c2 : Nat), own = .agg #[.int .i64 rx, .int .i64 ry, .slice a2 mr c2] ∧ wx.ownsRow v2.heap.size 3 1 (.slice a2 mr c2) mr (rz.map (Value.int .i64)) | 11 => ∃ b : Nat, own = .pointer (some ⟨b, 0, none⟩) ∧ v2.heap.size ≤ b ∧ PZ wx b | 12 => ∃ (b : Nat) (a2 : Option Addr) (c2 : Nat), ys 11 = .pointer (some ⟨b, 0, none⟩) ∧ v2.heap.size ≤ b ∧ PX wx b rx ry a2 mr c2 ∧ wx.ownsRow v2.heap.size 3 1 (.slice a2 mr c2) mr (rz.map (Value.int .i64)) | _ => True) → (match ii with | 0 => own = .agg #[.int .i64 xr, .int .i64 yr, .slice ar nr cr] | 1 => ∃ (a2 : Option Addr) (c2 : Nat), own = .agg #[.int .i64 xr, .int .i64 yr, .slice a2 nr c2] ∧ wy.ownsRow v2.heap.size 3 1 (.slice a2 nr c2) nr (zr.map (Value.int .i64)) | 2 => own = .agg #[.int .i64 xp, .int .i64 yp, .slice ap np cp] | 3 => ∃ (a2 : Option Addr) (c2 : Nat), own = .agg #[.int .i64 xp, .int .i64 yp, .slice a2 np c2] ∧ wy.ownsRow v2.heap.size 3 1 (.slice a2 np c2) np (zp.map (Value.int .i64)) | 4 => own = .int .i64 x | 5 => own = .int .i64 y | 6 => own = .agg (ic mm.zs) | 7 => own = .agg (ic mm.zs) | 8 => own = .int .i64 q | 9 => own = .int .i64 top | 10 => ∃ (a2 : Option Addr) (c2 : Nat), own = .agg #[.int .i64 rx, .int .i64 ry, .slice a2 mr c2] ∧ wy.ownsRow v2.heap.size 3 1 (.slice a2 mr c2) mr (rz.map (Value.int .i64)) | 11 => ∃ b : Nat, own = .pointer (some ⟨b, 0, none⟩) ∧ v2.heap.size ≤ b ∧ PZ wy b | 12 => ∃ (b : Nat) (a2 : Option Addr) (c2 : Nat), ys 11 = .pointer (some ⟨b, 0, none⟩) ∧ v2.heap.size ≤ b ∧ PX wy b rx ry a2 mr c2 ∧ wy.ownsRow v2.heap.size 3 1 (.slice a2 mr c2) mr (rz.map (Value.int .i64)) | _ => True) := by
        intro wy hy ii hii hne hc own ys h
        match ii, h with
        | 0, h => exact h
        | 1, h => obtain ⟨a2, c2, h1, h2⟩ := h; exact ⟨a2, c2, h1, hy.2 _ _ _ h2⟩
        | 2, h => exact h
        | 3, h => obtain ⟨a2, c2, h1, h2⟩ := h; exact ⟨a2, c2, h1, hy.2 _ _ _ h2⟩
        | 4, h => exact h
        | 5, h => exact h
        | 6, h => exact h
        | 7, h => exact h
        | 8, h => exact h
        | 9, h => exact h
        | 10, h => obtain ⟨a2, c2, h1, h2⟩ := h; exact ⟨a2, c2, h1, hy.2 _ _ _ h2⟩
        | 11, h => obtain ⟨b, h1, h2, h3⟩ := h; exact ⟨b, h1, h2, hy.1 _ h3⟩
        | 12, h => exact absurd rfl hne
        | _ + 13, _ => trivial
      have hz : PZ wx b11 := ⟨_, _, _, zc⟩
      exact hQo undef _ (hK.out _ _ ⟨⟨b11, a10, c10, Hx11.out, hb11, st3_px hz rx ry a10 mr c10, st3_own hz o10⟩, st3_ext hG hb11, hst _ ⟨fun b h => st3_pz hz h, fun v n xs h => st3_own hz h⟩⟩)
  clear Hext
  intro xs wx hV hG
  have d0 : (xs 0) = .agg #[.int .i64 xr, .int .i64 yr, .slice ar nr cr] := hV 0 (by decide)
  have d1 : ∃ (a2 : Option Addr) (c2 : Nat), (xs 1) = .agg #[.int .i64 xr, .int .i64 yr, .slice a2 nr c2] ∧ wx.ownsRow v2.heap.size 3 1 (.slice a2 nr c2) nr (zr.map (Value.int .i64)) := hV 1 (by decide)
  have d2 : (xs 2) = .agg #[.int .i64 xp, .int .i64 yp, .slice ap np cp] := hV 2 (by decide)
  have d3 : ∃ (a2 : Option Addr) (c2 : Nat), (xs 3) = .agg #[.int .i64 xp, .int .i64 yp, .slice a2 np c2] ∧ wx.ownsRow v2.heap.size 3 1 (.slice a2 np c2) np (zp.map (Value.int .i64)) := hV 3 (by decide)
  have d4 : (xs 4) = .int .i64 x := hV 4 (by decide)
  have d5 : (xs 5) = .int .i64 y := hV 5 (by decide)
  have d6 : (xs 6) = .agg (ic mm.zs) := hV 6 (by decide)
  have d7 : (xs 7) = .agg (ic mm.zs) := hV 7 (by decide)
  have d8 : (xs 8) = .int .i64 q := hV 8 (by decide)
  have d9 : (xs 9) = .int .i64 top := hV 9 (by decide)
  have d10 : ∃ (a2 : Option Addr) (c2 : Nat), (xs 10) = .agg #[.int .i64 rx, .int .i64 ry, .slice a2 mr c2] ∧ wx.ownsRow v2.heap.size 3 1 (.slice a2 mr c2) mr (rz.map (Value.int .i64)) := hV 10 (by decide)
  have d11 : ∃ b : Nat, (xs 11) = .pointer (some ⟨b, 0, none⟩) ∧ v2.heap.size ≤ b ∧ PZ wx b := hV 11 (by decide)
  have d12 : ∃ (b : Nat) (a2 : Option Addr) (c2 : Nat), (xs 11) = .pointer (some ⟨b, 0, none⟩) ∧ v2.heap.size ≤ b ∧ PX wx b rx ry a2 mr c2 ∧ wx.ownsRow v2.heap.size 3 1 (.slice a2 mr c2) mr (rz.map (Value.int .i64)) := hV 12 (by decide)
  clear hV
  simp only [patchS, Nat.reduceAdd, Nat.reduceEqDiff, ↓reduceIte]
  generalize xs 0 = y0 at *
  generalize xs 1 = y1 at *
  generalize xs 2 = y2 at *
  generalize xs 3 = y3 at *
  generalize xs 4 = y4 at *
  generalize xs 5 = y5 at *
  generalize xs 6 = y6 at *
  generalize xs 7 = y7 at *
  generalize xs 8 = y8 at *
  generalize xs 9 = y9 at *
  generalize xs 10 = y10 at *
  generalize xs 11 = y11 at *
  generalize xs 12 = y12 at *
  replace hG : Ext v2 wx := hG
  clear d0 d1 d2 d3 d4 d5 d6 d7 d8 d9 d10 d11
  obtain ⟨bW, aW, cW, rfl, hbW, BW_n, OW_n⟩ := d12
  generalize wx = v3 at *
  have hsg := hG.size
  obtain ⟨h1, hh1⟩ : ∃ h, h = v3.heap.size := ⟨_, rfl⟩
  have HH1 := Lib.hid hh1
  rw [← HH0.out] at hbW hsg OW_n
  rw [← hh1] at hsg
  have hbW2 : bW < h1 := by rw [hh1]; exact lt_of_block BW_n
  have RW := Lib.hid (show ∀ k, (Value.slice aW mr cW).ownBlock = some k → h0 ≤ k ∧ k < h1 from fun k hk => by rw [hh1]; exact OW_n.lt k hk)
  clear hh1
  have Ar_3 : v3.heap[B]? = some (.cells #[.int .i64 xr, .int .i64 yr, .slice ar nr cr] 42 (0, 0)) := hG.blk Ar_2
  have Ap_3 : v3.heap[B + 1]? = some (.cells #[.int .i64 xp, .int .i64 yp, .slice ap np cp] 42 (0, 0)) := hG.blk Ap_2
  have AM_3 : IB v3 (B + 1 + 1) 45 mm.zs := AM_2.ext hG
  have E_3 : Ext w v3 := E_2.trans hG
  clear Ar_2 Ap_2 AM_2 E_2
  clear hG
  have BW_3 := BW_n
  clear BW_n
  have SW_3 := Sl.of_owns OW_n
  clear OW_n
  have RSW := Lib.hid (show ∀ y, aW = some y → h0 ≤ y.block ∧ y.block < h1 from fun y hy => RW.out y.block (by rw [hy]; rfl))
  obtain ⟨-, kAr0, kAr1, kAr2, -⟩ := bx3 Ar_3
  obtain ⟨-, kAp0, kAp1, kAp2, -⟩ := bx3 Ap_3
  go_wp2_with (first | (refine wpList_iload 45 _ rfl rfl AM_3 0 71 rfl _ Tryd.underlying45 rfl size_lMacro (by rw [Hl.out]; omega) _ (by rw [sub_all _ _ Hl.out]) ?_))
  refine (toPicture_any xr yr ar nr cr zr _ (by omega) (slr.ext E_3)).mono ?_
  rintro e ur ⟨aXr, cXr, rfl, oXr, e1⟩
  clear kAr0 kAr1 kAr2 kAp0 kAp1 kAp2
  have ea := Ext.alloc ur (.cells #[.int .i64 xr, .int .i64 yr, .slice aXr nr cXr] 25)
  have ee := e1.trans ea
  obtain ⟨bXr, hbxr⟩ : ∃ d, d = ur.heap.size := ⟨_, rfl⟩
  have hsz1 := e1.size
  rw [← HH1.out] at oXr hsz1
  have RXr := Lib.hid (show ∀ k, (Value.slice aXr nr cXr).ownBlock = some k → h1 ≤ k ∧ k < bXr from fun k hk => by rw [hbxr]; exact oXr.lt k hk)
  rw [← hbxr] at hsz1
  have hblr : h1 ≤ bXr := hsz1
  clear hsz1
  have Ar_4 : (ur.alloc (.cells #[.int .i64 xr, .int .i64 yr, .slice aXr nr cXr] 25)).heap[B]? = some (.cells #[.int .i64 xr, .int .i64 yr, .slice ar nr cr] 42 (0, 0)) := ee.blk Ar_3
  have Ap_4 : (ur.alloc (.cells #[.int .i64 xr, .int .i64 yr, .slice aXr nr cXr] 25)).heap[B + 1]? = some (.cells #[.int .i64 xp, .int .i64 yp, .slice ap np cp] 42 (0, 0)) := ee.blk Ap_3
  have AM_4 : IB (ur.alloc (.cells #[.int .i64 xr, .int .i64 yr, .slice aXr nr cXr] 25)) (B + 1 + 1) 45 mm.zs := AM_3.ext ee
  have E_4 : Ext w (ur.alloc (.cells #[.int .i64 xr, .int .i64 yr, .slice aXr nr cXr] 25)) := E_3.trans ee
  have BW_4 : PX (ur.alloc (.cells #[.int .i64 xr, .int .i64 yr, .slice aXr nr cXr] 25)) bW rx ry aW mr cW := BW_3.ext ee
  have SW_4 : Sl (ur.alloc (.cells #[.int .i64 xr, .int .i64 yr, .slice aXr nr cXr] 25)) aW mr (rz.map (Value.int .i64)) := SW_3.ext ee
  clear Ar_3 Ap_3 AM_3 E_3 BW_3 SW_3
  have OXr_4 := owns_ext oXr ea
  have BXr_4 : PX (ur.alloc (.cells #[.int .i64 xr, .int .i64 yr, .slice aXr nr cXr] 25)) bXr xr yr aXr nr cXr := by rw [hbxr]; exact blk_new _ _
  obtain ⟨h2, hh2⟩ : ∃ h, h = (ur.alloc (.cells #[.int .i64 xr, .int .i64 yr, .slice aXr nr cXr] 25)).heap.size := ⟨_, rfl⟩
  have hbur : bXr < h2 := by rw [hh2, hbxr]; simp
  have HH2 := Lib.hid hh2
  clear hh2 oXr ea ee e1
  obtain ⟨-, kAr0, kAr1, kAr2, -⟩ := bx3 Ar_4
  obtain ⟨-, kAp0, kAp1, kAp2, -⟩ := bx3 Ap_4
  go_wp2_with (first | (refine wpList_iload 45 _ rfl rfl AM_4 0 71 rfl _ Tryd.underlying45 rfl size_lMacro (by rw [Hl.out]; omega) _ (by rw [sub_all _ _ Hl.out]) ?_))
  rw [← hbxr]
  generalize ur.alloc (.cells #[.int .i64 xr, .int .i64 yr, .slice aXr nr cXr] 25) = v4x at *
  clear hbxr
  refine (toPicture_any xp yp ap np cp zp _ (by omega) (slp.ext E_4)).mono ?_
  rintro e up ⟨aXp, cXp, rfl, oXp, e1⟩
  clear kAr0 kAr1 kAr2 kAp0 kAp1 kAp2
  have ea := Ext.alloc up (.cells #[.int .i64 xp, .int .i64 yp, .slice aXp np cXp] 25)
  have ee := e1.trans ea
  obtain ⟨bXp, hbxp⟩ : ∃ d, d = up.heap.size := ⟨_, rfl⟩
  have hsz1 := e1.size
  rw [← HH2.out] at oXp hsz1
  have RXp := Lib.hid (show ∀ k, (Value.slice aXp np cXp).ownBlock = some k → h2 ≤ k ∧ k < bXp from fun k hk => by rw [hbxp]; exact oXp.lt k hk)
  rw [← hbxp] at hsz1
  have hblp : h2 ≤ bXp := hsz1
  clear hsz1
  have Ar_5 : (up.alloc (.cells #[.int .i64 xp, .int .i64 yp, .slice aXp np cXp] 25)).heap[B]? = some (.cells #[.int .i64 xr, .int .i64 yr, .slice ar nr cr] 42 (0, 0)) := ee.blk Ar_4
  have Ap_5 : (up.alloc (.cells #[.int .i64 xp, .int .i64 yp, .slice aXp np cXp] 25)).heap[B + 1]? = some (.cells #[.int .i64 xp, .int .i64 yp, .slice ap np cp] 42 (0, 0)) := ee.blk Ap_4
  have AM_5 : IB (up.alloc (.cells #[.int .i64 xp, .int .i64 yp, .slice aXp np cXp] 25)) (B + 1 + 1) 45 mm.zs := AM_4.ext ee
  have E_5 : Ext w (up.alloc (.cells #[.int .i64 xp, .int .i64 yp, .slice aXp np cXp] 25)) := E_4.trans ee
  have BW_5 : PX (up.alloc (.cells #[.int .i64 xp, .int .i64 yp, .slice aXp np cXp] 25)) bW rx ry aW mr cW := BW_4.ext ee
  have SW_5 : Sl (up.alloc (.cells #[.int .i64 xp, .int .i64 yp, .slice aXp np cXp] 25)) aW mr (rz.map (Value.int .i64)) := SW_4.ext ee
  have OXr_5 : (up.alloc (.cells #[.int .i64 xp, .int .i64 yp, .slice aXp np cXp] 25)).ownsRow h1 3 1 (.slice aXr nr cXr) nr (zr.map (Value.int .i64)) := owns_ext OXr_4 ee
  have BXr_5 : PX (up.alloc (.cells #[.int .i64 xp, .int .i64 yp, .slice aXp np cXp] 25)) bXr xr yr aXr nr cXr := BXr_4.ext ee
  clear Ar_4 Ap_4 AM_4 E_4 BW_4 SW_4 OXr_4 BXr_4
  have OXp_5 := owns_ext oXp ea
  have BXp_5 : PX (up.alloc (.cells #[.int .i64 xp, .int .i64 yp, .slice aXp np cXp] 25)) bXp xp yp aXp np cXp := by rw [hbxp]; exact blk_new _ _
  obtain ⟨h3, hh3⟩ : ∃ h, h = (up.alloc (.cells #[.int .i64 xp, .int .i64 yp, .slice aXp np cXp] 25)).heap.size := ⟨_, rfl⟩
  have hbup : bXp < h3 := by rw [hh3, hbxp]; simp
  have HH3 := Lib.hid hh3
  clear hh3 oXp ea ee e1
  go_upto_region 11 with fail
  rw [← hbxp]
  generalize up.alloc (.cells #[.int .i64 xp, .int .i64 yp, .slice aXp np cXp] 25) = v5x at *
  clear hbxp
  have hext : ∀ (i : Nat) (own : Value) (ys : Nat → Value) (wa wb : World), Ext wa wb → (match i with | 0 => own = .agg #[.int .i64 xr, .int .i64 yr, .slice aXr nr cXr] | 1 => own = .agg #[.int .i64 xp, .int .i64 yp, .slice aXp np cXp] | 2 => own = .int .i64 x | 3 => own = .int .i64 y | 4 => own = .agg (ic mm.zs) | 5 => own = .agg (ic mm.zs) | 6 => own = .int .i64 q | 7 => own = .int .i64 top | 8 => ∃ (a2 : Option Addr) (c2 : Nat), own = .agg #[.int .i64 rx, .int .i64 ry, .slice a2 mr c2] ∧ wa.ownsRow v5x.heap.size 3 1 (.slice a2 mr c2) mr (rz.map (Value.int .i64)) | 9 => ∃ b : Nat, own = .pointer (some ⟨b, 0, none⟩) ∧ v5x.heap.size ≤ b ∧ PZ wa b | 10 => ∃ (b : Nat) (a2 : Option Addr) (c2 : Nat), ys 9 = .pointer (some ⟨b, 0, none⟩) ∧ v5x.heap.size ≤ b ∧ PX wa b rx ry a2 mr c2 ∧ wa.ownsRow v5x.heap.size 3 1 (.slice a2 mr c2) mr (rz.map (Value.int .i64)) | _ => True) → (match i with | 0 => own = .agg #[.int .i64 xr, .int .i64 yr, .slice aXr nr cXr] | 1 => own = .agg #[.int .i64 xp, .int .i64 yp, .slice aXp np cXp] | 2 => own = .int .i64 x | 3 => own = .int .i64 y | 4 => own = .agg (ic mm.zs) | 5 => own = .agg (ic mm.zs) | 6 => own = .int .i64 q | 7 => own = .int .i64 top | 8 => ∃ (a2 : Option Addr) (c2 : Nat), own = .agg #[.int .i64 rx, .int .i64 ry, .slice a2 mr c2] ∧ wb.ownsRow v5x.heap.size 3 1 (.slice a2 mr c2) mr (rz.map (Value.int .i64)) | 9 => ∃ b : Nat, own = .pointer (some ⟨b, 0, none⟩) ∧ v5x.heap.size ≤ b ∧ PZ wb b | 10 => ∃ (b : Nat) (a2 : Option Addr) (c2 : Nat), ys 9 = .pointer (some ⟨b, 0, none⟩) ∧ v5x.heap.size ≤ b ∧ PX wb b rx ry a2 mr c2 ∧ wb.ownsRow v5x.heap.size 3 1 (.slice a2 mr c2) mr (rz.map (Value.int .i64)) | _ => True) := by
    intro i own ys wa wb e h
    match i, h with
    | 0, h => exact h
    | 1, h => exact h
    | 2, h => exact h
    | 3, h => exact h
    | 4, h => exact h
    | 5, h => exact h
    | 6, h => exact h
    | 7, h => exact h
    | 8, h => obtain ⟨a2, c2, h1, h2⟩ := h; exact ⟨a2, c2, h1, owns_ext h2 e⟩
    | 9, h => obtain ⟨b, h1, h2, h3⟩ := h; exact ⟨b, h1, h2, h3.ext e⟩
    | 10, h => obtain ⟨b, a2, c2, h1, h2, h3, h4⟩ := h; exact ⟨b, a2, c2, h1, h2, h3.ext e, owns_ext h4 e⟩
    | _ + 11, _ => trivial
  have Hext := Lib.hid hext
  clear hext
  refine wp_region_inv2 (by kernel_rfl) [(19, 9), (49, 0), (50, 1), (51, 2), (52, 3), (53, 4), (54, 5), (55, 6), (56, 7), (57, 8)] [[], [], [], [], [], [4], [], [], [0, 1, 2, 3, 4, 5, 6, 7], [], [0, 1, 2, 3, 4, 5, 6, 7, 8, 9]] (fun i own ys wx => match i with | 0 => own = .agg #[.int .i64 xr, .int .i64 yr, .slice aXr nr cXr] | 1 => own = .agg #[.int .i64 xp, .int .i64 yp, .slice aXp np cXp] | 2 => own = .int .i64 x | 3 => own = .int .i64 y | 4 => own = .agg (ic mm.zs) | 5 => own = .agg (ic mm.zs) | 6 => own = .int .i64 q | 7 => own = .int .i64 top | 8 => ∃ (a2 : Option Addr) (c2 : Nat), own = .agg #[.int .i64 rx, .int .i64 ry, .slice a2 mr c2] ∧ wx.ownsRow v5x.heap.size 3 1 (.slice a2 mr c2) mr (rz.map (Value.int .i64)) | 9 => ∃ b : Nat, own = .pointer (some ⟨b, 0, none⟩) ∧ v5x.heap.size ≤ b ∧ PZ wx b | 10 => ∃ (b : Nat) (a2 : Option Addr) (c2 : Nat), ys 9 = .pointer (some ⟨b, 0, none⟩) ∧ v5x.heap.size ≤ b ∧ PX wx b rx ry a2 mr c2 ∧ wx.ownsRow v5x.heap.size 3 1 (.slice a2 mr c2) mr (rz.map (Value.int .i64)) | _ => True) (fun kx wx => Ext v5x wx) (by kernel_rfl) (by kernel_rfl) (by kernel_rfl) ?g0_r2 ?gop_r2 ?gend_r2
  case g0_r2 => exact Ext.drewN _ 1
  case gop_r2 =>
    refine ⟨?_, ?_, ?_, ?_, ?_, ?_, ?_, ?_, ?_, ?_, ?_, trivial⟩
    · intro kx xs wx hk hG hD hI Qo Kx hK hQo
      clear hD
      clear hI
      simp only [patchS, Nat.reduceAdd, Nat.reduceEqDiff, ↓reduceIte] at hQo ⊢
      obtain ⟨k0, k1, k2⟩ := PX.cells (BXr_5.ext hG)
      go_wp2
      exact hK.out _ _ ⟨rfl, hG, fun _ _ _ _ _ _ h => h⟩
    · intro kx xs wx hk hG hD hI Qo Kx hK hQo
      clear hD
      clear hI
      simp only [patchS, Nat.reduceAdd, Nat.reduceEqDiff, ↓reduceIte] at hQo ⊢
      obtain ⟨k0, k1, k2⟩ := PX.cells (BXp_5.ext hG)
      go_wp2
      exact hK.out _ _ ⟨rfl, hG, fun _ _ _ _ _ _ h => h⟩
    · intro kx xs wx hk hG hD hI Qo Kx hK hQo
      clear hD
      clear hI
      simp only [patchS, Nat.reduceAdd, Nat.reduceEqDiff, ↓reduceIte] at hQo ⊢
      go_wp2
      exact hK.out _ _ ⟨rfl, hG, fun _ _ _ _ _ _ h => h⟩
    · intro kx xs wx hk hG hD hI Qo Kx hK hQo
      clear hD
      clear hI
      simp only [patchS, Nat.reduceAdd, Nat.reduceEqDiff, ↓reduceIte] at hQo ⊢
      go_wp2
      exact hK.out _ _ ⟨rfl, hG, fun _ _ _ _ _ _ h => h⟩
    · intro kx xs wx hk hG hD hI Qo Kx hK hQo
      clear hD
      clear hI
      simp only [patchS, Nat.reduceAdd, Nat.reduceEqDiff, ↓reduceIte] at hQo ⊢
      go_wp2_with (refine wpList_iload 45 _ rfl rfl (AM_5.ext hG) 0 71 rfl _ Tryd.underlying45 rfl size_lMacro (by rw [Hl.out]; omega) _ (by rw [sub_all _ _ Hl.out]) ?_)
      exact hK.out _ _ ⟨rfl, hG, fun _ _ _ _ _ _ h => h⟩
    · intro kx xs wx hk hG hD hI Qo Kx hK hQo
      have d4 : (xs 4) = .agg (ic mm.zs) := hD 4 rfl
      clear hD
      clear hI
      simp only [patchS, Nat.reduceAdd, Nat.reduceEqDiff, ↓reduceIte] at hQo ⊢
      generalize xs 4 = y4 at *
      subst d4
      go_wp2_with fail
      refine (toMacro_any mm _ Hm.out).mono ?_
      rintro e wz ⟨rfl, ez⟩
      go_wp2
      exact hK.out _ _ ⟨rfl, hG.trans ez, fun i _ _ _ own ys h => Hext.out i own ys _ _ ez h⟩
    · intro kx xs wx hk hG hD hI Qo Kx hK hQo
      clear hD
      clear hI
      simp only [patchS, Nat.reduceAdd, Nat.reduceEqDiff, ↓reduceIte] at hQo ⊢
      go_wp2
      exact hK.out _ _ ⟨rfl, hG, fun _ _ _ _ _ _ h => h⟩
    · intro kx xs wx hk hG hD hI Qo Kx hK hQo
      clear hD
      clear hI
      simp only [patchS, Nat.reduceAdd, Nat.reduceEqDiff, ↓reduceIte] at hQo ⊢
      go_wp2
      exact hK.out _ _ ⟨rfl, hG, fun _ _ _ _ _ _ h => h⟩
    · intro kx xs wx hk hG hD hI Qo Kx hK hQo
      have d0 : (xs 0) = .agg #[.int .i64 xr, .int .i64 yr, .slice aXr nr cXr] := hD 0 rfl
      have d1 : (xs 1) = .agg #[.int .i64 xp, .int .i64 yp, .slice aXp np cXp] := hD 1 rfl
      have d2 : (xs 2) = .int .i64 x := hD 2 rfl
      have d3 : (xs 3) = .int .i64 y := hD 3 rfl
      have d5 : (xs 5) = .agg (ic mm.zs) := hD 5 rfl
      have d6 : (xs 6) = .int .i64 q := hD 6 rfl
      have d7 : (xs 7) = .int .i64 top := hD 7 rfl
      clear hD
      clear hI
      simp only [patchS, Nat.reduceAdd, Nat.reduceEqDiff, ↓reduceIte] at hQo ⊢
      generalize xs 0 = y0 at *
      generalize xs 1 = y1 at *
      generalize xs 2 = y2 at *
      generalize xs 3 = y3 at *
      generalize xs 5 = y5 at *
      generalize xs 6 = y6 at *
      generalize xs 7 = y7 at *
      subst d0
      subst d1
      subst d2
      subst d3
      subst d5
      subst d6
      subst d7
      go_wp2_with fail
      refine (HI.out aXr cXr aXp cXp _ (hT.ext (E_5.trans hG)) ((Sl.of_owns OXr_5).ext hG) ((Sl.of_owns OXp_5).ext hG)).mono ?_
      rintro e wz ⟨az, cz, rfl, ownz, ez⟩
      go_wp2
      exact hK.out _ _ ⟨⟨az, cz, rfl, owns_mono ownz hG.size⟩, hG.trans ez, fun i _ _ _ own ys h => Hext.out i own ys _ _ ez h⟩
    · intro kx xs wx hk hG hD hI Qo Kx hK hQo
      clear hD
      clear hI
      simp only [patchS, Nat.reduceAdd, Nat.reduceEqDiff, ↓reduceIte] at hQo ⊢
      have ea := Ext.alloc wx (.cells #[.int .i64 0, .int .i64 0, .slice none 0 0] 25)
      go_wp2
      exact hK.out _ _ ⟨⟨_, rfl, hG.size, _, _, _, blk_new _ _⟩, hG.trans ea, fun i _ _ _ own ys h => Hext.out i own ys _ _ ea h⟩
    · intro kx xs wx hk hG hD hI Qo Kx hK hQo
      have d9 : ∃ b : Nat, (xs 9) = .pointer (some ⟨b, 0, none⟩) ∧ v5x.heap.size ≤ b ∧ PZ wx b := hD 9 rfl
      have d8 : ∃ (a2 : Option Addr) (c2 : Nat), (xs 8) = .agg #[.int .i64 rx, .int .i64 ry, .slice a2 mr c2] ∧ wx.ownsRow v5x.heap.size 3 1 (.slice a2 mr c2) mr (rz.map (Value.int .i64)) := hD 8 rfl
      clear hD
      clear hI
      simp only [patchS, Nat.reduceAdd, Nat.reduceEqDiff, ↓reduceIte] at hQo ⊢
      generalize hx9 : xs 9 = y9 at *
      have Hx9 := Lib.hid hx9
      clear hx9
      generalize xs 8 = y8 at *
      obtain ⟨b9, rfl, hb9, z9⟩ := d9
      obtain ⟨a8, c8, rfl, o8⟩ := d8
      obtain ⟨zc0, zc1, zc2, zc⟩ := z9
      obtain ⟨-, z0, z1, z2, fr0, fr1, fr2⟩ := bx3 zc
      go_wp2
      have hst : ∀ (wy : World), (∀ b : Nat, PZ wx b → PZ wy b) ∧ (∀ (v : Value) (n : Nat) (xs : List Value), wx.ownsRow v5x.heap.size 3 1 v n xs → wy.ownsRow v5x.heap.size 3 1 v n xs) → ∀ (ii : Nat), ii < 11 → ii ≠ 10 → ([[], [], [], [], [], [4], [], [], [0, 1, 2, 3, 4, 5, 6, 7], [], [0, 1, 2, 3, 4, 5, 6, 7, 8, 9]].getD ii []).contains 10 = false → ∀ (own : Value) (ys : Nat → Value), (match ii with | 0 => own = .agg #[.int .i64 xr, .int .i64 yr, .slice aXr nr cXr] | 1 => own = .agg #[.int .i64 xp, .int .i64 yp, .slice aXp np cXp] | 2 => own = .int .i64 x | 3 => own = .int .i64 y | 4 => own = .agg (ic mm.zs) | 5 => own = .agg (ic mm.zs) | 6 => own = .int .i64 q | 7 => own = .int .i64 top | 8 => ∃ (a2 : Option Addr) (c2 : Nat), own = .agg #[.int .i64 rx, .int .i64 ry, .slice a2 mr c2] ∧ wx.ownsRow v5x.heap.size 3 1 (.slice a2 mr c2) mr (rz.map (Value.int .i64)) | 9 => ∃ b : Nat, own = .pointer (some ⟨b, 0, none⟩) ∧ v5x.heap.size ≤ b ∧ PZ wx b | 10 => ∃ (b : Nat) (a2 : Option Addr) (c2 : Nat), ys 9 = .pointer (some ⟨b, 0, none⟩) ∧ v5x.heap.size ≤ b ∧ PX wx b rx ry a2 mr c2 ∧ wx.ownsRow v5x.heap.size 3 1 (.slice a2 mr c2) mr (rz.map (Value.int .i64)) | _ => True) → (match ii with | 0 => own = .agg #[.int .i64 xr, .int .i64 yr, .slice aXr nr cXr] | 1 => own = .agg #[.int .i64 xp, .int .i64 yp, .slice aXp np cXp] | 2 => own = .int .i64 x | 3 => own = .int .i64 y | 4 => own = .agg (ic mm.zs) | 5 => own = .agg (ic mm.zs) | 6 => own = .int .i64 q | 7 => own = .int .i64 top | 8 => ∃ (a2 : Option Addr) (c2 : Nat), own = .agg #[.int .i64 rx, .int .i64 ry, .slice a2 mr c2] ∧ wy.ownsRow v5x.heap.size 3 1 (.slice a2 mr c2) mr (rz.map (Value.int .i64)) | 9 => ∃ b : Nat, own = .pointer (some ⟨b, 0, none⟩) ∧ v5x.heap.size ≤ b ∧ PZ wy b | 10 => ∃ (b : Nat) (a2 : Option Addr) (c2 : Nat), ys 9 = .pointer (some ⟨b, 0, none⟩) ∧ v5x.heap.size ≤ b ∧ PX wy b rx ry a2 mr c2 ∧ wy.ownsRow v5x.heap.size 3 1 (.slice a2 mr c2) mr (rz.map (Value.int .i64)) | _ => True) := by
        intro wy hy ii hii hne hc own ys h
        match ii, h with
        | 0, h => exact h
        | 1, h => exact h
        | 2, h => exact h
        | 3, h => exact h
        | 4, h => exact h
        | 5, h => exact h
        | 6, h => exact h
        | 7, h => exact h
        | 8, h => obtain ⟨a2, c2, h1, h2⟩ := h; exact ⟨a2, c2, h1, hy.2 _ _ _ h2⟩
        | 9, h => obtain ⟨b, h1, h2, h3⟩ := h; exact ⟨b, h1, h2, hy.1 _ h3⟩
        | 10, h => exact absurd rfl hne
        | _ + 11, _ => trivial
      have hz : PZ wx b9 := ⟨_, _, _, zc⟩
      exact hQo undef _ (hK.out _ _ ⟨⟨b9, a8, c8, Hx9.out, hb9, st3_px hz rx ry a8 mr c8, st3_own hz o8⟩, st3_ext hG hb9, hst _ ⟨fun b h => st3_pz hz h, fun v n xs h => st3_own hz h⟩⟩)
  clear Hext
  intro xs wx hV hG
  have d0 : (xs 0) = .agg #[.int .i64 xr, .int .i64 yr, .slice aXr nr cXr] := hV 0 (by decide)
  have d1 : (xs 1) = .agg #[.int .i64 xp, .int .i64 yp, .slice aXp np cXp] := hV 1 (by decide)
  have d2 : (xs 2) = .int .i64 x := hV 2 (by decide)
  have d3 : (xs 3) = .int .i64 y := hV 3 (by decide)
  have d4 : (xs 4) = .agg (ic mm.zs) := hV 4 (by decide)
  have d5 : (xs 5) = .agg (ic mm.zs) := hV 5 (by decide)
  have d6 : (xs 6) = .int .i64 q := hV 6 (by decide)
  have d7 : (xs 7) = .int .i64 top := hV 7 (by decide)
  have d8 : ∃ (a2 : Option Addr) (c2 : Nat), (xs 8) = .agg #[.int .i64 rx, .int .i64 ry, .slice a2 mr c2] ∧ wx.ownsRow v5x.heap.size 3 1 (.slice a2 mr c2) mr (rz.map (Value.int .i64)) := hV 8 (by decide)
  have d9 : ∃ b : Nat, (xs 9) = .pointer (some ⟨b, 0, none⟩) ∧ v5x.heap.size ≤ b ∧ PZ wx b := hV 9 (by decide)
  have d10 : ∃ (b : Nat) (a2 : Option Addr) (c2 : Nat), (xs 9) = .pointer (some ⟨b, 0, none⟩) ∧ v5x.heap.size ≤ b ∧ PX wx b rx ry a2 mr c2 ∧ wx.ownsRow v5x.heap.size 3 1 (.slice a2 mr c2) mr (rz.map (Value.int .i64)) := hV 10 (by decide)
  clear hV
  simp only [patchS, Nat.reduceAdd, Nat.reduceEqDiff, ↓reduceIte]
  generalize xs 0 = y0 at *
  generalize xs 1 = y1 at *
  generalize xs 2 = y2 at *
  generalize xs 3 = y3 at *
  generalize xs 4 = y4 at *
  generalize xs 5 = y5 at *
  generalize xs 6 = y6 at *
  generalize xs 7 = y7 at *
  generalize xs 8 = y8 at *
  generalize xs 9 = y9 at *
  generalize xs 10 = y10 at *
  replace hG : Ext v5x wx := hG
  clear d0 d1 d2 d3 d4 d5 d6 d7 d8 d9
  obtain ⟨bG, aG, cG, rfl, hbG, BG_n, OG_n⟩ := d10
  generalize wx = v6 at *
  have hsg := hG.size
  obtain ⟨h4, hh4⟩ : ∃ h, h = v6.heap.size := ⟨_, rfl⟩
  have HH4 := Lib.hid hh4
  rw [← HH3.out] at hbG hsg OG_n
  rw [← hh4] at hsg
  have hbG2 : bG < h4 := by rw [hh4]; exact lt_of_block BG_n
  have RG := Lib.hid (show ∀ k, (Value.slice aG mr cG).ownBlock = some k → h3 ≤ k ∧ k < h4 from fun k hk => by rw [hh4]; exact OG_n.lt k hk)
  clear hh4
  have Ar_6 : v6.heap[B]? = some (.cells #[.int .i64 xr, .int .i64 yr, .slice ar nr cr] 42 (0, 0)) := hG.blk Ar_5
  have Ap_6 : v6.heap[B + 1]? = some (.cells #[.int .i64 xp, .int .i64 yp, .slice ap np cp] 42 (0, 0)) := hG.blk Ap_5
  have AM_6 : IB v6 (B + 1 + 1) 45 mm.zs := AM_5.ext hG
  have E_6 : Ext w v6 := E_5.trans hG
  have BW_6 : PX v6 bW rx ry aW mr cW := BW_5.ext hG
  have SW_6 : Sl v6 aW mr (rz.map (Value.int .i64)) := SW_5.ext hG
  have OXr_6 : v6.ownsRow h1 3 1 (.slice aXr nr cXr) nr (zr.map (Value.int .i64)) := owns_ext OXr_5 hG
  have BXr_6 : PX v6 bXr xr yr aXr nr cXr := BXr_5.ext hG
  have OXp_6 : v6.ownsRow h2 3 1 (.slice aXp np cXp) np (zp.map (Value.int .i64)) := owns_ext OXp_5 hG
  have BXp_6 : PX v6 bXp xp yp aXp np cXp := BXp_5.ext hG
  clear Ar_5 Ap_5 AM_5 E_5 BW_5 SW_5 OXr_5 BXr_5 OXp_5 BXp_5
  clear hG
  have BG_6 := BG_n
  clear BG_n
  have OG_6 := OG_n
  clear OG_n
  obtain ⟨kBG0, kBG1, kBG2⟩ := PX.cells BG_6
  obtain ⟨kBW0, kBW1, kBW2⟩ := PX.cells BW_6
  go_wp2_with (first | (refine wpList_iload 45 _ rfl rfl AM_6 0 71 rfl _ Tryd.underlying45 rfl size_lMacro (by rw [Hl.out]; omega) _ (by rw [sub_all _ _ Hl.out]) ?_))
  refine (eqPicture_same rx ry aG aW cG cW mr rz _ (by omega) (Sl.of_owns OG_6) SW_6).mono ?_
  rintro e v7 ⟨rfl, e1⟩
  clear kBG0 kBG1 kBG2 kBW0 kBW1 kBW2
  have Ar_7 : v7.heap[B]? = some (.cells #[.int .i64 xr, .int .i64 yr, .slice ar nr cr] 42 (0, 0)) := e1.blk Ar_6
  have Ap_7 : v7.heap[B + 1]? = some (.cells #[.int .i64 xp, .int .i64 yp, .slice ap np cp] 42 (0, 0)) := e1.blk Ap_6
  have AM_7 : IB v7 (B + 1 + 1) 45 mm.zs := AM_6.ext e1
  have E_7 : Ext w v7 := E_6.trans e1
  have BW_7 : PX v7 bW rx ry aW mr cW := BW_6.ext e1
  have SW_7 : Sl v7 aW mr (rz.map (Value.int .i64)) := SW_6.ext e1
  have OXr_7 : v7.ownsRow h1 3 1 (.slice aXr nr cXr) nr (zr.map (Value.int .i64)) := owns_ext OXr_6 e1
  have BXr_7 : PX v7 bXr xr yr aXr nr cXr := BXr_6.ext e1
  have OXp_7 : v7.ownsRow h2 3 1 (.slice aXp np cXp) np (zp.map (Value.int .i64)) := owns_ext OXp_6 e1
  have BXp_7 : PX v7 bXp xp yp aXp np cXp := BXp_6.ext e1
  have BG_7 : PX v7 bG rx ry aG mr cG := BG_6.ext e1
  have OG_7 : v7.ownsRow h3 3 1 (.slice aG mr cG) mr (rz.map (Value.int .i64)) := owns_ext OG_6 e1
  clear Ar_6 Ap_6 AM_6 E_6 BW_6 SW_6 OXr_6 BXr_6 OXp_6 BXp_6 BG_6 OG_6
  clear e1
  go_upto_region 14 with fail
  have hext : ∀ (i : Nat) (own : Value) (ys : Nat → Value) (wa wb : World), Ext wa wb → (match i with | 0 => own = .agg #[.int .i64 xr, .int .i64 yr, .slice aXr nr cXr] | 1 => own = .agg #[.int .i64 xr, .int .i64 yr, .slice ar nr cr] | 2 => ∃ (a2 : Option Addr) (c2 : Nat), own = .agg #[.int .i64 xr, .int .i64 yr, .slice a2 nr c2] ∧ wa.ownsRow v7.heap.size 3 1 (.slice a2 nr c2) nr (zr.map (Value.int .i64)) | 3 => own = .bool true | 4 => own = .bool false | _ => True) → (match i with | 0 => own = .agg #[.int .i64 xr, .int .i64 yr, .slice aXr nr cXr] | 1 => own = .agg #[.int .i64 xr, .int .i64 yr, .slice ar nr cr] | 2 => ∃ (a2 : Option Addr) (c2 : Nat), own = .agg #[.int .i64 xr, .int .i64 yr, .slice a2 nr c2] ∧ wb.ownsRow v7.heap.size 3 1 (.slice a2 nr c2) nr (zr.map (Value.int .i64)) | 3 => own = .bool true | 4 => own = .bool false | _ => True) := by
    intro i own ys wa wb e h
    match i, h with
    | 0, h => exact h
    | 1, h => exact h
    | 2, h => obtain ⟨a2, c2, h1, h2⟩ := h; exact ⟨a2, c2, h1, owns_ext h2 e⟩
    | 3, h => exact h
    | 4, h => exact h
    | _ + 5, _ => trivial
  have Hext := Lib.hid hext
  clear hext
  refine wp_region_inv2 (by kernel_rfl) [(62, 0), (63, 1), (64, 2), (65, 3), (66, 4)] [[], [], [1], [0, 1, 2], [0, 1, 2, 3]] (fun i own ys wx => match i with | 0 => own = .agg #[.int .i64 xr, .int .i64 yr, .slice aXr nr cXr] | 1 => own = .agg #[.int .i64 xr, .int .i64 yr, .slice ar nr cr] | 2 => ∃ (a2 : Option Addr) (c2 : Nat), own = .agg #[.int .i64 xr, .int .i64 yr, .slice a2 nr c2] ∧ wx.ownsRow v7.heap.size 3 1 (.slice a2 nr c2) nr (zr.map (Value.int .i64)) | 3 => own = .bool true | 4 => own = .bool false | _ => True) (fun kx wx => Ext v7 wx) (by kernel_rfl) (by kernel_rfl) (by kernel_rfl) ?g0_r3 ?gop_r3 ?gend_r3
  case g0_r3 => exact Ext.drewN _ 1
  case gop_r3 =>
    refine ⟨?_, ?_, ?_, ?_, ?_, trivial⟩
    · intro kx xs wx hk hG hD hI Qo Kx hK hQo
      clear hD
      clear hI
      simp only [patchS, Nat.reduceAdd, Nat.reduceEqDiff, ↓reduceIte] at hQo ⊢
      obtain ⟨k0, k1, k2⟩ := PX.cells (BXr_7.ext hG)
      go_wp2
      exact hK.out _ _ ⟨rfl, hG, fun _ _ _ _ _ _ h => h⟩
    · intro kx xs wx hk hG hD hI Qo Kx hK hQo
      clear hD
      clear hI
      simp only [patchS, Nat.reduceAdd, Nat.reduceEqDiff, ↓reduceIte] at hQo ⊢
      obtain ⟨-, k0, k1, k2, -⟩ := bx3 (hG.blk Ar_7)
      go_wp2
      exact hK.out _ _ ⟨rfl, hG, fun _ _ _ _ _ _ h => h⟩
    · intro kx xs wx hk hG hD hI Qo Kx hK hQo
      have d1 : (xs 1) = .agg #[.int .i64 xr, .int .i64 yr, .slice ar nr cr] := hD 1 rfl
      clear hD
      clear hI
      simp only [patchS, Nat.reduceAdd, Nat.reduceEqDiff, ↓reduceIte] at hQo ⊢
      generalize xs 1 = y1 at *
      subst d1
      go_wp2_with fail
      refine (toPicture_any xr yr ar nr cr zr _ (by omega) (slr.ext (E_7.trans hG))).mono ?_
      rintro e wz ⟨az, cz, rfl, ownz, ez⟩
      go_wp2
      exact hK.out _ _ ⟨⟨az, cz, rfl, owns_mono ownz hG.size⟩, hG.trans ez, fun i _ _ _ own ys h => Hext.out i own ys _ _ ez h⟩
    · intro kx xs wx hk hG hD hI Qo Kx hK hQo
      have d0 : (xs 0) = .agg #[.int .i64 xr, .int .i64 yr, .slice aXr nr cXr] := hD 0 rfl
      have d2 : ∃ (a2 : Option Addr) (c2 : Nat), (xs 2) = .agg #[.int .i64 xr, .int .i64 yr, .slice a2 nr c2] ∧ wx.ownsRow v7.heap.size 3 1 (.slice a2 nr c2) nr (zr.map (Value.int .i64)) := hD 2 rfl
      clear hD
      clear hI
      simp only [patchS, Nat.reduceAdd, Nat.reduceEqDiff, ↓reduceIte] at hQo ⊢
      generalize xs 0 = y0 at *
      generalize xs 2 = y2 at *
      subst d0
      obtain ⟨a2, c2, rfl, o2⟩ := d2
      go_wp2_with fail
      refine (eqPicture_same xr yr aXr a2 cXr c2 nr zr _ (by omega) ((Sl.of_owns OXr_7).ext hG) (Sl.of_owns o2)).mono ?_
      rintro e wz ⟨rfl, ez⟩
      go_wp2
      exact hK.out _ _ ⟨rfl, hG.trans ez, fun i _ _ _ own ys h => Hext.out i own ys _ _ ez h⟩
    · intro kx xs wx hk hG hD hI Qo Kx hK hQo
      have d3 : (xs 3) = .bool true := hD 3 rfl
      clear hD
      clear hI
      simp only [patchS, Nat.reduceAdd, Nat.reduceEqDiff, ↓reduceIte] at hQo ⊢
      generalize xs 3 = y3 at *
      subst d3
      go_wp2
      exact hK.out _ _ ⟨rfl, hG, fun _ _ _ _ _ _ h => h⟩
  clear Hext
  intro xs wx hV hG
  have d0 : (xs 0) = .agg #[.int .i64 xr, .int .i64 yr, .slice aXr nr cXr] := hV 0 (by decide)
  have d1 : (xs 1) = .agg #[.int .i64 xr, .int .i64 yr, .slice ar nr cr] := hV 1 (by decide)
  have d2 : ∃ (a2 : Option Addr) (c2 : Nat), (xs 2) = .agg #[.int .i64 xr, .int .i64 yr, .slice a2 nr c2] ∧ wx.ownsRow v7.heap.size 3 1 (.slice a2 nr c2) nr (zr.map (Value.int .i64)) := hV 2 (by decide)
  have d3 : (xs 3) = .bool true := hV 3 (by decide)
  have d4 : (xs 4) = .bool false := hV 4 (by decide)
  clear hV
  simp only [patchS, Nat.reduceAdd, Nat.reduceEqDiff, ↓reduceIte]
  generalize xs 0 = y0 at *
  generalize xs 1 = y1 at *
  generalize xs 2 = y2 at *
  generalize xs 3 = y3 at *
  generalize xs 4 = y4 at *
  replace hG : Ext v7 wx := hG
  clear d0 d1 d2 d3
  subst d4
  generalize wx = v8 at *
  have hsg := hG.size
  clear hsg
  have Ar_8 : v8.heap[B]? = some (.cells #[.int .i64 xr, .int .i64 yr, .slice ar nr cr] 42 (0, 0)) := hG.blk Ar_7
  have Ap_8 : v8.heap[B + 1]? = some (.cells #[.int .i64 xp, .int .i64 yp, .slice ap np cp] 42 (0, 0)) := hG.blk Ap_7
  have AM_8 : IB v8 (B + 1 + 1) 45 mm.zs := AM_7.ext hG
  have E_8 : Ext w v8 := E_7.trans hG
  have BW_8 : PX v8 bW rx ry aW mr cW := BW_7.ext hG
  have SW_8 : Sl v8 aW mr (rz.map (Value.int .i64)) := SW_7.ext hG
  have OXr_8 : v8.ownsRow h1 3 1 (.slice aXr nr cXr) nr (zr.map (Value.int .i64)) := owns_ext OXr_7 hG
  have BXr_8 : PX v8 bXr xr yr aXr nr cXr := BXr_7.ext hG
  have OXp_8 : v8.ownsRow h2 3 1 (.slice aXp np cXp) np (zp.map (Value.int .i64)) := owns_ext OXp_7 hG
  have BXp_8 : PX v8 bXp xp yp aXp np cXp := BXp_7.ext hG
  have BG_8 : PX v8 bG rx ry aG mr cG := BG_7.ext hG
  have OG_8 : v8.ownsRow h3 3 1 (.slice aG mr cG) mr (rz.map (Value.int .i64)) := owns_ext OG_7 hG
  clear Ar_7 Ap_7 AM_7 E_7 BW_7 SW_7 OXr_7 BXr_7 OXp_7 BXp_7 BG_7 OG_7
  clear hG
  go_upto_region 16 with fail
  have hext : ∀ (i : Nat) (own : Value) (ys : Nat → Value) (wa wb : World), Ext wa wb → (match i with | 0 => own = .agg #[.int .i64 xp, .int .i64 yp, .slice aXp np cXp] | 1 => own = .agg #[.int .i64 xp, .int .i64 yp, .slice ap np cp] | 2 => ∃ (a2 : Option Addr) (c2 : Nat), own = .agg #[.int .i64 xp, .int .i64 yp, .slice a2 np c2] ∧ wa.ownsRow v8.heap.size 3 1 (.slice a2 np c2) np (zp.map (Value.int .i64)) | 3 => own = .bool true | 4 => own = .bool false | _ => True) → (match i with | 0 => own = .agg #[.int .i64 xp, .int .i64 yp, .slice aXp np cXp] | 1 => own = .agg #[.int .i64 xp, .int .i64 yp, .slice ap np cp] | 2 => ∃ (a2 : Option Addr) (c2 : Nat), own = .agg #[.int .i64 xp, .int .i64 yp, .slice a2 np c2] ∧ wb.ownsRow v8.heap.size 3 1 (.slice a2 np c2) np (zp.map (Value.int .i64)) | 3 => own = .bool true | 4 => own = .bool false | _ => True) := by
    intro i own ys wa wb e h
    match i, h with
    | 0, h => exact h
    | 1, h => exact h
    | 2, h => obtain ⟨a2, c2, h1, h2⟩ := h; exact ⟨a2, c2, h1, owns_ext h2 e⟩
    | 3, h => exact h
    | 4, h => exact h
    | _ + 5, _ => trivial
  have Hext := Lib.hid hext
  clear hext
  refine wp_region_inv2 (by kernel_rfl) [(67, 0), (68, 1), (69, 2), (70, 3), (71, 4)] [[], [], [1], [0, 1, 2], [0, 1, 2, 3]] (fun i own ys wx => match i with | 0 => own = .agg #[.int .i64 xp, .int .i64 yp, .slice aXp np cXp] | 1 => own = .agg #[.int .i64 xp, .int .i64 yp, .slice ap np cp] | 2 => ∃ (a2 : Option Addr) (c2 : Nat), own = .agg #[.int .i64 xp, .int .i64 yp, .slice a2 np c2] ∧ wx.ownsRow v8.heap.size 3 1 (.slice a2 np c2) np (zp.map (Value.int .i64)) | 3 => own = .bool true | 4 => own = .bool false | _ => True) (fun kx wx => Ext v8 wx) (by kernel_rfl) (by kernel_rfl) (by kernel_rfl) ?g0_r4 ?gop_r4 ?gend_r4
  case g0_r4 => exact Ext.drewN _ 1
  case gop_r4 =>
    refine ⟨?_, ?_, ?_, ?_, ?_, trivial⟩
    · intro kx xs wx hk hG hD hI Qo Kx hK hQo
      clear hD
      clear hI
      simp only [patchS, Nat.reduceAdd, Nat.reduceEqDiff, ↓reduceIte] at hQo ⊢
      obtain ⟨k0, k1, k2⟩ := PX.cells (BXp_8.ext hG)
      go_wp2
      exact hK.out _ _ ⟨rfl, hG, fun _ _ _ _ _ _ h => h⟩
    · intro kx xs wx hk hG hD hI Qo Kx hK hQo
      clear hD
      clear hI
      simp only [patchS, Nat.reduceAdd, Nat.reduceEqDiff, ↓reduceIte] at hQo ⊢
      obtain ⟨-, k0, k1, k2, -⟩ := bx3 (hG.blk Ap_8)
      go_wp2
      exact hK.out _ _ ⟨rfl, hG, fun _ _ _ _ _ _ h => h⟩
    · intro kx xs wx hk hG hD hI Qo Kx hK hQo
      have d1 : (xs 1) = .agg #[.int .i64 xp, .int .i64 yp, .slice ap np cp] := hD 1 rfl
      clear hD
      clear hI
      simp only [patchS, Nat.reduceAdd, Nat.reduceEqDiff, ↓reduceIte] at hQo ⊢
      generalize xs 1 = y1 at *
      subst d1
      go_wp2_with fail
      refine (toPicture_any xp yp ap np cp zp _ (by omega) (slp.ext (E_8.trans hG))).mono ?_
      rintro e wz ⟨az, cz, rfl, ownz, ez⟩
      go_wp2
      exact hK.out _ _ ⟨⟨az, cz, rfl, owns_mono ownz hG.size⟩, hG.trans ez, fun i _ _ _ own ys h => Hext.out i own ys _ _ ez h⟩
    · intro kx xs wx hk hG hD hI Qo Kx hK hQo
      have d0 : (xs 0) = .agg #[.int .i64 xp, .int .i64 yp, .slice aXp np cXp] := hD 0 rfl
      have d2 : ∃ (a2 : Option Addr) (c2 : Nat), (xs 2) = .agg #[.int .i64 xp, .int .i64 yp, .slice a2 np c2] ∧ wx.ownsRow v8.heap.size 3 1 (.slice a2 np c2) np (zp.map (Value.int .i64)) := hD 2 rfl
      clear hD
      clear hI
      simp only [patchS, Nat.reduceAdd, Nat.reduceEqDiff, ↓reduceIte] at hQo ⊢
      generalize xs 0 = y0 at *
      generalize xs 2 = y2 at *
      subst d0
      obtain ⟨a2, c2, rfl, o2⟩ := d2
      go_wp2_with fail
      refine (eqPicture_same xp yp aXp a2 cXp c2 np zp _ (by omega) ((Sl.of_owns OXp_8).ext hG) (Sl.of_owns o2)).mono ?_
      rintro e wz ⟨rfl, ez⟩
      go_wp2
      exact hK.out _ _ ⟨rfl, hG.trans ez, fun i _ _ _ own ys h => Hext.out i own ys _ _ ez h⟩
    · intro kx xs wx hk hG hD hI Qo Kx hK hQo
      have d3 : (xs 3) = .bool true := hD 3 rfl
      clear hD
      clear hI
      simp only [patchS, Nat.reduceAdd, Nat.reduceEqDiff, ↓reduceIte] at hQo ⊢
      generalize xs 3 = y3 at *
      subst d3
      go_wp2
      exact hK.out _ _ ⟨rfl, hG, fun _ _ _ _ _ _ h => h⟩
  clear Hext
  intro xs wx hV hG
  have d0 : (xs 0) = .agg #[.int .i64 xp, .int .i64 yp, .slice aXp np cXp] := hV 0 (by decide)
  have d1 : (xs 1) = .agg #[.int .i64 xp, .int .i64 yp, .slice ap np cp] := hV 1 (by decide)
  have d2 : ∃ (a2 : Option Addr) (c2 : Nat), (xs 2) = .agg #[.int .i64 xp, .int .i64 yp, .slice a2 np c2] ∧ wx.ownsRow v8.heap.size 3 1 (.slice a2 np c2) np (zp.map (Value.int .i64)) := hV 2 (by decide)
  have d3 : (xs 3) = .bool true := hV 3 (by decide)
  have d4 : (xs 4) = .bool false := hV 4 (by decide)
  clear hV
  simp only [patchS, Nat.reduceAdd, Nat.reduceEqDiff, ↓reduceIte]
  generalize xs 0 = y0 at *
  generalize xs 1 = y1 at *
  generalize xs 2 = y2 at *
  generalize xs 3 = y3 at *
  generalize xs 4 = y4 at *
  replace hG : Ext v8 wx := hG
  clear d0 d1 d2 d3
  subst d4
  generalize wx = v9 at *
  have hsg := hG.size
  clear hsg
  have Ar_9 : v9.heap[B]? = some (.cells #[.int .i64 xr, .int .i64 yr, .slice ar nr cr] 42 (0, 0)) := hG.blk Ar_8
  have Ap_9 : v9.heap[B + 1]? = some (.cells #[.int .i64 xp, .int .i64 yp, .slice ap np cp] 42 (0, 0)) := hG.blk Ap_8
  have AM_9 : IB v9 (B + 1 + 1) 45 mm.zs := AM_8.ext hG
  have E_9 : Ext w v9 := E_8.trans hG
  have BW_9 : PX v9 bW rx ry aW mr cW := BW_8.ext hG
  have SW_9 : Sl v9 aW mr (rz.map (Value.int .i64)) := SW_8.ext hG
  have OXr_9 : v9.ownsRow h1 3 1 (.slice aXr nr cXr) nr (zr.map (Value.int .i64)) := owns_ext OXr_8 hG
  have BXr_9 : PX v9 bXr xr yr aXr nr cXr := BXr_8.ext hG
  have OXp_9 : v9.ownsRow h2 3 1 (.slice aXp np cXp) np (zp.map (Value.int .i64)) := owns_ext OXp_8 hG
  have BXp_9 : PX v9 bXp xp yp aXp np cXp := BXp_8.ext hG
  have BG_9 : PX v9 bG rx ry aG mr cG := BG_8.ext hG
  have OG_9 : v9.ownsRow h3 3 1 (.slice aG mr cG) mr (rz.map (Value.int .i64)) := owns_ext OG_8 hG
  clear Ar_8 Ap_8 AM_8 E_8 BW_8 SW_8 OXr_8 BXr_8 OXp_8 BXp_8 BG_8 OG_8
  clear hG
  obtain ⟨kBXr0, kBXr1, kBXr2⟩ := PX.cells BXr_9
  go_wp2_with (first | (refine wpList_iload 45 _ rfl rfl AM_9 0 71 rfl _ Tryd.underlying45 rfl size_lMacro (by rw [Hl.out]; omega) _ (by rw [sub_all _ _ Hl.out]) ?_))
  refine (markPicture_any xr yr aXr nr cXr _ (1) _ _ (by omega) (by omega) (by omega) OXr_9).mono ?_
  rintro e v10 ⟨rfl, -, g1⟩
  clear kBXr0 kBXr1 kBXr2
  clear OXr_9
  have TT : Tc h1 bXr _ v10 := Tc.of g1 (fun k hk => RXr.out k hk)
  have Ar_10 : v10.heap[B]? = some (.cells #[.int .i64 xr, .int .i64 yr, .slice ar nr cr] 42 (0, 0)) := TT.blk Ar_9 (by omega)
  have Ap_10 : v10.heap[B + 1]? = some (.cells #[.int .i64 xp, .int .i64 yp, .slice ap np cp] 42 (0, 0)) := TT.blk Ap_9 (by omega)
  have AM_10 : IB v10 (B + 1 + 1) 45 mm.zs := TT.ib AM_9 (by omega)
  have E_10 : Ext w v10 := TT.ext E_9 (by omega)
  have BW_10 : PX v10 bW rx ry aW mr cW := TT.blk BW_9 (by omega)
  have SW_10 : Sl v10 aW mr (rz.map (Value.int .i64)) := TT.sl SW_9 (fun y hy => by have := RSW.out y hy; omega)
  have BXr_10 : PX v10 bXr xr yr aXr nr cXr := TT.blk BXr_9 (by omega)
  have OXp_10 : v10.ownsRow h2 3 1 (.slice aXp np cXp) np (zp.map (Value.int .i64)) := TT.own OXp_9 (fun k hk => by have := RXp.out k hk; omega)
  have BXp_10 : PX v10 bXp xp yp aXp np cXp := TT.blk BXp_9 (by omega)
  have BG_10 : PX v10 bG rx ry aG mr cG := TT.blk BG_9 (by omega)
  have OG_10 : v10.ownsRow h3 3 1 (.slice aG mr cG) mr (rz.map (Value.int .i64)) := TT.own OG_9 (fun k hk => by have := RG.out k hk; omega)
  clear Ar_9 Ap_9 AM_9 E_9 BW_9 SW_9 BXr_9 OXp_9 BXp_9 BG_9 OG_9
  clear TT g1
  obtain ⟨kBXp0, kBXp1, kBXp2⟩ := PX.cells BXp_10
  go_wp2_with (first | (refine wpList_iload 45 _ rfl rfl AM_10 0 71 rfl _ Tryd.underlying45 rfl size_lMacro (by rw [Hl.out]; omega) _ (by rw [sub_all _ _ Hl.out]) ?_))
  refine (markPicture_any xp yp aXp np cXp _ (1 + (nr : Int)) _ _ (by omega) (by omega) (by omega) OXp_10).mono ?_
  rintro e v11 ⟨rfl, -, g1⟩
  clear kBXp0 kBXp1 kBXp2
  clear OXp_10
  have TT : Tc h2 bXp _ v11 := Tc.of g1 (fun k hk => RXp.out k hk)
  have Ar_11 : v11.heap[B]? = some (.cells #[.int .i64 xr, .int .i64 yr, .slice ar nr cr] 42 (0, 0)) := TT.blk Ar_10 (by omega)
  have Ap_11 : v11.heap[B + 1]? = some (.cells #[.int .i64 xp, .int .i64 yp, .slice ap np cp] 42 (0, 0)) := TT.blk Ap_10 (by omega)
  have AM_11 : IB v11 (B + 1 + 1) 45 mm.zs := TT.ib AM_10 (by omega)
  have E_11 : Ext w v11 := TT.ext E_10 (by omega)
  have BW_11 : PX v11 bW rx ry aW mr cW := TT.blk BW_10 (by omega)
  have SW_11 : Sl v11 aW mr (rz.map (Value.int .i64)) := TT.sl SW_10 (fun y hy => by have := RSW.out y hy; omega)
  have BXr_11 : PX v11 bXr xr yr aXr nr cXr := TT.blk BXr_10 (by omega)
  have BXp_11 : PX v11 bXp xp yp aXp np cXp := TT.blk BXp_10 (by omega)
  have BG_11 : PX v11 bG rx ry aG mr cG := TT.blk BG_10 (by omega)
  have OG_11 : v11.ownsRow h3 3 1 (.slice aG mr cG) mr (rz.map (Value.int .i64)) := TT.own OG_10 (fun k hk => by have := RG.out k hk; omega)
  clear Ar_10 Ap_10 AM_10 E_10 BW_10 SW_10 BXr_10 BXp_10 BG_10 OG_10
  clear TT g1
  have hdk : decide ((1 + (nr : Int) + (np : Int) : Int) < 0) = false := by simp; omega
  obtain ⟨kBG0, kBG1, kBG2⟩ := PX.cells BG_11
  obtain ⟨kBW0, kBW1, kBW2⟩ := PX.cells BW_11
  go_wp2_with (first | (refine wpList_iload 45 _ rfl rfl AM_11 0 71 rfl _ Tryd.underlying45 rfl size_lMacro (by rw [Hl.out]; omega) _ (by rw [sub_all _ _ Hl.out]) ?_))
  refine (eqPicture_same rx ry aG aW cG cW mr rz _ (by omega) (Sl.of_owns OG_11) SW_11).mono ?_
  rintro e v12 ⟨rfl, e1⟩
  clear kBG0 kBG1 kBG2 kBW0 kBW1 kBW2
  have Ar_12 : v12.heap[B]? = some (.cells #[.int .i64 xr, .int .i64 yr, .slice ar nr cr] 42 (0, 0)) := e1.blk Ar_11
  have Ap_12 : v12.heap[B + 1]? = some (.cells #[.int .i64 xp, .int .i64 yp, .slice ap np cp] 42 (0, 0)) := e1.blk Ap_11
  have AM_12 : IB v12 (B + 1 + 1) 45 mm.zs := AM_11.ext e1
  have E_12 : Ext w v12 := E_11.trans e1
  have BW_12 : PX v12 bW rx ry aW mr cW := BW_11.ext e1
  have SW_12 : Sl v12 aW mr (rz.map (Value.int .i64)) := SW_11.ext e1
  have BXr_12 : PX v12 bXr xr yr aXr nr cXr := BXr_11.ext e1
  have BXp_12 : PX v12 bXp xp yp aXp np cXp := BXp_11.ext e1
  have BG_12 : PX v12 bG rx ry aG mr cG := BG_11.ext e1
  have OG_12 : v12.ownsRow h3 3 1 (.slice aG mr cG) mr (rz.map (Value.int .i64)) := owns_ext OG_11 e1
  clear Ar_11 Ap_11 AM_11 E_11 BW_11 SW_11 BXr_11 BXp_11 BG_11 OG_11
  clear e1
  clear BXr_12
  clear BXp_12
  obtain ⟨kBG0, kBG1, kBG2⟩ := PX.cells BG_12
  go_wp2_with (first | (refine wpList_iload 45 _ rfl rfl AM_12 0 71 rfl _ Tryd.underlying45 rfl size_lMacro (by rw [Hl.out]; omega) _ (by rw [sub_all _ _ Hl.out]) ?_))
  have hrow := PZ.ne (n := 0) (PX.z BG_12) OG_12 rfl
  refine (markPicture_any rx ry aG mr cG _ 1 _ _ (by omega) (by omega) (by omega) OG_12).mono ?_
  rintro e v13 ⟨rfl, o1, g1⟩
  clear kBG0 kBG1 kBG2
  clear OG_12
  have TT : Tc h3 h4 _ v13 := Tc.of g1 (fun k hk => RG.out k hk)
  have Ar_13 : v13.heap[B]? = some (.cells #[.int .i64 xr, .int .i64 yr, .slice ar nr cr] 42 (0, 0)) := TT.blk Ar_12 (by omega)
  have Ap_13 : v13.heap[B + 1]? = some (.cells #[.int .i64 xp, .int .i64 yp, .slice ap np cp] 42 (0, 0)) := TT.blk Ap_12 (by omega)
  have AM_13 : IB v13 (B + 1 + 1) 45 mm.zs := TT.ib AM_12 (by omega)
  have E_13 : Ext w v13 := TT.ext E_12 (by omega)
  have BW_13 : PX v13 bW rx ry aW mr cW := TT.blk BW_12 (by omega)
  have SW_13 : Sl v13 aW mr (rz.map (Value.int .i64)) := TT.sl SW_12 (fun y hy => by have := RSW.out y hy; omega)
  have BG_13 : PX v13 bG rx ry aG mr cG := blk_gr BG_12 g1 hrow
  clear Ar_12 Ap_12 AM_12 E_12 BW_12 SW_12 BG_12
  have MG_n := Sl.of_owns o1
  clear TT g1 hrow o1
  have MG_13 := MG_n
  clear MG_n
  have hdm : decide ((1 : Int) + mr < 0) = false := by simp; omega
  have hqm : ((1 : Int) + mr != 1 + (mr : Int)) = false := by simp
  obtain ⟨kBG0, kBG1, kBG2⟩ := PX.cells BG_13
  go_wp2_with (first | (refine wpList_iload 45 _ rfl rfl AM_13 0 71 rfl _ Tryd.underlying45 rfl size_lMacro (by rw [Hl.out]; omega) _ (by rw [sub_all _ _ Hl.out]) ?_))
  refine (heldPicture_any rx ry aG mr cG 1 _ (by omega) (by omega) (by omega) MG_13).mono ?_
  rintro e v14 ⟨rfl, e1⟩
  clear kBG0 kBG1 kBG2
  have Ar_14 : v14.heap[B]? = some (.cells #[.int .i64 xr, .int .i64 yr, .slice ar nr cr] 42 (0, 0)) := e1.blk Ar_13
  have Ap_14 : v14.heap[B + 1]? = some (.cells #[.int .i64 xp, .int .i64 yp, .slice ap np cp] 42 (0, 0)) := e1.blk Ap_13
  have AM_14 : IB v14 (B + 1 + 1) 45 mm.zs := AM_13.ext e1
  have E_14 : Ext w v14 := E_13.trans e1
  have BW_14 : PX v14 bW rx ry aW mr cW := BW_13.ext e1
  have SW_14 : Sl v14 aW mr (rz.map (Value.int .i64)) := SW_13.ext e1
  have BG_14 : PX v14 bG rx ry aG mr cG := BG_13.ext e1
  have MG_14 : Sl v14 aG mr ((marks 1 mr).map (Value.int .i64)) := MG_13.ext e1
  clear Ar_13 Ap_13 AM_13 E_13 BW_13 SW_13 BG_13 MG_13
  clear e1
  go_upto_region 31 with fail
  have hext : ∀ (i : Nat) (own : Value) (ys : Nat → Value) (wa wb : World), Ext wa wb → (match i with | 0 => own = .agg #[.int .i64 xr, .int .i64 yr, .slice ar nr cr] | 1 => ∃ (a2 : Option Addr) (c2 : Nat), own = .agg #[.int .i64 xr, .int .i64 yr, .slice a2 nr c2] ∧ wa.ownsRow v14.heap.size 3 1 (.slice a2 nr c2) nr (zr.map (Value.int .i64)) | 2 => own = .agg #[.int .i64 xp, .int .i64 yp, .slice ap np cp] | 3 => ∃ (a2 : Option Addr) (c2 : Nat), own = .agg #[.int .i64 xp, .int .i64 yp, .slice a2 np c2] ∧ wa.ownsRow v14.heap.size 3 1 (.slice a2 np c2) np (zp.map (Value.int .i64)) | 4 => own = .int .i64 x | 5 => own = .int .i64 y | 6 => own = .agg (ic mm.zs) | 7 => own = .agg (ic mm.zs) | 8 => own = .int .i64 q | 9 => own = .int .i64 top | 10 => ∃ (a2 : Option Addr) (c2 : Nat), own = .agg #[.int .i64 rx, .int .i64 ry, .slice a2 mr c2] ∧ wa.ownsRow v14.heap.size 3 1 (.slice a2 mr c2) mr (rz.map (Value.int .i64)) | 11 => ∃ b : Nat, own = .pointer (some ⟨b, 0, none⟩) ∧ v14.heap.size ≤ b ∧ PZ wa b | 12 => ∃ (b : Nat) (a2 : Option Addr) (c2 : Nat), ys 11 = .pointer (some ⟨b, 0, none⟩) ∧ v14.heap.size ≤ b ∧ PX wa b rx ry a2 mr c2 ∧ wa.ownsRow v14.heap.size 3 1 (.slice a2 mr c2) mr (rz.map (Value.int .i64)) | _ => True) → (match i with | 0 => own = .agg #[.int .i64 xr, .int .i64 yr, .slice ar nr cr] | 1 => ∃ (a2 : Option Addr) (c2 : Nat), own = .agg #[.int .i64 xr, .int .i64 yr, .slice a2 nr c2] ∧ wb.ownsRow v14.heap.size 3 1 (.slice a2 nr c2) nr (zr.map (Value.int .i64)) | 2 => own = .agg #[.int .i64 xp, .int .i64 yp, .slice ap np cp] | 3 => ∃ (a2 : Option Addr) (c2 : Nat), own = .agg #[.int .i64 xp, .int .i64 yp, .slice a2 np c2] ∧ wb.ownsRow v14.heap.size 3 1 (.slice a2 np c2) np (zp.map (Value.int .i64)) | 4 => own = .int .i64 x | 5 => own = .int .i64 y | 6 => own = .agg (ic mm.zs) | 7 => own = .agg (ic mm.zs) | 8 => own = .int .i64 q | 9 => own = .int .i64 top | 10 => ∃ (a2 : Option Addr) (c2 : Nat), own = .agg #[.int .i64 rx, .int .i64 ry, .slice a2 mr c2] ∧ wb.ownsRow v14.heap.size 3 1 (.slice a2 mr c2) mr (rz.map (Value.int .i64)) | 11 => ∃ b : Nat, own = .pointer (some ⟨b, 0, none⟩) ∧ v14.heap.size ≤ b ∧ PZ wb b | 12 => ∃ (b : Nat) (a2 : Option Addr) (c2 : Nat), ys 11 = .pointer (some ⟨b, 0, none⟩) ∧ v14.heap.size ≤ b ∧ PX wb b rx ry a2 mr c2 ∧ wb.ownsRow v14.heap.size 3 1 (.slice a2 mr c2) mr (rz.map (Value.int .i64)) | _ => True) := by
    intro i own ys wa wb e h
    match i, h with
    | 0, h => exact h
    | 1, h => obtain ⟨a2, c2, h1, h2⟩ := h; exact ⟨a2, c2, h1, owns_ext h2 e⟩
    | 2, h => exact h
    | 3, h => obtain ⟨a2, c2, h1, h2⟩ := h; exact ⟨a2, c2, h1, owns_ext h2 e⟩
    | 4, h => exact h
    | 5, h => exact h
    | 6, h => exact h
    | 7, h => exact h
    | 8, h => exact h
    | 9, h => exact h
    | 10, h => obtain ⟨a2, c2, h1, h2⟩ := h; exact ⟨a2, c2, h1, owns_ext h2 e⟩
    | 11, h => obtain ⟨b, h1, h2, h3⟩ := h; exact ⟨b, h1, h2, h3.ext e⟩
    | 12, h => obtain ⟨b, a2, c2, h1, h2, h3, h4⟩ := h; exact ⟨b, a2, c2, h1, h2, h3.ext e, owns_ext h4 e⟩
    | _ + 13, _ => trivial
  have Hext := Lib.hid hext
  clear hext
  refine wp_region_inv2 (by kernel_rfl) [(23, 11), (97, 0), (98, 1), (99, 2), (100, 3), (101, 4), (102, 5), (103, 6), (104, 7), (105, 8), (106, 9), (107, 10)] [[], [0], [], [0, 1, 2], [], [], [], [0, 1, 2, 3, 6], [], [], [0, 1, 2, 3, 4, 5, 6, 7, 8, 9], [], [0, 1, 2, 3, 4, 5, 6, 7, 8, 9, 10, 11]] (fun i own ys wx => match i with | 0 => own = .agg #[.int .i64 xr, .int .i64 yr, .slice ar nr cr] | 1 => ∃ (a2 : Option Addr) (c2 : Nat), own = .agg #[.int .i64 xr, .int .i64 yr, .slice a2 nr c2] ∧ wx.ownsRow v14.heap.size 3 1 (.slice a2 nr c2) nr (zr.map (Value.int .i64)) | 2 => own = .agg #[.int .i64 xp, .int .i64 yp, .slice ap np cp] | 3 => ∃ (a2 : Option Addr) (c2 : Nat), own = .agg #[.int .i64 xp, .int .i64 yp, .slice a2 np c2] ∧ wx.ownsRow v14.heap.size 3 1 (.slice a2 np c2) np (zp.map (Value.int .i64)) | 4 => own = .int .i64 x | 5 => own = .int .i64 y | 6 => own = .agg (ic mm.zs) | 7 => own = .agg (ic mm.zs) | 8 => own = .int .i64 q | 9 => own = .int .i64 top | 10 => ∃ (a2 : Option Addr) (c2 : Nat), own = .agg #[.int .i64 rx, .int .i64 ry, .slice a2 mr c2] ∧ wx.ownsRow v14.heap.size 3 1 (.slice a2 mr c2) mr (rz.map (Value.int .i64)) | 11 => ∃ b : Nat, own = .pointer (some ⟨b, 0, none⟩) ∧ v14.heap.size ≤ b ∧ PZ wx b | 12 => ∃ (b : Nat) (a2 : Option Addr) (c2 : Nat), ys 11 = .pointer (some ⟨b, 0, none⟩) ∧ v14.heap.size ≤ b ∧ PX wx b rx ry a2 mr c2 ∧ wx.ownsRow v14.heap.size 3 1 (.slice a2 mr c2) mr (rz.map (Value.int .i64)) | _ => True) (fun kx wx => Ext v14 wx) (by kernel_rfl) (by kernel_rfl) (by kernel_rfl) ?g0_r5 ?gop_r5 ?gend_r5
  case g0_r5 => exact Ext.drewN _ 1
  case gop_r5 =>
    refine ⟨?_, ?_, ?_, ?_, ?_, ?_, ?_, ?_, ?_, ?_, ?_, ?_, ?_, trivial⟩
    · intro kx xs wx hk hG hD hI Qo Kx hK hQo
      clear hD
      clear hI
      simp only [patchS, Nat.reduceAdd, Nat.reduceEqDiff, ↓reduceIte] at hQo ⊢
      obtain ⟨-, k0, k1, k2, -⟩ := bx3 (hG.blk Ar_14)
      go_wp2
      exact hK.out _ _ ⟨rfl, hG, fun _ _ _ _ _ _ h => h⟩
    · intro kx xs wx hk hG hD hI Qo Kx hK hQo
      have d0 : (xs 0) = .agg #[.int .i64 xr, .int .i64 yr, .slice ar nr cr] := hD 0 rfl
      clear hD
      clear hI
      simp only [patchS, Nat.reduceAdd, Nat.reduceEqDiff, ↓reduceIte] at hQo ⊢
      generalize xs 0 = y0 at *
      subst d0
      go_wp2_with fail
      refine (toPicture_any xr yr ar nr cr zr _ (by omega) (slr.ext (E_14.trans hG))).mono ?_
      rintro e wz ⟨az, cz, rfl, ownz, ez⟩
      go_wp2
      exact hK.out _ _ ⟨⟨az, cz, rfl, owns_mono ownz hG.size⟩, hG.trans ez, fun i _ _ _ own ys h => Hext.out i own ys _ _ ez h⟩
    · intro kx xs wx hk hG hD hI Qo Kx hK hQo
      clear hD
      clear hI
      simp only [patchS, Nat.reduceAdd, Nat.reduceEqDiff, ↓reduceIte] at hQo ⊢
      obtain ⟨-, k0, k1, k2, -⟩ := bx3 (hG.blk Ap_14)
      go_wp2
      exact hK.out _ _ ⟨rfl, hG, fun _ _ _ _ _ _ h => h⟩
    · intro kx xs wx hk hG hD hI Qo Kx hK hQo
      have d2 : (xs 2) = .agg #[.int .i64 xp, .int .i64 yp, .slice ap np cp] := hD 2 rfl
      clear hD
      clear hI
      simp only [patchS, Nat.reduceAdd, Nat.reduceEqDiff, ↓reduceIte] at hQo ⊢
      generalize xs 2 = y2 at *
      subst d2
      go_wp2_with fail
      refine (toPicture_any xp yp ap np cp zp _ (by omega) (slp.ext (E_14.trans hG))).mono ?_
      rintro e wz ⟨az, cz, rfl, ownz, ez⟩
      go_wp2
      exact hK.out _ _ ⟨⟨az, cz, rfl, owns_mono ownz hG.size⟩, hG.trans ez, fun i _ _ _ own ys h => Hext.out i own ys _ _ ez h⟩
    · intro kx xs wx hk hG hD hI Qo Kx hK hQo
      clear hD
      clear hI
      simp only [patchS, Nat.reduceAdd, Nat.reduceEqDiff, ↓reduceIte] at hQo ⊢
      go_wp2
      exact hK.out _ _ ⟨rfl, hG, fun _ _ _ _ _ _ h => h⟩
    · intro kx xs wx hk hG hD hI Qo Kx hK hQo
      clear hD
      clear hI
      simp only [patchS, Nat.reduceAdd, Nat.reduceEqDiff, ↓reduceIte] at hQo ⊢
      go_wp2
      exact hK.out _ _ ⟨rfl, hG, fun _ _ _ _ _ _ h => h⟩
    · intro kx xs wx hk hG hD hI Qo Kx hK hQo
      clear hD
      clear hI
      simp only [patchS, Nat.reduceAdd, Nat.reduceEqDiff, ↓reduceIte] at hQo ⊢
      go_wp2_with (refine wpList_iload 45 _ rfl rfl (AM_14.ext hG) 0 71 rfl _ Tryd.underlying45 rfl size_lMacro (by rw [Hl.out]; omega) _ (by rw [sub_all _ _ Hl.out]) ?_)
      exact hK.out _ _ ⟨rfl, hG, fun _ _ _ _ _ _ h => h⟩
    · intro kx xs wx hk hG hD hI Qo Kx hK hQo
      have d6 : (xs 6) = .agg (ic mm.zs) := hD 6 rfl
      clear hD
      clear hI
      simp only [patchS, Nat.reduceAdd, Nat.reduceEqDiff, ↓reduceIte] at hQo ⊢
      generalize xs 6 = y6 at *
      subst d6
      go_wp2_with fail
      refine (toMacro_any mm _ Hm.out).mono ?_
      rintro e wz ⟨rfl, ez⟩
      go_wp2
      exact hK.out _ _ ⟨rfl, hG.trans ez, fun i _ _ _ own ys h => Hext.out i own ys _ _ ez h⟩
    · intro kx xs wx hk hG hD hI Qo Kx hK hQo
      clear hD
      clear hI
      simp only [patchS, Nat.reduceAdd, Nat.reduceEqDiff, ↓reduceIte] at hQo ⊢
      go_wp2
      exact hK.out _ _ ⟨rfl, hG, fun _ _ _ _ _ _ h => h⟩
    · intro kx xs wx hk hG hD hI Qo Kx hK hQo
      clear hD
      clear hI
      simp only [patchS, Nat.reduceAdd, Nat.reduceEqDiff, ↓reduceIte] at hQo ⊢
      go_wp2
      exact hK.out _ _ ⟨rfl, hG, fun _ _ _ _ _ _ h => h⟩
    · intro kx xs wx hk hG hD hI Qo Kx hK hQo
      have d1 : ∃ (a2 : Option Addr) (c2 : Nat), (xs 1) = .agg #[.int .i64 xr, .int .i64 yr, .slice a2 nr c2] ∧ wx.ownsRow v14.heap.size 3 1 (.slice a2 nr c2) nr (zr.map (Value.int .i64)) := hD 1 rfl
      have d3 : ∃ (a2 : Option Addr) (c2 : Nat), (xs 3) = .agg #[.int .i64 xp, .int .i64 yp, .slice a2 np c2] ∧ wx.ownsRow v14.heap.size 3 1 (.slice a2 np c2) np (zp.map (Value.int .i64)) := hD 3 rfl
      have d4 : (xs 4) = .int .i64 x := hD 4 rfl
      have d5 : (xs 5) = .int .i64 y := hD 5 rfl
      have d7 : (xs 7) = .agg (ic mm.zs) := hD 7 rfl
      have d8 : (xs 8) = .int .i64 q := hD 8 rfl
      have d9 : (xs 9) = .int .i64 top := hD 9 rfl
      clear hD
      clear hI
      simp only [patchS, Nat.reduceAdd, Nat.reduceEqDiff, ↓reduceIte] at hQo ⊢
      generalize xs 1 = y1 at *
      generalize xs 3 = y3 at *
      generalize xs 4 = y4 at *
      generalize xs 5 = y5 at *
      generalize xs 7 = y7 at *
      generalize xs 8 = y8 at *
      generalize xs 9 = y9 at *
      obtain ⟨a1, c1, rfl, o1⟩ := d1
      obtain ⟨a3, c3, rfl, o3⟩ := d3
      subst d4
      subst d5
      subst d7
      subst d8
      subst d9
      go_wp2_with fail
      refine (HI.out a1 c1 a3 c3 _ (hT.ext (E_14.trans hG)) (Sl.of_owns o1) (Sl.of_owns o3)).mono ?_
      rintro e wz ⟨az, cz, rfl, ownz, ez⟩
      go_wp2
      exact hK.out _ _ ⟨⟨az, cz, rfl, owns_mono ownz hG.size⟩, hG.trans ez, fun i _ _ _ own ys h => Hext.out i own ys _ _ ez h⟩
    · intro kx xs wx hk hG hD hI Qo Kx hK hQo
      clear hD
      clear hI
      simp only [patchS, Nat.reduceAdd, Nat.reduceEqDiff, ↓reduceIte] at hQo ⊢
      have ea := Ext.alloc wx (.cells #[.int .i64 0, .int .i64 0, .slice none 0 0] 25)
      go_wp2
      exact hK.out _ _ ⟨⟨_, rfl, hG.size, _, _, _, blk_new _ _⟩, hG.trans ea, fun i _ _ _ own ys h => Hext.out i own ys _ _ ea h⟩
    · intro kx xs wx hk hG hD hI Qo Kx hK hQo
      have d11 : ∃ b : Nat, (xs 11) = .pointer (some ⟨b, 0, none⟩) ∧ v14.heap.size ≤ b ∧ PZ wx b := hD 11 rfl
      have d10 : ∃ (a2 : Option Addr) (c2 : Nat), (xs 10) = .agg #[.int .i64 rx, .int .i64 ry, .slice a2 mr c2] ∧ wx.ownsRow v14.heap.size 3 1 (.slice a2 mr c2) mr (rz.map (Value.int .i64)) := hD 10 rfl
      clear hD
      clear hI
      simp only [patchS, Nat.reduceAdd, Nat.reduceEqDiff, ↓reduceIte] at hQo ⊢
      generalize hx11 : xs 11 = y11 at *
      have Hx11 := Lib.hid hx11
      clear hx11
      generalize xs 10 = y10 at *
      obtain ⟨b11, rfl, hb11, z11⟩ := d11
      obtain ⟨a10, c10, rfl, o10⟩ := d10
      obtain ⟨zc0, zc1, zc2, zc⟩ := z11
      obtain ⟨-, z0, z1, z2, fr0, fr1, fr2⟩ := bx3 zc
      go_wp2
      have hst : ∀ (wy : World), (∀ b : Nat, PZ wx b → PZ wy b) ∧ (∀ (v : Value) (n : Nat) (xs : List Value), wx.ownsRow v14.heap.size 3 1 v n xs → wy.ownsRow v14.heap.size 3 1 v n xs) → ∀ (ii : Nat), ii < 13 → ii ≠ 12 → ([[], [0], [], [0, 1, 2], [], [], [], [0, 1, 2, 3, 6], [], [], [0, 1, 2, 3, 4, 5, 6, 7, 8, 9], [], [0, 1, 2, 3, 4, 5, 6, 7, 8, 9, 10, 11]].getD ii []).contains 12 = false → ∀ (own : Value) (ys : Nat → Value), (match ii with | 0 => own = .agg #[.int .i64 xr, .int .i64 yr, .slice ar nr cr] | 1 => ∃ (a2 : Option Addr) (c2 : Nat), own = .agg #[.int .i64 xr, .int .i64 yr, .slice a2 nr c2] ∧ wx.ownsRow v14.heap.size 3 1 (.slice a2 nr c2) nr (zr.map (Value.int .i64)) | 2 => own = .agg #[.int .i64 xp, .int .i64 yp, .slice ap np cp] | 3 => ∃ (a2 : Option Addr) (c2 : Nat), own = .agg #[.int .i64 xp, .int .i64 yp, .slice a2 np c2] ∧ wx.ownsRow v14.heap.size 3 1 (.slice a2 np c2) np (zp.map (Value.int .i64)) | 4 => own = .int .i64 x | 5 => own = .int .i64 y | 6 => own = .agg (ic mm.zs) | 7 => own = .agg (ic mm.zs) | 8 => own = .int .i64 q | 9 => own = .int .i64 top | 10 => ∃ (a2 : Option Addr) (c2 : Nat), own = .agg #[.int .i64 rx, .int .i64 ry, .slice a2 mr c2] ∧ wx.ownsRow v14.heap.size 3 1 (.slice a2 mr c2) mr (rz.map (Value.int .i64)) | 11 => ∃ b : Nat, own = .pointer (some ⟨b, 0, none⟩) ∧ v14.heap.size ≤ b ∧ PZ wx b | 12 => ∃ (b : Nat) (a2 : Option Addr) (c2 : Nat), ys 11 = .pointer (some ⟨b, 0, none⟩) ∧ v14.heap.size ≤ b ∧ PX wx b rx ry a2 mr c2 ∧ wx.ownsRow v14.heap.size 3 1 (.slice a2 mr c2) mr (rz.map (Value.int .i64)) | _ => True) → (match ii with | 0 => own = .agg #[.int .i64 xr, .int .i64 yr, .slice ar nr cr] | 1 => ∃ (a2 : Option Addr) (c2 : Nat), own = .agg #[.int .i64 xr, .int .i64 yr, .slice a2 nr c2] ∧ wy.ownsRow v14.heap.size 3 1 (.slice a2 nr c2) nr (zr.map (Value.int .i64)) | 2 => own = .agg #[.int .i64 xp, .int .i64 yp, .slice ap np cp] | 3 => ∃ (a2 : Option Addr) (c2 : Nat), own = .agg #[.int .i64 xp, .int .i64 yp, .slice a2 np c2] ∧ wy.ownsRow v14.heap.size 3 1 (.slice a2 np c2) np (zp.map (Value.int .i64)) | 4 => own = .int .i64 x | 5 => own = .int .i64 y | 6 => own = .agg (ic mm.zs) | 7 => own = .agg (ic mm.zs) | 8 => own = .int .i64 q | 9 => own = .int .i64 top | 10 => ∃ (a2 : Option Addr) (c2 : Nat), own = .agg #[.int .i64 rx, .int .i64 ry, .slice a2 mr c2] ∧ wy.ownsRow v14.heap.size 3 1 (.slice a2 mr c2) mr (rz.map (Value.int .i64)) | 11 => ∃ b : Nat, own = .pointer (some ⟨b, 0, none⟩) ∧ v14.heap.size ≤ b ∧ PZ wy b | 12 => ∃ (b : Nat) (a2 : Option Addr) (c2 : Nat), ys 11 = .pointer (some ⟨b, 0, none⟩) ∧ v14.heap.size ≤ b ∧ PX wy b rx ry a2 mr c2 ∧ wy.ownsRow v14.heap.size 3 1 (.slice a2 mr c2) mr (rz.map (Value.int .i64)) | _ => True) := by
        intro wy hy ii hii hne hc own ys h
        match ii, h with
        | 0, h => exact h
        | 1, h => obtain ⟨a2, c2, h1, h2⟩ := h; exact ⟨a2, c2, h1, hy.2 _ _ _ h2⟩
        | 2, h => exact h
        | 3, h => obtain ⟨a2, c2, h1, h2⟩ := h; exact ⟨a2, c2, h1, hy.2 _ _ _ h2⟩
        | 4, h => exact h
        | 5, h => exact h
        | 6, h => exact h
        | 7, h => exact h
        | 8, h => exact h
        | 9, h => exact h
        | 10, h => obtain ⟨a2, c2, h1, h2⟩ := h; exact ⟨a2, c2, h1, hy.2 _ _ _ h2⟩
        | 11, h => obtain ⟨b, h1, h2, h3⟩ := h; exact ⟨b, h1, h2, hy.1 _ h3⟩
        | 12, h => exact absurd rfl hne
        | _ + 13, _ => trivial
      have hz : PZ wx b11 := ⟨_, _, _, zc⟩
      exact hQo undef _ (hK.out _ _ ⟨⟨b11, a10, c10, Hx11.out, hb11, st3_px hz rx ry a10 mr c10, st3_own hz o10⟩, st3_ext hG hb11, hst _ ⟨fun b h => st3_pz hz h, fun v n xs h => st3_own hz h⟩⟩)
  clear Hext
  intro xs wx hV hG
  have d0 : (xs 0) = .agg #[.int .i64 xr, .int .i64 yr, .slice ar nr cr] := hV 0 (by decide)
  have d1 : ∃ (a2 : Option Addr) (c2 : Nat), (xs 1) = .agg #[.int .i64 xr, .int .i64 yr, .slice a2 nr c2] ∧ wx.ownsRow v14.heap.size 3 1 (.slice a2 nr c2) nr (zr.map (Value.int .i64)) := hV 1 (by decide)
  have d2 : (xs 2) = .agg #[.int .i64 xp, .int .i64 yp, .slice ap np cp] := hV 2 (by decide)
  have d3 : ∃ (a2 : Option Addr) (c2 : Nat), (xs 3) = .agg #[.int .i64 xp, .int .i64 yp, .slice a2 np c2] ∧ wx.ownsRow v14.heap.size 3 1 (.slice a2 np c2) np (zp.map (Value.int .i64)) := hV 3 (by decide)
  have d4 : (xs 4) = .int .i64 x := hV 4 (by decide)
  have d5 : (xs 5) = .int .i64 y := hV 5 (by decide)
  have d6 : (xs 6) = .agg (ic mm.zs) := hV 6 (by decide)
  have d7 : (xs 7) = .agg (ic mm.zs) := hV 7 (by decide)
  have d8 : (xs 8) = .int .i64 q := hV 8 (by decide)
  have d9 : (xs 9) = .int .i64 top := hV 9 (by decide)
  have d10 : ∃ (a2 : Option Addr) (c2 : Nat), (xs 10) = .agg #[.int .i64 rx, .int .i64 ry, .slice a2 mr c2] ∧ wx.ownsRow v14.heap.size 3 1 (.slice a2 mr c2) mr (rz.map (Value.int .i64)) := hV 10 (by decide)
  have d11 : ∃ b : Nat, (xs 11) = .pointer (some ⟨b, 0, none⟩) ∧ v14.heap.size ≤ b ∧ PZ wx b := hV 11 (by decide)
  have d12 : ∃ (b : Nat) (a2 : Option Addr) (c2 : Nat), (xs 11) = .pointer (some ⟨b, 0, none⟩) ∧ v14.heap.size ≤ b ∧ PX wx b rx ry a2 mr c2 ∧ wx.ownsRow v14.heap.size 3 1 (.slice a2 mr c2) mr (rz.map (Value.int .i64)) := hV 12 (by decide)
  clear hV
  simp only [patchS, Nat.reduceAdd, Nat.reduceEqDiff, ↓reduceIte]
  generalize xs 0 = y0 at *
  generalize xs 1 = y1 at *
  generalize xs 2 = y2 at *
  generalize xs 3 = y3 at *
  generalize xs 4 = y4 at *
  generalize xs 5 = y5 at *
  generalize xs 6 = y6 at *
  generalize xs 7 = y7 at *
  generalize xs 8 = y8 at *
  generalize xs 9 = y9 at *
  generalize xs 10 = y10 at *
  generalize xs 11 = y11 at *
  generalize xs 12 = y12 at *
  replace hG : Ext v14 wx := hG
  clear d0 d1 d2 d3 d4 d5 d6 d7 d8 d9 d10 d11
  obtain ⟨bH, aH, cH, rfl, hbH, BH_n, OH_n⟩ := d12
  generalize wx = v15 at *
  have hsg := hG.size
  clear hsg hbH
  have Ar_15 : v15.heap[B]? = some (.cells #[.int .i64 xr, .int .i64 yr, .slice ar nr cr] 42 (0, 0)) := hG.blk Ar_14
  have Ap_15 : v15.heap[B + 1]? = some (.cells #[.int .i64 xp, .int .i64 yp, .slice ap np cp] 42 (0, 0)) := hG.blk Ap_14
  have AM_15 : IB v15 (B + 1 + 1) 45 mm.zs := AM_14.ext hG
  have E_15 : Ext w v15 := E_14.trans hG
  have BW_15 : PX v15 bW rx ry aW mr cW := BW_14.ext hG
  have SW_15 : Sl v15 aW mr (rz.map (Value.int .i64)) := SW_14.ext hG
  have BG_15 : PX v15 bG rx ry aG mr cG := BG_14.ext hG
  have MG_15 : Sl v15 aG mr ((marks 1 mr).map (Value.int .i64)) := MG_14.ext hG
  clear Ar_14 Ap_14 AM_14 E_14 BW_14 SW_14 BG_14 MG_14
  clear hG
  have BH_15 := BH_n
  clear BH_n
  have SH_15 := Sl.of_owns OH_n
  clear OH_n
  obtain ⟨kBH0, kBH1, kBH2⟩ := PX.cells BH_15
  obtain ⟨kBW0, kBW1, kBW2⟩ := PX.cells BW_15
  go_wp2_with (first | (refine wpList_iload 45 _ rfl rfl AM_15 0 71 rfl _ Tryd.underlying45 rfl size_lMacro (by rw [Hl.out]; omega) _ (by rw [sub_all _ _ Hl.out]) ?_))
  refine (eqPicture_same rx ry aH aW cH cW mr rz _ (by omega) SH_15 SW_15).mono ?_
  rintro e v16 ⟨rfl, e1⟩
  clear kBH0 kBH1 kBH2 kBW0 kBW1 kBW2
  have Ar_16 : v16.heap[B]? = some (.cells #[.int .i64 xr, .int .i64 yr, .slice ar nr cr] 42 (0, 0)) := e1.blk Ar_15
  have Ap_16 : v16.heap[B + 1]? = some (.cells #[.int .i64 xp, .int .i64 yp, .slice ap np cp] 42 (0, 0)) := e1.blk Ap_15
  have AM_16 : IB v16 (B + 1 + 1) 45 mm.zs := AM_15.ext e1
  have E_16 : Ext w v16 := E_15.trans e1
  have BW_16 : PX v16 bW rx ry aW mr cW := BW_15.ext e1
  have SW_16 : Sl v16 aW mr (rz.map (Value.int .i64)) := SW_15.ext e1
  have BG_16 : PX v16 bG rx ry aG mr cG := BG_15.ext e1
  have MG_16 : Sl v16 aG mr ((marks 1 mr).map (Value.int .i64)) := MG_15.ext e1
  have BH_16 : PX v16 bH rx ry aH mr cH := BH_15.ext e1
  have SH_16 : Sl v16 aH mr (rz.map (Value.int .i64)) := SH_15.ext e1
  clear Ar_15 Ap_15 AM_15 E_15 BW_15 SW_15 BG_15 MG_15 BH_15 SH_15
  clear e1
  clear BH_16
  clear SH_16
  clear SW_16
  clear BW_16
  obtain ⟨kBG0, kBG1, kBG2⟩ := PX.cells BG_16
  go_wp2_with (first | (refine wpList_iload 45 _ rfl rfl AM_16 0 71 rfl _ Tryd.underlying45 rfl size_lMacro (by rw [Hl.out]; omega) _ (by rw [sub_all _ _ Hl.out]) ?_))
  refine (heldPicture_any rx ry aG mr cG 1 _ (by omega) (by omega) (by omega) MG_16).mono ?_
  rintro e v17 ⟨rfl, e1⟩
  clear kBG0 kBG1 kBG2
  have Ar_17 : v17.heap[B]? = some (.cells #[.int .i64 xr, .int .i64 yr, .slice ar nr cr] 42 (0, 0)) := e1.blk Ar_16
  have Ap_17 : v17.heap[B + 1]? = some (.cells #[.int .i64 xp, .int .i64 yp, .slice ap np cp] 42 (0, 0)) := e1.blk Ap_16
  have AM_17 : IB v17 (B + 1 + 1) 45 mm.zs := AM_16.ext e1
  have E_17 : Ext w v17 := E_16.trans e1
  have BG_17 : PX v17 bG rx ry aG mr cG := BG_16.ext e1
  have MG_17 : Sl v17 aG mr ((marks 1 mr).map (Value.int .i64)) := MG_16.ext e1
  clear Ar_16 Ap_16 AM_16 E_16 BG_16 MG_16
  clear e1
  go_wp2
  go_ret
  exact ⟨rfl, E_17⟩
end Go.Proofs.YtbnhaegidfbgbaaDoor
