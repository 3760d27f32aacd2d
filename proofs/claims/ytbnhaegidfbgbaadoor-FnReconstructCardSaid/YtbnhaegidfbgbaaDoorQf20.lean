/- FnReconstruct: only the macroblock changes; the walk of the law. -/
import Derived.Test.YtbnhaegidfbgbaaDoorQf19
import Derived.Deep.CutRange
namespace Go.Proofs.YtbnhaegidfbgbaaDoor
open Go.RowKit
set_option maxHeartbeats 1000000
theorem ne_self_false (z : Int) : (z != z) = false := by simp
set_option maxRecDepth 100000 in
set_option maxHeartbeats 8000000 in
theorem law_FnReconstruct (s : Option Addr) (cc m : Nat) (bs : List Int) (w : World) (hT : TabQ w) (hn0 : m ≤ cc ∧ cc ≤ maxLen) (sl : Sl w s m (bs.map (Value.int .u8))) (wf : ∀ z ∈ bs, (Lit.int .u8 z).wf = true) :
 Calls Tryd.prog 6 #[.slice s m cc] w fun e w' => e = .returned (.bool true) ∧ Ext w w' := by
 have hn : m ≤ cc ∧ cc ≤ 9223372036854775807 := ⟨hn0.1, hn0.2⟩
 clear hn0
 by_cases hbig : 1048576 < m
 ·clear sl wf hT
  go_enter Tryd.func6, Tryd.ntmps6
  go_wp2
  go_ret
  exact ⟨rfl, Below.refl _ _⟩
 have hz := byte_rangeV wf
 clear wf
 go_enter Tryd.func6, Tryd.ntmps6
 go_wp2_with fail
 refine (DrawReconstruct_any s cc m bs _ hn.1 hn.2 sl hz).mono ?_
 rintro e w1 ⟨p, q, a, a2, c, n, c2, n2, x, y, mm, qq, top, rfl, hmo, hqq, ⟨hn1, hn2, s1⟩, ⟨hm1, hm2, s2⟩, E1⟩
 clear sl hz
 have HS := Lib.hid (fun (w : World) (s1 : Sl w a n (p.px.map (Value.int .i64))) (s2 : Sl w a2 n2 (q.px.map (Value.int .i64))) => spec_Reconstruct_any p q x y mm qq top a a2 c c2 n n2 w hn1 hm1 (by omega) (by omega) s1 s2 hmo)
 have HI := Lib.hid (fun (w : World) (hT : TabQ w) (s1 : Sl w a n (p.px.map (Value.int .i64))) (s2 : Sl w a2 n2 (q.px.map (Value.int .i64))) => impl_Reconstruct_any p q x y mm qq top a a2 c c2 n n2 w hT hn1 hm1 (by omega) (by omega) s1 s2 hmo)
 have hNl := recP_len p q x y mm qq top
 obtain ⟨D, hD⟩ : ∃ D, D = recP p q x y mm qq top := ⟨_, rfl⟩
 rw [← hD] at HS HI hNl
 have HD := Lib.hid hD
 obtain ⟨N, hN⟩ : ∃ N, N = D.px.length := ⟨_, rfl⟩
 rw [← hN] at HS HI hNl
 rw [← hm1] at hNl
 have HN := Lib.hid hN
 have HN1 := Lib.hid hn1
 have HM1 := Lib.hid hm1
 have Hml := Lib.hid (Mac.zs_len hmo)
 have Hmo := Lib.hid hmo
 obtain ⟨O, hO⟩ : ∃ O, O = w1.heap.size := ⟨_, rfl⟩
 have e2 : Ext w1 ((w1.alloc (.cells #[.int .i64 p.w, .int .i64 p.h, .slice a n c] 25)).alloc (.cells #[.int .i64 q.w, .int .i64 q.h, .slice a2 n2 c2] 25)) := (Ext.alloc w1 _).trans (Ext.alloc _ _)
 have b1 : PBx ((w1.alloc (.cells #[.int .i64 p.w, .int .i64 p.h, .slice a n c] 25)).alloc (.cells #[.int .i64 q.w, .int .i64 q.h, .slice a2 n2 c2] 25)) O p a n c := by rw [hO]; exact (Ext.alloc _ _).blk (blk_new _ _)
 have b2 : PBx ((w1.alloc (.cells #[.int .i64 p.w, .int .i64 p.h, .slice a n c] 25)).alloc (.cells #[.int .i64 q.w, .int .i64 q.h, .slice a2 n2 c2] 25)) (O + 1) q a2 n2 c2 := by
  have := blk_new (w1.alloc (.cells #[.int .i64 p.w, .int .i64 p.h, .slice a n c] 25)) (.cells #[.int .i64 q.w, .int .i64 q.h, .slice a2 n2 c2] 25)
  rw [World.size_alloc, ← hO] at this
  exact this
 have hsz : ((w1.alloc (.cells #[.int .i64 p.w, .int .i64 p.h, .slice a n c] 25)).alloc (.cells #[.int .i64 q.w, .int .i64 q.h, .slice a2 n2 c2] 25)).heap.size = O + 2 := by rw [World.size_alloc, World.size_alloc, ← hO]
 have a3 := Ext.alloc ((w1.alloc (.cells #[.int .i64 p.w, .int .i64 p.h, .slice a n c] 25)).alloc (.cells #[.int .i64 q.w, .int .i64 q.h, .slice a2 n2 c2] 25)) (.cells (ic (zl 71)) 34)
 have Q3 := IB.new ((w1.alloc (.cells #[.int .i64 p.w, .int .i64 p.h, .slice a n c] 25)).alloc (.cells #[.int .i64 q.w, .int .i64 q.h, .slice a2 n2 c2] 25)) 34 (zl 71)
 rw [World.size_alloc, World.size_alloc] at Q3
 have g1 := a3.blk b1
 have g2 := a3.blk b2
 have E3 := (E1.trans e2).trans a3
 have t1 := (s1.ext e2).ext a3
 have t2 := (s2.ext e2).ext a3
 have z1 := E1.size
 have y1 := sl_bound (s1.ext e2)
 have y2 := sl_bound (s2.ext e2)
 clear hD hN hn1 hm1 s1 s2 E1 e2 a3 b1 b2
 go_wp2_with (first | (refine wpList_iallocz 34 rfl rfl 71 zero_Macz ?_; (try simp only [World.size_alloc])) | (refine wpList_istore 34 _ _ rfl rfl Q3 0 71 rfl _ rfl mm.zs rfl size_Macro Hml.out (by simp [zl]) ?_; intro w5 r5 gg; refine Hid.out ?_))
 rw [spl_all (by rw [Hml.out, zl_len])] at r5
 rw [hsz] at y1 y2
 rw [← hO] at z1 r5 gg
 try simp only [World.size_alloc]
 rw [← hO]
 have L5 : LS w O p a n c q a2 n2 c2 (O + 1 + 1) mm.zs w5 := ⟨Ext.grown E3 gg (fun k hk => by cases hk; omega), blk_gr g1 gg (by simp; omega), blk_gr g2 gg (by simp), r5, sl_kept t1 gg y1, sl_kept t2 gg y2⟩
 clear Q3 g1 g2 t1 t2 E3 y1 y2 r5 gg hO hsz z1
 refine Lib.hid ?_
 obtain ⟨k0, k1, k2⟩ := PBx.cells L5.b1
 obtain ⟨j0, j1, j2⟩ := PBx.cells L5.b2
 have ri := L5.ib
 go_wp2_with (refine wpList_iload 34 _ rfl rfl ri 0 71 rfl _ Tryd.underlying34 rfl size_Macro (by rw [Hml.out]; omega) _ (by rw [sub_all _ _ Hml.out]) ?_)
 refine (HI.out _ (hT.ext L5.ex) L5.s1 L5.s2).mono ?_
 rintro e w6 ⟨aD, cD, rfl, o6, e6⟩
 obtain ⟨U, hU⟩ : ∃ U, U = w6.heap.size := ⟨_, rfl⟩
 have e7 := Ext.alloc w6 (.cells #[.int .i64 D.w, .int .i64 D.h, .slice aD N cD] 25)
 have B7 : PBx (w6.alloc (.cells #[.int .i64 D.w, .int .i64 D.h, .slice aD N cD] 25)) U D aD N cD := by rw [hU]; exact blk_new _ _
 have L7 := (L5.e e6).e e7
 have s7 := (Sl.of_owns o6).ext e7
 clear L5 e6 e7 o6 ri k0 k1 k2 j0 j1 j2
 go_upto_region 5 with fail
 rw [← hU]
 generalize w6.alloc (.cells #[.int .i64 D.w, .int .i64 D.h, .slice aD N cD] 25) = w7 at *
 clear hU
 have hext : ∀ (i : Nat) (own : Value) (ys : Nat → Value) (wa wb : World), Ext wa wb → (match i with | 0 => own = .agg #[.int .i64 D.w, .int .i64 D.h, .slice aD N cD] | 1 => own = .agg #[.int .i64 p.w, .int .i64 p.h, .slice a n c] | 2 => own = .agg #[.int .i64 q.w, .int .i64 q.h, .slice a2 n2 c2] | 3 => own = .int .i64 x | 4 => own = .int .i64 y | 5 => own = .agg (ic mm.zs) | 6 => own = .int .i64 qq | 7 => own = .int .i64 top | 8 => ∃ (a8 : Option Addr) (c8 : Nat), own = .agg #[.int .i64 D.w, .int .i64 D.h, .slice a8 N c8] ∧ Sl wa a8 N (D.px.map (Value.int .i64)) | 9 => own = .bool true | 10 => own = .bool false | _ => True) → (match i with | 0 => own = .agg #[.int .i64 D.w, .int .i64 D.h, .slice aD N cD] | 1 => own = .agg #[.int .i64 p.w, .int .i64 p.h, .slice a n c] | 2 => own = .agg #[.int .i64 q.w, .int .i64 q.h, .slice a2 n2 c2] | 3 => own = .int .i64 x | 4 => own = .int .i64 y | 5 => own = .agg (ic mm.zs) | 6 => own = .int .i64 qq | 7 => own = .int .i64 top | 8 => ∃ (a8 : Option Addr) (c8 : Nat), own = .agg #[.int .i64 D.w, .int .i64 D.h, .slice a8 N c8] ∧ Sl wb a8 N (D.px.map (Value.int .i64)) | 9 => own = .bool true | 10 => own = .bool false | _ => True) := by
  intro i own ys wa wb e h
  match i, h with
  | 0, h => exact h
  | 1, h => exact h
  | 2, h => exact h
  | 3, h => exact h
  | 4, h => exact h
  | 5, h => exact h
  | 6, h => exact h
  | 7, h => exact h
  | 8, h => obtain ⟨a9, c9, h1, h2⟩ := h; exact ⟨a9, c9, h1, h2.ext e⟩
  | 9, h => exact h
  | 10, h => exact h
  | _ + 11, _ => trivial
 have Hext := Lib.hid hext
 clear hext
 refine wp_region_inv2 (by kernel_rfl) [(36, 0), (37, 1), (38, 2), (39, 3), (40, 4), (41, 5), (42, 6), (43, 7), (44, 8), (45, 9), (46, 10)] [[], [], [], [], [], [], [], [], [1, 2, 3, 4, 5, 6, 7], [0, 1, 2, 3, 4, 5, 6, 7, 8], [0, 1, 2, 3, 4, 5, 6, 7, 8, 9]] (fun i own ys wx => match i with | 0 => own = .agg #[.int .i64 D.w, .int .i64 D.h, .slice aD N cD] | 1 => own = .agg #[.int .i64 p.w, .int .i64 p.h, .slice a n c] | 2 => own = .agg #[.int .i64 q.w, .int .i64 q.h, .slice a2 n2 c2] | 3 => own = .int .i64 x | 4 => own = .int .i64 y | 5 => own = .agg (ic mm.zs) | 6 => own = .int .i64 qq | 7 => own = .int .i64 top | 8 => ∃ (a8 : Option Addr) (c8 : Nat), own = .agg #[.int .i64 D.w, .int .i64 D.h, .slice a8 N c8] ∧ Sl wx a8 N (D.px.map (Value.int .i64)) | 9 => own = .bool true | 10 => own = .bool false | _ => True) (fun kx wx => Ext w7 wx) (by kernel_rfl) (by kernel_rfl) (by kernel_rfl) ?g0_r1 ?gop_r1 ?gend_r1
 case g0_r1 => exact Ext.drewN _ 1
 case gop_r1 =>
  refine ⟨?_, ?_, ?_, ?_, ?_, ?_, ?_, ?_, ?_, ?_, ?_, trivial⟩
  ·intro kx xs wx hk hG hD hI Qo Kx hK hQo
   clear hD hI
   simp only [patchS, Nat.reduceAdd, Nat.reduceEqDiff, ↓reduceIte] at hQo ⊢
   obtain ⟨k0, k1, k2⟩ := PBx.cells (PBx.e B7 hG)
   go_wp2
   exact hK.out _ _ ⟨rfl, hG, fun _ _ _ _ _ _ h => h⟩
  ·intro kx xs wx hk hG hD hI Qo Kx hK hQo
   clear hD hI
   simp only [patchS, Nat.reduceAdd, Nat.reduceEqDiff, ↓reduceIte] at hQo ⊢
   obtain ⟨k0, k1, k2⟩ := PBx.cells (L7.e hG).b1
   go_wp2
   exact hK.out _ _ ⟨rfl, hG, fun _ _ _ _ _ _ h => h⟩
  ·intro kx xs wx hk hG hD hI Qo Kx hK hQo
   clear hD hI
   simp only [patchS, Nat.reduceAdd, Nat.reduceEqDiff, ↓reduceIte] at hQo ⊢
   obtain ⟨k0, k1, k2⟩ := PBx.cells (L7.e hG).b2
   go_wp2
   exact hK.out _ _ ⟨rfl, hG, fun _ _ _ _ _ _ h => h⟩
  ·intro kx xs wx hk hG hD hI Qo Kx hK hQo
   clear hD hI
   simp only [patchS, Nat.reduceAdd, Nat.reduceEqDiff, ↓reduceIte] at hQo ⊢
   go_wp2
   exact hK.out _ _ ⟨rfl, hG, fun _ _ _ _ _ _ h => h⟩
  ·intro kx xs wx hk hG hD hI Qo Kx hK hQo
   clear hD hI
   simp only [patchS, Nat.reduceAdd, Nat.reduceEqDiff, ↓reduceIte] at hQo ⊢
   go_wp2
   exact hK.out _ _ ⟨rfl, hG, fun _ _ _ _ _ _ h => h⟩
  ·intro kx xs wx hk hG hD hI Qo Kx hK hQo
   clear hD hI
   simp only [patchS, Nat.reduceAdd, Nat.reduceEqDiff, ↓reduceIte] at hQo ⊢
   have rx := (L7.e hG).ib
   go_wp2_with (refine wpList_iload 34 _ rfl rfl rx 0 71 rfl _ Tryd.underlying34 rfl size_Macro (by rw [Hml.out]; omega) _ (by rw [sub_all _ _ Hml.out]) ?_)
   exact hK.out _ _ ⟨rfl, hG, fun _ _ _ _ _ _ h => h⟩
  ·intro kx xs wx hk hG hD hI Qo Kx hK hQo
   clear hD hI
   simp only [patchS, Nat.reduceAdd, Nat.reduceEqDiff, ↓reduceIte] at hQo ⊢
   go_wp2
   exact hK.out _ _ ⟨rfl, hG, fun _ _ _ _ _ _ h => h⟩
  ·intro kx xs wx hk hG hD hI Qo Kx hK hQo
   clear hD hI
   simp only [patchS, Nat.reduceAdd, Nat.reduceEqDiff, ↓reduceIte] at hQo ⊢
   go_wp2
   exact hK.out _ _ ⟨rfl, hG, fun _ _ _ _ _ _ h => h⟩
  ·intro kx xs wx hk hG hD hI Qo Kx hK hQo
   have d1 : (xs 1) = .agg #[.int .i64 p.w, .int .i64 p.h, .slice a n c] := hD 1 rfl
   have d2 : (xs 2) = .agg #[.int .i64 q.w, .int .i64 q.h, .slice a2 n2 c2] := hD 2 rfl
   have d3 : (xs 3) = .int .i64 x := hD 3 rfl
   have d4 : (xs 4) = .int .i64 y := hD 4 rfl
   have d5 : (xs 5) = .agg (ic mm.zs) := hD 5 rfl
   have d6 : (xs 6) = .int .i64 qq := hD 6 rfl
   have d7 : (xs 7) = .int .i64 top := hD 7 rfl
   clear hD hI
   simp only [patchS, Nat.reduceAdd, Nat.reduceEqDiff, ↓reduceIte] at hQo ⊢
   generalize xs 1 = y1 at *
   generalize xs 2 = y2 at *
   generalize xs 3 = y3 at *
   generalize xs 4 = y4 at *
   generalize xs 5 = y5 at *
   generalize xs 6 = y6 at *
   generalize xs 7 = y7 at *
   subst d1 d2 d3 d4 d5 d6 d7
   go_wp2_with fail
   refine (HS.out _ (L7.e hG).s1 (L7.e hG).s2).mono ?_
   rintro e wz ⟨az, cz, rfl, oz, ez⟩
   go_wp2
   exact hK.out _ _ ⟨⟨az, cz, rfl, Sl.of_owns oz⟩, hG.trans ez, fun i _ _ _ own ys h => Hext.out i own ys _ _ ez h⟩
  ·intro kx xs wx hk hG hD hI Qo Kx hK hQo
   have d0 : (xs 0) = .agg #[.int .i64 D.w, .int .i64 D.h, .slice aD N cD] := hD 0 rfl
   have d8 : ∃ (a8 : Option Addr) (c8 : Nat), (xs 8) = .agg #[.int .i64 D.w, .int .i64 D.h, .slice a8 N c8] ∧ Sl wx a8 N (D.px.map (Value.int .i64)) := hD 8 rfl
   clear hD hI
   simp only [patchS, Nat.reduceAdd, Nat.reduceEqDiff, ↓reduceIte] at hQo ⊢
   generalize xs 0 = y0 at *
   generalize xs 8 = y8 at *
   subst d0
   obtain ⟨a8, c8, rfl, o8⟩ := d8
   go_wp2_with fail
   refine (samePicture_same D.w D.h aD a8 cD c8 N D.px _ (by omega) (s7.ext hG) o8).mono ?_
   rintro e wz ⟨rfl, ez⟩
   go_wp2
   exact hK.out _ _ ⟨rfl, hG.trans ez, fun i _ _ _ own ys h => Hext.out i own ys _ _ ez h⟩
  ·intro kx xs wx hk hG hD hI Qo Kx hK hQo
   have d9 : (xs 9) = .bool true := hD 9 rfl
   clear hD hI
   simp only [patchS, Nat.reduceAdd, Nat.reduceEqDiff, ↓reduceIte] at hQo ⊢
   generalize xs 9 = y9 at *
   subst d9
   go_wp2
   exact hK.out _ _ ⟨rfl, hG, fun _ _ _ _ _ _ h => h⟩
 clear Hext
 intro xs wx hV hG
 have d0 : (xs 0) = .agg #[.int .i64 D.w, .int .i64 D.h, .slice aD N cD] := hV 0 (by decide)
 have d1 : (xs 1) = .agg #[.int .i64 p.w, .int .i64 p.h, .slice a n c] := hV 1 (by decide)
 have d2 : (xs 2) = .agg #[.int .i64 q.w, .int .i64 q.h, .slice a2 n2 c2] := hV 2 (by decide)
 have d3 : (xs 3) = .int .i64 x := hV 3 (by decide)
 have d4 : (xs 4) = .int .i64 y := hV 4 (by decide)
 have d5 : (xs 5) = .agg (ic mm.zs) := hV 5 (by decide)
 have d6 : (xs 6) = .int .i64 qq := hV 6 (by decide)
 have d7 : (xs 7) = .int .i64 top := hV 7 (by decide)
 have d8 : ∃ (a8 : Option Addr) (c8 : Nat), (xs 8) = .agg #[.int .i64 D.w, .int .i64 D.h, .slice a8 N c8] ∧ Sl wx a8 N (D.px.map (Value.int .i64)) := hV 8 (by decide)
 have d9 : (xs 9) = .bool true := hV 9 (by decide)
 have d10 : (xs 10) = .bool false := hV 10 (by decide)
 clear hV
 simp only [patchS, Nat.reduceAdd, Nat.reduceEqDiff, ↓reduceIte]
 generalize xs 0 = y0 at *
 generalize xs 1 = y1 at *
 generalize xs 2 = y2 at *
 generalize xs 3 = y3 at *
 generalize xs 4 = y4 at *
 generalize xs 5 = y5 at *
 generalize xs 6 = y6 at *
 generalize xs 7 = y7 at *
 generalize xs 8 = y8 at *
 generalize xs 9 = y9 at *
 generalize xs 10 = y10 at *
 replace hG : Ext w7 wx := hG
 clear d0 d1 d2 d3 d4 d5 d6 d7 d8 d9
 subst d10
 have L8 := L7.e hG
 have B8 := PBx.e B7 hG
 have s8 := s7.ext hG
 clear L7 B7 s7 hG HS HI
 generalize wx = w8 at *
 obtain ⟨k0, k1, k2⟩ := PBx.cells B8
 by_cases ho : okR p q x y mm qq top
 ·obtain ⟨X, hX⟩ : ∃ X : Nat, x = X := ⟨x.toNat, by have := ho.1.2.1; omega⟩
  obtain ⟨Y, hY⟩ : ∃ Y : Nat, y = Y := ⟨y.toNat, by have := ho.1.2.2.2.2.1; omega⟩
  subst hX hY
  obtain ⟨hv, hl, hpl⟩ := rec_plain ho
  rw [← HD.out] at hv hl hpl
  have hNn : N = n2 := by rw [HN.out, HM1.out, hl]
  subst hNn
  have hvq := ho.1.1
  have hlq := Pic.len_le hvq
  rw [← HM1.out] at hlq
  obtain ⟨W, hW⟩ : ∃ W : Nat, q.w = W := ⟨q.w.toNat, by have := hvq.1.1; omega⟩
  have hW8 : 8 ≤ W ∧ W ≤ 32 := by have := hvq.1; rw [hW] at this; have := side_le this; omega
  have HP := Lib.hid (fun k (hk : k < N) => hpl k W hW (by rw [← HM1.out]; exact hk))
  have HW := Lib.hid hW
  have HV := Lib.hid (fun (w : World) (s : Sl w aD N (D.px.map (Value.int .i64))) => impl_PictureValid_any D aD cD N w HN.out (by omega) s)
  rw [decide_eq_true hv] at HV
  have hXY : X < 32 ∧ Y < 32 := by
   have h1 := ho.1.2.2.1
   have h2 := ho.1.2.2.2.2.2.1
   have h3 := hvq.1.2.1
   have h4 := hvq.2.1.2.1
   omega
  have hNe : ((N : Int) == 0) = false := by simp; omega
  have hz1 := ne_self_false
  clear hv hl hpl hvq hW ho HD hz1
  go_wp2_with fail
  clear k0 k1 k2 hNe
  go_loopw [11] (fun i wr => ∃ k : Nat, k ≤ N ∧ i = .int .i64 k ∧ Ext w8 wr) (fun i _ => N - (intOf i).toNat)
  case atStart => exact ⟨0, by omega, rfl, Below.refl _ _⟩
  case round =>
   obtain ⟨k, hk, rfl, E9⟩ := hrel
   have L9 := L8.e E9
   obtain ⟨j0, j1, j2⟩ := PBx.cells L9.b2
   rw [HW.out] at j0
   by_cases hlt : k < N
   ·have hd : decide (k < N) = true := by simp; omega
    have hHP := HP.out k hlt
    have HHP := Lib.hid hHP
    clear hHP
    go_upto_region 14 with fail
    obtain ⟨I, hI⟩ : ∃ I : Nat, I = k % W := ⟨_, rfl⟩
    obtain ⟨J, hJ⟩ : ∃ J : Nat, J = k / W := ⟨_, rfl⟩
    have hI2 : (k : Int) % (W : Int) = (I : Nat) := by rw [hI]; simp
    have hJ2 : (k : Int) / (W : Int) = (J : Nat) := by rw [hJ]; simp
    have hJw : J ≤ k := by rw [hJ]; exact Nat.div_le_self _ _
    have hw64 : wrap64 (J : Int) = (J : Int) := by unfold wrap64; omega
    rw [hI2, hJ2]
    try rw [hw64]
    rw [← hI, ← hJ] at HHP
    have hIb : I ≤ k := by rw [hI]; exact Nat.mod_le _ _
    have hJb : J ≤ k := by rw [hJ]; exact Nat.div_le_self _ _
    clear hI hJ hI2 hJ2 hw64 hJw
    go_cut [14] from 59 to 122 (fun sb wx => ∃ bI : Bool, sb = .bool bI ∧ (bI = true ↔ (X ≤ I ∧ I < X + 8 ∧ Y ≤ J ∧ J < Y + 8)) ∧ Ext w8 wx)
    case first =>
     go_wp2
     all_goals
      go_meet
      case rel => exact ⟨_, rfl, by simp <;> omega, E9⟩
    case rest =>
     obtain ⟨bI, rfl, hbI, E10⟩ := hcut
     clear E9 L9 j0 j1 j2
     have E9 := E10
     clear E10
     obtain ⟨b1, o1, rfl, g1⟩ := s8.int hlt
     have Ha := Lib.hid (fun (wx : World) (h : Ext w8 wx) => (s8.ext h).int hlt)
     cases bI
     ·have he := HHP.out.1 (fun h => by have := hbI.2 h; cases this)
      obtain ⟨b2, o2, rfl, g2⟩ := L8.s2.int hlt
      have Hb := Lib.hid (fun (wx : World) (h : Ext w8 wx) => (L8.s2.ext h).int hlt)
      rw [← he] at Hb
      obtain ⟨z, hz⟩ : ∃ z, z = nth D.px k := ⟨_, rfl⟩
      rw [← hz] at Ha Hb
      have hzz : (z != z) = false := by simp
      clear hz g1 g2 he HHP hbI
      go_upto_region 15 with fail
      refine wp_region_inv2 (by kernel_rfl) [(87, 0), (88, 1), (89, 2), (90, 3), (91, 4), (92, 5), (93, 6), (94, 7), (95, 8), (96, 9), (97, 10), (98, 11), (99, 12), (100, 13), (101, 14), (102, 15), (103, 16), (104, 17), (105, 18), (106, 19), (107, 20), (108, 21), (109, 22), (110, 23), (111, 24), (112, 25), (113, 26), (114, 27), (115, 28), (116, 29), (117, 30), (118, 31), (119, 32), (120, 33), (121, 34), (122, 35)] [[], [0], [0, 1], [0, 1, 2], [0, 1, 2, 3], [0, 1, 2], [0, 1, 2, 3, 4, 5], [0, 1, 2, 3, 4, 5, 6], [0, 1, 2], [0, 1, 2, 8], [0, 1, 2], [0, 1, 2, 8, 9, 10], [0, 1, 2, 8, 9, 10, 11], [0, 1, 2, 3, 4, 5, 6, 7, 8, 9, 10, 11, 12], [0, 1, 2, 3, 4, 5, 6, 7, 8, 9, 10, 11, 12, 13], [0, 1, 2, 3, 4, 5, 6, 7, 8, 9, 10, 11, 12, 13, 14], [0, 1, 2, 3, 4, 5, 6, 7, 8, 9, 10, 11, 12, 13, 14, 15], [0, 1, 2, 3, 4, 5, 6, 7, 8, 9, 10, 11, 12, 13, 14, 15, 16], [0, 1, 2, 3, 4, 5, 6, 7, 8, 9, 10, 11, 12, 13, 14, 15, 16, 17], [0, 1, 2, 3, 4, 5, 6, 7, 8, 9, 10, 11, 12, 13, 14, 15, 16, 17, 18], [0, 1, 2, 3, 4, 5, 6, 7, 8, 9, 10, 11, 12, 13, 14, 15, 16, 17, 18, 19], [0, 1, 2, 3, 4, 5, 6, 7, 8, 9, 10, 11, 12, 13, 14, 15, 16, 17, 18, 19, 20], [0, 1, 2, 3, 4, 5, 6, 7, 8, 9, 10, 11, 12, 13, 14, 15, 16, 17, 18, 19, 20, 21], [0, 1, 2, 3, 4, 5, 6, 7, 8, 9, 10, 11, 12, 13, 14, 15, 16, 17, 18, 19, 20, 21, 22], [0, 1, 2, 3, 4, 5, 6, 7, 8, 9, 10, 11, 12, 13, 14, 15, 16, 17, 18, 19, 20, 21, 22, 23], [0, 1, 2, 3, 4, 5, 6, 7, 8, 9, 10, 11, 12, 13, 14, 15, 16, 17, 18, 19, 20, 21, 22], [0, 1, 2, 3, 4, 5, 6, 7, 8, 9, 10, 11, 12, 13, 14, 15, 16, 17, 18, 19, 20, 21, 22, 23, 24, 25], [0, 1, 2, 3, 4, 5, 6, 7, 8, 9, 10, 11, 12, 13, 14, 15, 16, 17, 18, 19, 20, 21, 22, 23, 24, 25, 26], [0, 1, 2, 3, 4, 5, 6, 7, 8, 9, 10, 11, 12, 13, 14, 15, 16, 17, 18, 19, 20, 21, 22], [0, 1, 2, 3, 4, 5, 6, 7, 8, 9, 10, 11, 12, 13, 14, 15, 16, 17, 18, 19, 20, 21, 22, 28], [0, 1, 2, 3, 4, 5, 6, 7, 8, 9, 10, 11, 12, 13, 14, 15, 16, 17, 18, 19, 20, 21, 22], [0, 1, 2, 3, 4, 5, 6, 7, 8, 9, 10, 11, 12, 13, 14, 15, 16, 17, 18, 19, 20, 21, 22, 28, 29, 30], [0, 1, 2, 3, 4, 5, 6, 7, 8, 9, 10, 11, 12, 13, 14, 15, 16, 17, 18, 19, 20, 21, 22, 28, 29, 30, 31], [0, 1, 2, 3, 4, 5, 6, 7, 8, 9, 10, 11, 12, 13, 14, 15, 16, 17, 18, 19, 20, 21, 22, 23, 24, 25, 26, 27, 28, 29, 30, 31, 32], [0, 1, 2, 3, 4, 5, 6, 7, 8, 9, 10, 11, 12, 13, 14, 15, 16, 17, 18, 19, 20, 21, 22, 23, 24, 25, 26, 27, 28, 29, 30, 31, 32, 33], [0, 1, 2, 3, 4, 5, 6, 7, 8, 9, 10, 11, 12, 13, 14, 15, 16, 17, 18, 19, 20, 21, 22, 23, 24, 25, 26, 27, 28, 29, 30, 31, 32, 33, 34]] (fun i own ys wx => match i with | 0 => own = .bool false | 1 => own = .bool true | 2 => own = .bool true | 3 => own = .pointer (some ⟨U, 2, none⟩) | 4 => own = .slice (some ⟨b1, o1, none⟩) N cD | 5 => own = .int .i64 (k : Nat) | 6 => own = .pointer (some ⟨b1, o1 + k, none⟩) | 7 => own = .int .i64 z | 8 => own = .pointer (some ⟨O + 1, 2, none⟩) | 9 => own = .slice (some ⟨b2, o2, none⟩) N c2 | 10 => own = .int .i64 (k : Nat) | 11 => own = .pointer (some ⟨b2, o2 + k, none⟩) | 12 => own = .int .i64 z | 13 => own = .bool false | 14 => own = .bool false | 15 => own = .bool false | 16 => own = .bool false | 17 => own = .bool false | 18 => True | 19 => True | 20 => True | 21 => own = .bool false | 22 => own = .bool false | 23 => True | 24 => True | 25 => True | 26 => True | 27 => True | 28 => True | 29 => True | 30 => True | 31 => True | 32 => True | 33 => True | 34 => own = .bool false | 35 => own = .bool false | _ => True) (fun kx wx => Ext w8 wx) (by kernel_rfl) (by kernel_rfl) (by kernel_rfl) ?g0_r2 ?gop_r2 ?gend_r2
      case g0_r2 => exact E9.trans_drewN 1
      case gop_r2 =>
       refine ⟨?_, ?_, ?_, ?_, ?_, ?_, ?_, ?_, ?_, ?_, ?_, ?_, ?_, ?_, ?_, ?_, ?_, ?_, ?_, ?_, ?_, ?_, ?_, ?_, ?_, ?_, ?_, ?_, ?_, ?_, ?_, ?_, ?_, ?_, ?_, ?_, trivial⟩
       ·intro kx xs wx hk hG hD hI Qo Kx hK hQo
        clear hD hI
        simp only [patchS, Nat.reduceAdd, Nat.reduceEqDiff, ↓reduceIte] at hQo ⊢
        go_wp2
        exact hK.out _ _ ⟨rfl, hG, fun _ _ _ _ _ _ h => h⟩
       ·intro kx xs wx hk hG hD hI Qo Kx hK hQo
        have d0 : (xs 0) = .bool false := hD 0 rfl
        clear hD hI
        simp only [patchS, Nat.reduceAdd, Nat.reduceEqDiff, ↓reduceIte] at hQo ⊢
        generalize xs 0 = y0 at *
        subst d0
        go_wp2
        exact hK.out _ _ ⟨rfl, hG, fun _ _ _ _ _ _ h => h⟩
       ·intro kx xs wx hk hG hD hI Qo Kx hK hQo
        have d1 : (xs 1) = .bool true := hD 1 rfl
        clear hD hI
        simp only [patchS, Nat.reduceAdd, Nat.reduceEqDiff, ↓reduceIte] at hQo ⊢
        generalize xs 1 = y1 at *
        subst d1
        go_wp2
        exact hK.out _ _ ⟨rfl, hG, fun _ _ _ _ _ _ h => h⟩
       ·intro kx xs wx hk hG hD hI Qo Kx hK hQo
        have d2 : (xs 2) = .bool true := hD 2 rfl
        clear hD hI
        simp only [patchS, Nat.reduceAdd, Nat.reduceEqDiff, ↓reduceIte] at hQo ⊢
        generalize xs 2 = y2 at *
        subst d2
        go_wp2
        exact hK.out _ _ ⟨rfl, hG, fun _ _ _ _ _ _ h => h⟩
       ·intro kx xs wx hk hG hD hI Qo Kx hK hQo
        have d3 : (xs 3) = .pointer (some ⟨U, 2, none⟩) := hD 3 rfl
        have d2 : (xs 2) = .bool true := hD 2 rfl
        clear hD hI
        simp only [patchS, Nat.reduceAdd, Nat.reduceEqDiff, ↓reduceIte] at hQo ⊢
        generalize xs 3 = y3 at *
        generalize xs 2 = y2 at *
        subst d3 d2
        obtain ⟨k0, k1, k2⟩ := PBx.cells (PBx.e B8 hG)
        go_wp2
        exact hK.out _ _ ⟨rfl, hG, fun _ _ _ _ _ _ h => h⟩
       ·intro kx xs wx hk hG hD hI Qo Kx hK hQo
        have d2 : (xs 2) = .bool true := hD 2 rfl
        clear hD hI
        simp only [patchS, Nat.reduceAdd, Nat.reduceEqDiff, ↓reduceIte] at hQo ⊢
        generalize xs 2 = y2 at *
        subst d2
        go_wp2
        exact hK.out _ _ ⟨rfl, hG, fun _ _ _ _ _ _ h => h⟩
       ·intro kx xs wx hk hG hD hI Qo Kx hK hQo
        have d4 : (xs 4) = .slice (some ⟨b1, o1, none⟩) N cD := hD 4 rfl
        have d5 : (xs 5) = .int .i64 (k : Nat) := hD 5 rfl
        have d2 : (xs 2) = .bool true := hD 2 rfl
        clear hD hI
        simp only [patchS, Nat.reduceAdd, Nat.reduceEqDiff, ↓reduceIte] at hQo ⊢
        generalize xs 4 = y4 at *
        generalize xs 5 = y5 at *
        generalize xs 2 = y2 at *
        subst d4 d5 d2
        go_wp2
        exact hK.out _ _ ⟨rfl, hG, fun _ _ _ _ _ _ h => h⟩
       ·intro kx xs wx hk hG hD hI Qo Kx hK hQo
        have d6 : (xs 6) = .pointer (some ⟨b1, o1 + k, none⟩) := hD 6 rfl
        have d2 : (xs 2) = .bool true := hD 2 rfl
        clear hD hI
        simp only [patchS, Nat.reduceAdd, Nat.reduceEqDiff, ↓reduceIte] at hQo ⊢
        generalize xs 6 = y6 at *
        generalize xs 2 = y2 at *
        subst d6 d2
        obtain ⟨q1, q2, he, cx⟩ := Ha.out wx hG
        simp only [Option.some.injEq, Addr.mk.injEq, and_true] at he
        obtain ⟨rfl, rfl⟩ := he
        go_wp2
        exact hK.out _ _ ⟨rfl, hG, fun _ _ _ _ _ _ h => h⟩
       ·intro kx xs wx hk hG hD hI Qo Kx hK hQo
        have d2 : (xs 2) = .bool true := hD 2 rfl
        clear hD hI
        simp only [patchS, Nat.reduceAdd, Nat.reduceEqDiff, ↓reduceIte] at hQo ⊢
        generalize xs 2 = y2 at *
        subst d2
        go_wp2
        exact hK.out _ _ ⟨rfl, hG, fun _ _ _ _ _ _ h => h⟩
       ·intro kx xs wx hk hG hD hI Qo Kx hK hQo
        have d8 : (xs 8) = .pointer (some ⟨O + 1, 2, none⟩) := hD 8 rfl
        have d2 : (xs 2) = .bool true := hD 2 rfl
        clear hD hI
        simp only [patchS, Nat.reduceAdd, Nat.reduceEqDiff, ↓reduceIte] at hQo ⊢
        generalize xs 8 = y8 at *
        generalize xs 2 = y2 at *
        subst d8 d2
        obtain ⟨k0, k1, k2⟩ := PBx.cells ((L8.e hG).b2)
        go_wp2
        exact hK.out _ _ ⟨rfl, hG, fun _ _ _ _ _ _ h => h⟩
       ·intro kx xs wx hk hG hD hI Qo Kx hK hQo
        have d2 : (xs 2) = .bool true := hD 2 rfl
        clear hD hI
        simp only [patchS, Nat.reduceAdd, Nat.reduceEqDiff, ↓reduceIte] at hQo ⊢
        generalize xs 2 = y2 at *
        subst d2
        go_wp2
        exact hK.out _ _ ⟨rfl, hG, fun _ _ _ _ _ _ h => h⟩
       ·intro kx xs wx hk hG hD hI Qo Kx hK hQo
        have d9 : (xs 9) = .slice (some ⟨b2, o2, none⟩) N c2 := hD 9 rfl
        have d10 : (xs 10) = .int .i64 (k : Nat) := hD 10 rfl
        have d2 : (xs 2) = .bool true := hD 2 rfl
        clear hD hI
        simp only [patchS, Nat.reduceAdd, Nat.reduceEqDiff, ↓reduceIte] at hQo ⊢
        generalize xs 9 = y9 at *
        generalize xs 10 = y10 at *
        generalize xs 2 = y2 at *
        subst d9 d10 d2
        go_wp2
        exact hK.out _ _ ⟨rfl, hG, fun _ _ _ _ _ _ h => h⟩
       ·intro kx xs wx hk hG hD hI Qo Kx hK hQo
        have d11 : (xs 11) = .pointer (some ⟨b2, o2 + k, none⟩) := hD 11 rfl
        have d2 : (xs 2) = .bool true := hD 2 rfl
        clear hD hI
        simp only [patchS, Nat.reduceAdd, Nat.reduceEqDiff, ↓reduceIte] at hQo ⊢
        generalize xs 11 = y11 at *
        generalize xs 2 = y2 at *
        subst d11 d2
        obtain ⟨q1, q2, he, cx⟩ := Hb.out wx hG
        simp only [Option.some.injEq, Addr.mk.injEq, and_true] at he
        obtain ⟨rfl, rfl⟩ := he
        go_wp2
        exact hK.out _ _ ⟨rfl, hG, fun _ _ _ _ _ _ h => h⟩
       ·intro kx xs wx hk hG hD hI Qo Kx hK hQo
        have d7 : (xs 7) = .int .i64 z := hD 7 rfl
        have d12 : (xs 12) = .int .i64 z := hD 12 rfl
        have d2 : (xs 2) = .bool true := hD 2 rfl
        clear hD hI
        simp only [patchS, Nat.reduceAdd, Nat.reduceEqDiff, ↓reduceIte] at hQo ⊢
        generalize xs 7 = y7 at *
        generalize xs 12 = y12 at *
        generalize xs 2 = y2 at *
        subst d7 d12 d2
        go_wp2
        exact hK.out _ _ ⟨rfl, hG, fun _ _ _ _ _ _ h => h⟩
       ·intro kx xs wx hk hG hD hI Qo Kx hK hQo
        have d2 : (xs 2) = .bool true := hD 2 rfl
        have d13 : (xs 13) = .bool false := hD 13 rfl
        clear hD hI
        simp only [patchS, Nat.reduceAdd, Nat.reduceEqDiff, ↓reduceIte] at hQo ⊢
        generalize xs 2 = y2 at *
        generalize xs 13 = y13 at *
        subst d2 d13
        go_wp2
        exact hK.out _ _ ⟨rfl, hG, fun _ _ _ _ _ _ h => h⟩
       ·intro kx xs wx hk hG hD hI Qo Kx hK hQo
        have d14 : (xs 14) = .bool false := hD 14 rfl
        clear hD hI
        simp only [patchS, Nat.reduceAdd, Nat.reduceEqDiff, ↓reduceIte] at hQo ⊢
        generalize xs 14 = y14 at *
        subst d14
        go_wp2
        exact hK.out _ _ ⟨rfl, hG, fun _ _ _ _ _ _ h => h⟩
       ·intro kx xs wx hk hG hD hI Qo Kx hK hQo
        have d15 : (xs 15) = .bool false := hD 15 rfl
        clear hD hI
        simp only [patchS, Nat.reduceAdd, Nat.reduceEqDiff, ↓reduceIte] at hQo ⊢
        generalize xs 15 = y15 at *
        subst d15
        go_wp2
        exact hK.out _ _ ⟨rfl, hG, fun _ _ _ _ _ _ h => h⟩
       ·intro kx xs wx hk hG hD hI Qo Kx hK hQo
        have d16 : (xs 16) = .bool false := hD 16 rfl
        have d15 : (xs 15) = .bool false := hD 15 rfl
        clear hD hI
        simp only [patchS, Nat.reduceAdd, Nat.reduceEqDiff, ↓reduceIte] at hQo ⊢
        generalize xs 16 = y16 at *
        generalize xs 15 = y15 at *
        subst d16 d15
        go_wp2
        exact hK.out _ _ ⟨rfl, hG, fun _ _ _ _ _ _ h => h⟩
       ·intro kx xs wx hk hG hD hI Qo Kx hK hQo
        have d17 : (xs 17) = .bool false := hD 17 rfl
        clear hD hI
        simp only [patchS, Nat.reduceAdd, Nat.reduceEqDiff, ↓reduceIte] at hQo ⊢
        generalize xs 17 = y17 at *
        subst d17
        go_wp2
        exact hK.out _ _ ⟨trivial, hG, fun _ _ _ _ _ _ h => h⟩
       ·intro kx xs wx hk hG hD hI Qo Kx hK hQo
        have d18 : True := hD 18 rfl
        have d17 : (xs 17) = .bool false := hD 17 rfl
        clear hD hI
        simp only [patchS, Nat.reduceAdd, Nat.reduceEqDiff, ↓reduceIte] at hQo ⊢
        generalize xs 18 = y18 at *
        generalize xs 17 = y17 at *
        subst d17
        go_wp2
        exact hK.out _ _ ⟨trivial, hG, fun _ _ _ _ _ _ h => h⟩
       ·intro kx xs wx hk hG hD hI Qo Kx hK hQo
        have d19 : True := hD 19 rfl
        have d17 : (xs 17) = .bool false := hD 17 rfl
        clear hD hI
        simp only [patchS, Nat.reduceAdd, Nat.reduceEqDiff, ↓reduceIte] at hQo ⊢
        generalize xs 19 = y19 at *
        generalize xs 17 = y17 at *
        subst d17
        go_wp2
        exact hK.out _ _ ⟨trivial, hG, fun _ _ _ _ _ _ h => h⟩
       ·intro kx xs wx hk hG hD hI Qo Kx hK hQo
        have d17 : (xs 17) = .bool false := hD 17 rfl
        have d20 : True := hD 20 rfl
        have d15 : (xs 15) = .bool false := hD 15 rfl
        clear hD hI
        simp only [patchS, Nat.reduceAdd, Nat.reduceEqDiff, ↓reduceIte] at hQo ⊢
        generalize xs 17 = y17 at *
        generalize xs 20 = y20 at *
        generalize xs 15 = y15 at *
        subst d17 d15
        go_wp2
        exact hK.out _ _ ⟨rfl, hG, fun _ _ _ _ _ _ h => h⟩
       ·intro kx xs wx hk hG hD hI Qo Kx hK hQo
        have d21 : (xs 21) = .bool false := hD 21 rfl
        have d15 : (xs 15) = .bool false := hD 15 rfl
        clear hD hI
        simp only [patchS, Nat.reduceAdd, Nat.reduceEqDiff, ↓reduceIte] at hQo ⊢
        generalize xs 21 = y21 at *
        generalize xs 15 = y15 at *
        subst d21 d15
        go_wp2
        exact hK.out _ _ ⟨rfl, hG, fun _ _ _ _ _ _ h => h⟩
       ·intro kx xs wx hk hG hD hI Qo Kx hK hQo
        have d22 : (xs 22) = .bool false := hD 22 rfl
        clear hD hI
        simp only [patchS, Nat.reduceAdd, Nat.reduceEqDiff, ↓reduceIte] at hQo ⊢
        generalize xs 22 = y22 at *
        subst d22
        go_wp2
        exact hK.out _ _ ⟨trivial, hG, fun _ _ _ _ _ _ h => h⟩
       ·intro kx xs wx hk hG hD hI Qo Kx hK hQo
        have d23 : True := hD 23 rfl
        have d22 : (xs 22) = .bool false := hD 22 rfl
        clear hD hI
        simp only [patchS, Nat.reduceAdd, Nat.reduceEqDiff, ↓reduceIte] at hQo ⊢
        generalize xs 23 = y23 at *
        generalize xs 22 = y22 at *
        subst d22
        go_wp2
        exact hK.out _ _ ⟨trivial, hG, fun _ _ _ _ _ _ h => h⟩
       ·intro kx xs wx hk hG hD hI Qo Kx hK hQo
        have d22 : (xs 22) = .bool false := hD 22 rfl
        clear hD hI
        simp only [patchS, Nat.reduceAdd, Nat.reduceEqDiff, ↓reduceIte] at hQo ⊢
        generalize xs 22 = y22 at *
        subst d22
        go_wp2
        exact hK.out _ _ ⟨trivial, hG, fun _ _ _ _ _ _ h => h⟩
       ·intro kx xs wx hk hG hD hI Qo Kx hK hQo
        have d24 : True := hD 24 rfl
        have d25 : True := hD 25 rfl
        have d22 : (xs 22) = .bool false := hD 22 rfl
        clear hD hI
        simp only [patchS, Nat.reduceAdd, Nat.reduceEqDiff, ↓reduceIte] at hQo ⊢
        generalize xs 24 = y24 at *
        generalize xs 25 = y25 at *
        generalize xs 22 = y22 at *
        subst d22
        go_wp2
        exact hK.out _ _ ⟨trivial, hG, fun _ _ _ _ _ _ h => h⟩
       ·intro kx xs wx hk hG hD hI Qo Kx hK hQo
        have d26 : True := hD 26 rfl
        have d22 : (xs 22) = .bool false := hD 22 rfl
        clear hD hI
        simp only [patchS, Nat.reduceAdd, Nat.reduceEqDiff, ↓reduceIte] at hQo ⊢
        generalize xs 26 = y26 at *
        generalize xs 22 = y22 at *
        subst d22
        go_wp2
        exact hK.out _ _ ⟨trivial, hG, fun _ _ _ _ _ _ h => h⟩
       ·intro kx xs wx hk hG hD hI Qo Kx hK hQo
        have d22 : (xs 22) = .bool false := hD 22 rfl
        clear hD hI
        simp only [patchS, Nat.reduceAdd, Nat.reduceEqDiff, ↓reduceIte] at hQo ⊢
        generalize xs 22 = y22 at *
        subst d22
        go_wp2
        exact hK.out _ _ ⟨trivial, hG, fun _ _ _ _ _ _ h => h⟩
       ·intro kx xs wx hk hG hD hI Qo Kx hK hQo
        have d28 : True := hD 28 rfl
        have d22 : (xs 22) = .bool false := hD 22 rfl
        clear hD hI
        simp only [patchS, Nat.reduceAdd, Nat.reduceEqDiff, ↓reduceIte] at hQo ⊢
        generalize xs 28 = y28 at *
        generalize xs 22 = y22 at *
        subst d22
        go_wp2
        exact hK.out _ _ ⟨trivial, hG, fun _ _ _ _ _ _ h => h⟩
       ·intro kx xs wx hk hG hD hI Qo Kx hK hQo
        have d22 : (xs 22) = .bool false := hD 22 rfl
        clear hD hI
        simp only [patchS, Nat.reduceAdd, Nat.reduceEqDiff, ↓reduceIte] at hQo ⊢
        generalize xs 22 = y22 at *
        subst d22
        go_wp2
        exact hK.out _ _ ⟨trivial, hG, fun _ _ _ _ _ _ h => h⟩
       ·intro kx xs wx hk hG hD hI Qo Kx hK hQo
        have d29 : True := hD 29 rfl
        have d30 : True := hD 30 rfl
        have d22 : (xs 22) = .bool false := hD 22 rfl
        clear hD hI
        simp only [patchS, Nat.reduceAdd, Nat.reduceEqDiff, ↓reduceIte] at hQo ⊢
        generalize xs 29 = y29 at *
        generalize xs 30 = y30 at *
        generalize xs 22 = y22 at *
        subst d22
        go_wp2
        exact hK.out _ _ ⟨trivial, hG, fun _ _ _ _ _ _ h => h⟩
       ·intro kx xs wx hk hG hD hI Qo Kx hK hQo
        have d31 : True := hD 31 rfl
        have d22 : (xs 22) = .bool false := hD 22 rfl
        clear hD hI
        simp only [patchS, Nat.reduceAdd, Nat.reduceEqDiff, ↓reduceIte] at hQo ⊢
        generalize xs 31 = y31 at *
        generalize xs 22 = y22 at *
        subst d22
        go_wp2
        exact hK.out _ _ ⟨trivial, hG, fun _ _ _ _ _ _ h => h⟩
       ·intro kx xs wx hk hG hD hI Qo Kx hK hQo
        have d27 : True := hD 27 rfl
        have d32 : True := hD 32 rfl
        have d22 : (xs 22) = .bool false := hD 22 rfl
        clear hD hI
        simp only [patchS, Nat.reduceAdd, Nat.reduceEqDiff, ↓reduceIte] at hQo ⊢
        generalize xs 27 = y27 at *
        generalize xs 32 = y32 at *
        generalize xs 22 = y22 at *
        subst d22
        go_wp2
        exact hK.out _ _ ⟨trivial, hG, fun _ _ _ _ _ _ h => h⟩
       ·intro kx xs wx hk hG hD hI Qo Kx hK hQo
        have d22 : (xs 22) = .bool false := hD 22 rfl
        have d33 : True := hD 33 rfl
        have d15 : (xs 15) = .bool false := hD 15 rfl
        clear hD hI
        simp only [patchS, Nat.reduceAdd, Nat.reduceEqDiff, ↓reduceIte] at hQo ⊢
        generalize xs 22 = y22 at *
        generalize xs 33 = y33 at *
        generalize xs 15 = y15 at *
        subst d22 d15
        go_wp2
        exact hK.out _ _ ⟨rfl, hG, fun _ _ _ _ _ _ h => h⟩
       ·intro kx xs wx hk hG hD hI Qo Kx hK hQo
        have d15 : (xs 15) = .bool false := hD 15 rfl
        have d34 : (xs 34) = .bool false := hD 34 rfl
        clear hD hI
        simp only [patchS, Nat.reduceAdd, Nat.reduceEqDiff, ↓reduceIte] at hQo ⊢
        generalize xs 15 = y15 at *
        generalize xs 34 = y34 at *
        subst d15 d34
        go_wp2
        exact hK.out _ _ ⟨rfl, hG, fun _ _ _ _ _ _ h => h⟩
      intro xs wx hV hG
      have d0 : (xs 0) = .bool false := hV 0 (by decide)
      have d1 : (xs 1) = .bool true := hV 1 (by decide)
      have d2 : (xs 2) = .bool true := hV 2 (by decide)
      have d3 : (xs 3) = .pointer (some ⟨U, 2, none⟩) := hV 3 (by decide)
      have d4 : (xs 4) = .slice (some ⟨b1, o1, none⟩) N cD := hV 4 (by decide)
      have d5 : (xs 5) = .int .i64 (k : Nat) := hV 5 (by decide)
      have d6 : (xs 6) = .pointer (some ⟨b1, o1 + k, none⟩) := hV 6 (by decide)
      have d7 : (xs 7) = .int .i64 z := hV 7 (by decide)
      have d8 : (xs 8) = .pointer (some ⟨O + 1, 2, none⟩) := hV 8 (by decide)
      have d9 : (xs 9) = .slice (some ⟨b2, o2, none⟩) N c2 := hV 9 (by decide)
      have d10 : (xs 10) = .int .i64 (k : Nat) := hV 10 (by decide)
      have d11 : (xs 11) = .pointer (some ⟨b2, o2 + k, none⟩) := hV 11 (by decide)
      have d12 : (xs 12) = .int .i64 z := hV 12 (by decide)
      have d13 : (xs 13) = .bool false := hV 13 (by decide)
      have d14 : (xs 14) = .bool false := hV 14 (by decide)
      have d15 : (xs 15) = .bool false := hV 15 (by decide)
      have d16 : (xs 16) = .bool false := hV 16 (by decide)
      have d17 : (xs 17) = .bool false := hV 17 (by decide)
      have d21 : (xs 21) = .bool false := hV 21 (by decide)
      have d22 : (xs 22) = .bool false := hV 22 (by decide)
      have d34 : (xs 34) = .bool false := hV 34 (by decide)
      have d35 : (xs 35) = .bool false := hV 35 (by decide)
      clear hV
      simp only [patchS, Nat.reduceAdd, Nat.reduceEqDiff, ↓reduceIte]
      generalize xs 0 = y0 at *
      generalize xs 1 = y1 at *
      generalize xs 2 = y2 at *
      generalize xs 3 = y3 at *
      generalize xs 4 = y4 at *
      generalize xs 5 = y5 at *
      generalize xs 6 = y6 at *
      generalize xs 7 = y7 at *
      generalize xs 8 = y8 at *
      generalize xs 9 = y9 at *
      generalize xs 10 = y10 at *
      generalize xs 11 = y11 at *
      generalize xs 12 = y12 at *
      generalize xs 13 = y13 at *
      generalize xs 14 = y14 at *
      generalize xs 15 = y15 at *
      generalize xs 16 = y16 at *
      generalize xs 17 = y17 at *
      generalize xs 18 = y18 at *
      generalize xs 19 = y19 at *
      generalize xs 20 = y20 at *
      generalize xs 21 = y21 at *
      generalize xs 22 = y22 at *
      generalize xs 23 = y23 at *
      generalize xs 24 = y24 at *
      generalize xs 25 = y25 at *
      generalize xs 26 = y26 at *
      generalize xs 27 = y27 at *
      generalize xs 28 = y28 at *
      generalize xs 29 = y29 at *
      generalize xs 30 = y30 at *
      generalize xs 31 = y31 at *
      generalize xs 32 = y32 at *
      generalize xs 33 = y33 at *
      generalize xs 34 = y34 at *
      generalize xs 35 = y35 at *
      replace hG : Ext w8 wx := hG
      clear d0 d1 d2 d3 d4 d5 d6 d7 d8 d9 d10 d11 d12 d13 d14 d15 d16 d17 d21 d22 d34
      subst d35
      clear Ha Hb
      go_wp2
      go_roundw
      case rel => exact ⟨k + 1, by omega, by go_num, hG⟩
      case measure => simp [intOf]; omega
     ·have hin := hbI.1 rfl
      by_cases hk0 : mm.kind = 0
      ·obtain ⟨he, hkn⟩ := HHP.out.2 hin hk0
       rw [← HN1.out] at hkn
       have Hk0 := Lib.hid (show (mm.kind == 0) = true by simp [hk0])
       obtain ⟨b2, o2, rfl, g2⟩ := L8.s1.int hkn
       have Hb := Lib.hid (fun (wx : World) (h : Ext w8 wx) => (L8.s1.ext h).int hkn)
       rw [← he] at Hb
       obtain ⟨z, hz⟩ : ∃ z, z = nth D.px k := ⟨_, rfl⟩
       rw [← hz] at Ha Hb
       have hzz : (z != z) = false := by simp
       clear hz g1 g2 he HHP hbI hk0 hin
       go_upto_region 15 with fail
       refine wp_region_inv2 (by kernel_rfl) [(87, 0), (88, 1), (89, 2), (90, 3), (91, 4), (92, 5), (93, 6), (94, 7), (95, 8), (96, 9), (97, 10), (98, 11), (99, 12), (100, 13), (101, 14), (102, 15), (103, 16), (104, 17), (105, 18), (106, 19), (107, 20), (108, 21), (109, 22), (110, 23), (111, 24), (112, 25), (113, 26), (114, 27), (115, 28), (116, 29), (117, 30), (118, 31), (119, 32), (120, 33), (121, 34), (122, 35)] [[], [0], [0, 1], [0, 1, 2], [0, 1, 2, 3], [0, 1, 2], [0, 1, 2, 3, 4, 5], [0, 1, 2, 3, 4, 5, 6], [0, 1, 2], [0, 1, 2, 8], [0, 1, 2], [0, 1, 2, 8, 9, 10], [0, 1, 2, 8, 9, 10, 11], [0, 1, 2, 3, 4, 5, 6, 7, 8, 9, 10, 11, 12], [0, 1, 2, 3, 4, 5, 6, 7, 8, 9, 10, 11, 12, 13], [0, 1, 2, 3, 4, 5, 6, 7, 8, 9, 10, 11, 12, 13, 14], [0, 1, 2, 3, 4, 5, 6, 7, 8, 9, 10, 11, 12, 13, 14, 15], [0, 1, 2, 3, 4, 5, 6, 7, 8, 9, 10, 11, 12, 13, 14, 15, 16], [0, 1, 2, 3, 4, 5, 6, 7, 8, 9, 10, 11, 12, 13, 14, 15, 16, 17], [0, 1, 2, 3, 4, 5, 6, 7, 8, 9, 10, 11, 12, 13, 14, 15, 16, 17, 18], [0, 1, 2, 3, 4, 5, 6, 7, 8, 9, 10, 11, 12, 13, 14, 15, 16, 17, 18, 19], [0, 1, 2, 3, 4, 5, 6, 7, 8, 9, 10, 11, 12, 13, 14, 15, 16, 17, 18, 19, 20], [0, 1, 2, 3, 4, 5, 6, 7, 8, 9, 10, 11, 12, 13, 14, 15, 16, 17, 18, 19, 20, 21], [0, 1, 2, 3, 4, 5, 6, 7, 8, 9, 10, 11, 12, 13, 14, 15, 16, 17, 18, 19, 20, 21, 22], [0, 1, 2, 3, 4, 5, 6, 7, 8, 9, 10, 11, 12, 13, 14, 15, 16, 17, 18, 19, 20, 21, 22, 23], [0, 1, 2, 3, 4, 5, 6, 7, 8, 9, 10, 11, 12, 13, 14, 15, 16, 17, 18, 19, 20, 21, 22], [0, 1, 2, 3, 4, 5, 6, 7, 8, 9, 10, 11, 12, 13, 14, 15, 16, 17, 18, 19, 20, 21, 22, 23, 24, 25], [0, 1, 2, 3, 4, 5, 6, 7, 8, 9, 10, 11, 12, 13, 14, 15, 16, 17, 18, 19, 20, 21, 22, 23, 24, 25, 26], [0, 1, 2, 3, 4, 5, 6, 7, 8, 9, 10, 11, 12, 13, 14, 15, 16, 17, 18, 19, 20, 21, 22], [0, 1, 2, 3, 4, 5, 6, 7, 8, 9, 10, 11, 12, 13, 14, 15, 16, 17, 18, 19, 20, 21, 22, 28], [0, 1, 2, 3, 4, 5, 6, 7, 8, 9, 10, 11, 12, 13, 14, 15, 16, 17, 18, 19, 20, 21, 22], [0, 1, 2, 3, 4, 5, 6, 7, 8, 9, 10, 11, 12, 13, 14, 15, 16, 17, 18, 19, 20, 21, 22, 28, 29, 30], [0, 1, 2, 3, 4, 5, 6, 7, 8, 9, 10, 11, 12, 13, 14, 15, 16, 17, 18, 19, 20, 21, 22, 28, 29, 30, 31], [0, 1, 2, 3, 4, 5, 6, 7, 8, 9, 10, 11, 12, 13, 14, 15, 16, 17, 18, 19, 20, 21, 22, 23, 24, 25, 26, 27, 28, 29, 30, 31, 32], [0, 1, 2, 3, 4, 5, 6, 7, 8, 9, 10, 11, 12, 13, 14, 15, 16, 17, 18, 19, 20, 21, 22, 23, 24, 25, 26, 27, 28, 29, 30, 31, 32, 33], [0, 1, 2, 3, 4, 5, 6, 7, 8, 9, 10, 11, 12, 13, 14, 15, 16, 17, 18, 19, 20, 21, 22, 23, 24, 25, 26, 27, 28, 29, 30, 31, 32, 33, 34]] (fun i own ys wx => match i with | 0 => own = .bool true | 1 => own = .bool false | 2 => own = .bool false | 3 => True | 4 => True | 5 => True | 6 => True | 7 => True | 8 => True | 9 => True | 10 => True | 11 => True | 12 => True | 13 => True | 14 => own = .bool false | 15 => own = .bool false | 16 => own = .bool true | 17 => own = .bool true | 18 => own = .pointer (some ⟨O + 1 + 1, 0, none⟩) | 19 => own = .int .i64 mm.kind | 20 => own = .bool true | 21 => own = .bool true | 22 => own = .bool true | 23 => own = .pointer (some ⟨U, 2, none⟩) | 24 => own = .slice (some ⟨b1, o1, none⟩) N cD | 25 => own = .int .i64 (k : Nat) | 26 => own = .pointer (some ⟨b1, o1 + k, none⟩) | 27 => own = .int .i64 z | 28 => own = .pointer (some ⟨O, 2, none⟩) | 29 => own = .slice (some ⟨b2, o2, none⟩) n c | 30 => own = .int .i64 (k : Nat) | 31 => own = .pointer (some ⟨b2, o2 + k, none⟩) | 32 => own = .int .i64 z | 33 => own = .bool false | 34 => own = .bool false | 35 => own = .bool false | _ => True) (fun kx wx => Ext w8 wx) (by kernel_rfl) (by kernel_rfl) (by kernel_rfl) ?g0_r3 ?gop_r3 ?gend_r3
       case g0_r3 => exact E9.trans_drewN 1
       case gop_r3 =>
        refine ⟨?_, ?_, ?_, ?_, ?_, ?_, ?_, ?_, ?_, ?_, ?_, ?_, ?_, ?_, ?_, ?_, ?_, ?_, ?_, ?_, ?_, ?_, ?_, ?_, ?_, ?_, ?_, ?_, ?_, ?_, ?_, ?_, ?_, ?_, ?_, ?_, trivial⟩
        ·intro kx xs wx hk hG hD hI Qo Kx hK hQo
         clear hD hI
         simp only [patchS, Nat.reduceAdd, Nat.reduceEqDiff, ↓reduceIte] at hQo ⊢
         go_wp2
         exact hK.out _ _ ⟨rfl, hG, fun _ _ _ _ _ _ h => h⟩
        ·intro kx xs wx hk hG hD hI Qo Kx hK hQo
         have d0 : (xs 0) = .bool true := hD 0 rfl
         clear hD hI
         simp only [patchS, Nat.reduceAdd, Nat.reduceEqDiff, ↓reduceIte] at hQo ⊢
         generalize xs 0 = y0 at *
         subst d0
         go_wp2
         exact hK.out _ _ ⟨rfl, hG, fun _ _ _ _ _ _ h => h⟩
        ·intro kx xs wx hk hG hD hI Qo Kx hK hQo
         have d1 : (xs 1) = .bool false := hD 1 rfl
         clear hD hI
         simp only [patchS, Nat.reduceAdd, Nat.reduceEqDiff, ↓reduceIte] at hQo ⊢
         generalize xs 1 = y1 at *
         subst d1
         go_wp2
         exact hK.out _ _ ⟨rfl, hG, fun _ _ _ _ _ _ h => h⟩
        ·intro kx xs wx hk hG hD hI Qo Kx hK hQo
         have d2 : (xs 2) = .bool false := hD 2 rfl
         clear hD hI
         simp only [patchS, Nat.reduceAdd, Nat.reduceEqDiff, ↓reduceIte] at hQo ⊢
         generalize xs 2 = y2 at *
         subst d2
         go_wp2
         exact hK.out _ _ ⟨trivial, hG, fun _ _ _ _ _ _ h => h⟩
        ·intro kx xs wx hk hG hD hI Qo Kx hK hQo
         have d3 : True := hD 3 rfl
         have d2 : (xs 2) = .bool false := hD 2 rfl
         clear hD hI
         simp only [patchS, Nat.reduceAdd, Nat.reduceEqDiff, ↓reduceIte] at hQo ⊢
         generalize xs 3 = y3 at *
         generalize xs 2 = y2 at *
         subst d2
         go_wp2
         exact hK.out _ _ ⟨trivial, hG, fun _ _ _ _ _ _ h => h⟩
        ·intro kx xs wx hk hG hD hI Qo Kx hK hQo
         have d2 : (xs 2) = .bool false := hD 2 rfl
         clear hD hI
         simp only [patchS, Nat.reduceAdd, Nat.reduceEqDiff, ↓reduceIte] at hQo ⊢
         generalize xs 2 = y2 at *
         subst d2
         go_wp2
         exact hK.out _ _ ⟨trivial, hG, fun _ _ _ _ _ _ h => h⟩
        ·intro kx xs wx hk hG hD hI Qo Kx hK hQo
         have d4 : True := hD 4 rfl
         have d5 : True := hD 5 rfl
         have d2 : (xs 2) = .bool false := hD 2 rfl
         clear hD hI
         simp only [patchS, Nat.reduceAdd, Nat.reduceEqDiff, ↓reduceIte] at hQo ⊢
         generalize xs 4 = y4 at *
         generalize xs 5 = y5 at *
         generalize xs 2 = y2 at *
         subst d2
         go_wp2
         exact hK.out _ _ ⟨trivial, hG, fun _ _ _ _ _ _ h => h⟩
        ·intro kx xs wx hk hG hD hI Qo Kx hK hQo
         have d6 : True := hD 6 rfl
         have d2 : (xs 2) = .bool false := hD 2 rfl
         clear hD hI
         simp only [patchS, Nat.reduceAdd, Nat.reduceEqDiff, ↓reduceIte] at hQo ⊢
         generalize xs 6 = y6 at *
         generalize xs 2 = y2 at *
         subst d2
         go_wp2
         exact hK.out _ _ ⟨trivial, hG, fun _ _ _ _ _ _ h => h⟩
        ·intro kx xs wx hk hG hD hI Qo Kx hK hQo
         have d2 : (xs 2) = .bool false := hD 2 rfl
         clear hD hI
         simp only [patchS, Nat.reduceAdd, Nat.reduceEqDiff, ↓reduceIte] at hQo ⊢
         generalize xs 2 = y2 at *
         subst d2
         go_wp2
         exact hK.out _ _ ⟨trivial, hG, fun _ _ _ _ _ _ h => h⟩
        ·intro kx xs wx hk hG hD hI Qo Kx hK hQo
         have d8 : True := hD 8 rfl
         have d2 : (xs 2) = .bool false := hD 2 rfl
         clear hD hI
         simp only [patchS, Nat.reduceAdd, Nat.reduceEqDiff, ↓reduceIte] at hQo ⊢
         generalize xs 8 = y8 at *
         generalize xs 2 = y2 at *
         subst d2
         go_wp2
         exact hK.out _ _ ⟨trivial, hG, fun _ _ _ _ _ _ h => h⟩
        ·intro kx xs wx hk hG hD hI Qo Kx hK hQo
         have d2 : (xs 2) = .bool false := hD 2 rfl
         clear hD hI
         simp only [patchS, Nat.reduceAdd, Nat.reduceEqDiff, ↓reduceIte] at hQo ⊢
         generalize xs 2 = y2 at *
         subst d2
         go_wp2
         exact hK.out _ _ ⟨trivial, hG, fun _ _ _ _ _ _ h => h⟩
        ·intro kx xs wx hk hG hD hI Qo Kx hK hQo
         have d9 : True := hD 9 rfl
         have d10 : True := hD 10 rfl
         have d2 : (xs 2) = .bool false := hD 2 rfl
         clear hD hI
         simp only [patchS, Nat.reduceAdd, Nat.reduceEqDiff, ↓reduceIte] at hQo ⊢
         generalize xs 9 = y9 at *
         generalize xs 10 = y10 at *
         generalize xs 2 = y2 at *
         subst d2
         go_wp2
         exact hK.out _ _ ⟨trivial, hG, fun _ _ _ _ _ _ h => h⟩
        ·intro kx xs wx hk hG hD hI Qo Kx hK hQo
         have d11 : True := hD 11 rfl
         have d2 : (xs 2) = .bool false := hD 2 rfl
         clear hD hI
         simp only [patchS, Nat.reduceAdd, Nat.reduceEqDiff, ↓reduceIte] at hQo ⊢
         generalize xs 11 = y11 at *
         generalize xs 2 = y2 at *
         subst d2
         go_wp2
         exact hK.out _ _ ⟨trivial, hG, fun _ _ _ _ _ _ h => h⟩
        ·intro kx xs wx hk hG hD hI Qo Kx hK hQo
         have d7 : True := hD 7 rfl
         have d12 : True := hD 12 rfl
         have d2 : (xs 2) = .bool false := hD 2 rfl
         clear hD hI
         simp only [patchS, Nat.reduceAdd, Nat.reduceEqDiff, ↓reduceIte] at hQo ⊢
         generalize xs 7 = y7 at *
         generalize xs 12 = y12 at *
         generalize xs 2 = y2 at *
         subst d2
         go_wp2
         exact hK.out _ _ ⟨trivial, hG, fun _ _ _ _ _ _ h => h⟩
        ·intro kx xs wx hk hG hD hI Qo Kx hK hQo
         have d2 : (xs 2) = .bool false := hD 2 rfl
         have d13 : True := hD 13 rfl
         clear hD hI
         simp only [patchS, Nat.reduceAdd, Nat.reduceEqDiff, ↓reduceIte] at hQo ⊢
         generalize xs 2 = y2 at *
         generalize xs 13 = y13 at *
         subst d2
         go_wp2
         exact hK.out _ _ ⟨rfl, hG, fun _ _ _ _ _ _ h => h⟩
        ·intro kx xs wx hk hG hD hI Qo Kx hK hQo
         have d14 : (xs 14) = .bool false := hD 14 rfl
         clear hD hI
         simp only [patchS, Nat.reduceAdd, Nat.reduceEqDiff, ↓reduceIte] at hQo ⊢
         generalize xs 14 = y14 at *
         subst d14
         go_wp2
         exact hK.out _ _ ⟨rfl, hG, fun _ _ _ _ _ _ h => h⟩
        ·intro kx xs wx hk hG hD hI Qo Kx hK hQo
         have d15 : (xs 15) = .bool false := hD 15 rfl
         clear hD hI
         simp only [patchS, Nat.reduceAdd, Nat.reduceEqDiff, ↓reduceIte] at hQo ⊢
         generalize xs 15 = y15 at *
         subst d15
         go_wp2
         exact hK.out _ _ ⟨rfl, hG, fun _ _ _ _ _ _ h => h⟩
        ·intro kx xs wx hk hG hD hI Qo Kx hK hQo
         have d16 : (xs 16) = .bool true := hD 16 rfl
         have d15 : (xs 15) = .bool false := hD 15 rfl
         clear hD hI
         simp only [patchS, Nat.reduceAdd, Nat.reduceEqDiff, ↓reduceIte] at hQo ⊢
         generalize xs 16 = y16 at *
         generalize xs 15 = y15 at *
         subst d16 d15
         go_wp2
         exact hK.out _ _ ⟨rfl, hG, fun _ _ _ _ _ _ h => h⟩
        ·intro kx xs wx hk hG hD hI Qo Kx hK hQo
         have d17 : (xs 17) = .bool true := hD 17 rfl
         clear hD hI
         simp only [patchS, Nat.reduceAdd, Nat.reduceEqDiff, ↓reduceIte] at hQo ⊢
         generalize xs 17 = y17 at *
         subst d17
         go_wp2
         exact hK.out _ _ ⟨rfl, hG, fun _ _ _ _ _ _ h => h⟩
        ·intro kx xs wx hk hG hD hI Qo Kx hK hQo
         have d18 : (xs 18) = .pointer (some ⟨O + 1 + 1, 0, none⟩) := hD 18 rfl
         have d17 : (xs 17) = .bool true := hD 17 rfl
         clear hD hI
         simp only [patchS, Nat.reduceAdd, Nat.reduceEqDiff, ↓reduceIte] at hQo ⊢
         generalize xs 18 = y18 at *
         generalize xs 17 = y17 at *
         subst d18 d17
         have hk := (L8.e hG).ib.cell (i := 0) (by rw [Hml.out]; omega)
         rw [Mac.zs_kind] at hk
         go_wp2
         exact hK.out _ _ ⟨rfl, hG, fun _ _ _ _ _ _ h => h⟩
        ·intro kx xs wx hk hG hD hI Qo Kx hK hQo
         have d19 : (xs 19) = .int .i64 mm.kind := hD 19 rfl
         have d17 : (xs 17) = .bool true := hD 17 rfl
         clear hD hI
         simp only [patchS, Nat.reduceAdd, Nat.reduceEqDiff, ↓reduceIte] at hQo ⊢
         generalize xs 19 = y19 at *
         generalize xs 17 = y17 at *
         subst d19 d17
         have hkk := Hk0.out
         go_wp2
         exact hK.out _ _ ⟨rfl, hG, fun _ _ _ _ _ _ h => h⟩
        ·intro kx xs wx hk hG hD hI Qo Kx hK hQo
         have d17 : (xs 17) = .bool true := hD 17 rfl
         have d20 : (xs 20) = .bool true := hD 20 rfl
         have d15 : (xs 15) = .bool false := hD 15 rfl
         clear hD hI
         simp only [patchS, Nat.reduceAdd, Nat.reduceEqDiff, ↓reduceIte] at hQo ⊢
         generalize xs 17 = y17 at *
         generalize xs 20 = y20 at *
         generalize xs 15 = y15 at *
         subst d17 d20 d15
         go_wp2
         exact hK.out _ _ ⟨rfl, hG, fun _ _ _ _ _ _ h => h⟩
        ·intro kx xs wx hk hG hD hI Qo Kx hK hQo
         have d21 : (xs 21) = .bool true := hD 21 rfl
         have d15 : (xs 15) = .bool false := hD 15 rfl
         clear hD hI
         simp only [patchS, Nat.reduceAdd, Nat.reduceEqDiff, ↓reduceIte] at hQo ⊢
         generalize xs 21 = y21 at *
         generalize xs 15 = y15 at *
         subst d21 d15
         go_wp2
         exact hK.out _ _ ⟨rfl, hG, fun _ _ _ _ _ _ h => h⟩
        ·intro kx xs wx hk hG hD hI Qo Kx hK hQo
         have d22 : (xs 22) = .bool true := hD 22 rfl
         clear hD hI
         simp only [patchS, Nat.reduceAdd, Nat.reduceEqDiff, ↓reduceIte] at hQo ⊢
         generalize xs 22 = y22 at *
         subst d22
         go_wp2
         exact hK.out _ _ ⟨rfl, hG, fun _ _ _ _ _ _ h => h⟩
        ·intro kx xs wx hk hG hD hI Qo Kx hK hQo
         have d23 : (xs 23) = .pointer (some ⟨U, 2, none⟩) := hD 23 rfl
         have d22 : (xs 22) = .bool true := hD 22 rfl
         clear hD hI
         simp only [patchS, Nat.reduceAdd, Nat.reduceEqDiff, ↓reduceIte] at hQo ⊢
         generalize xs 23 = y23 at *
         generalize xs 22 = y22 at *
         subst d23 d22
         obtain ⟨k0, k1, k2⟩ := PBx.cells (PBx.e B8 hG)
         go_wp2
         exact hK.out _ _ ⟨rfl, hG, fun _ _ _ _ _ _ h => h⟩
        ·intro kx xs wx hk hG hD hI Qo Kx hK hQo
         have d22 : (xs 22) = .bool true := hD 22 rfl
         clear hD hI
         simp only [patchS, Nat.reduceAdd, Nat.reduceEqDiff, ↓reduceIte] at hQo ⊢
         generalize xs 22 = y22 at *
         subst d22
         go_wp2
         exact hK.out _ _ ⟨rfl, hG, fun _ _ _ _ _ _ h => h⟩
        ·intro kx xs wx hk hG hD hI Qo Kx hK hQo
         have d24 : (xs 24) = .slice (some ⟨b1, o1, none⟩) N cD := hD 24 rfl
         have d25 : (xs 25) = .int .i64 (k : Nat) := hD 25 rfl
         have d22 : (xs 22) = .bool true := hD 22 rfl
         clear hD hI
         simp only [patchS, Nat.reduceAdd, Nat.reduceEqDiff, ↓reduceIte] at hQo ⊢
         generalize xs 24 = y24 at *
         generalize xs 25 = y25 at *
         generalize xs 22 = y22 at *
         subst d24 d25 d22
         go_wp2
         exact hK.out _ _ ⟨rfl, hG, fun _ _ _ _ _ _ h => h⟩
        ·intro kx xs wx hk hG hD hI Qo Kx hK hQo
         have d26 : (xs 26) = .pointer (some ⟨b1, o1 + k, none⟩) := hD 26 rfl
         have d22 : (xs 22) = .bool true := hD 22 rfl
         clear hD hI
         simp only [patchS, Nat.reduceAdd, Nat.reduceEqDiff, ↓reduceIte] at hQo ⊢
         generalize xs 26 = y26 at *
         generalize xs 22 = y22 at *
         subst d26 d22
         obtain ⟨q1, q2, he, cx⟩ := Ha.out wx hG
         simp only [Option.some.injEq, Addr.mk.injEq, and_true] at he
         obtain ⟨rfl, rfl⟩ := he
         go_wp2
         exact hK.out _ _ ⟨rfl, hG, fun _ _ _ _ _ _ h => h⟩
        ·intro kx xs wx hk hG hD hI Qo Kx hK hQo
         have d22 : (xs 22) = .bool true := hD 22 rfl
         clear hD hI
         simp only [patchS, Nat.reduceAdd, Nat.reduceEqDiff, ↓reduceIte] at hQo ⊢
         generalize xs 22 = y22 at *
         subst d22
         go_wp2
         exact hK.out _ _ ⟨rfl, hG, fun _ _ _ _ _ _ h => h⟩
        ·intro kx xs wx hk hG hD hI Qo Kx hK hQo
         have d28 : (xs 28) = .pointer (some ⟨O, 2, none⟩) := hD 28 rfl
         have d22 : (xs 22) = .bool true := hD 22 rfl
         clear hD hI
         simp only [patchS, Nat.reduceAdd, Nat.reduceEqDiff, ↓reduceIte] at hQo ⊢
         generalize xs 28 = y28 at *
         generalize xs 22 = y22 at *
         subst d28 d22
         obtain ⟨k0, k1, k2⟩ := PBx.cells ((L8.e hG).b1)
         go_wp2
         exact hK.out _ _ ⟨rfl, hG, fun _ _ _ _ _ _ h => h⟩
        ·intro kx xs wx hk hG hD hI Qo Kx hK hQo
         have d22 : (xs 22) = .bool true := hD 22 rfl
         clear hD hI
         simp only [patchS, Nat.reduceAdd, Nat.reduceEqDiff, ↓reduceIte] at hQo ⊢
         generalize xs 22 = y22 at *
         subst d22
         go_wp2
         exact hK.out _ _ ⟨rfl, hG, fun _ _ _ _ _ _ h => h⟩
        ·intro kx xs wx hk hG hD hI Qo Kx hK hQo
         have d29 : (xs 29) = .slice (some ⟨b2, o2, none⟩) n c := hD 29 rfl
         have d30 : (xs 30) = .int .i64 (k : Nat) := hD 30 rfl
         have d22 : (xs 22) = .bool true := hD 22 rfl
         clear hD hI
         simp only [patchS, Nat.reduceAdd, Nat.reduceEqDiff, ↓reduceIte] at hQo ⊢
         generalize xs 29 = y29 at *
         generalize xs 30 = y30 at *
         generalize xs 22 = y22 at *
         subst d29 d30 d22
         go_wp2
         exact hK.out _ _ ⟨rfl, hG, fun _ _ _ _ _ _ h => h⟩
        ·intro kx xs wx hk hG hD hI Qo Kx hK hQo
         have d31 : (xs 31) = .pointer (some ⟨b2, o2 + k, none⟩) := hD 31 rfl
         have d22 : (xs 22) = .bool true := hD 22 rfl
         clear hD hI
         simp only [patchS, Nat.reduceAdd, Nat.reduceEqDiff, ↓reduceIte] at hQo ⊢
         generalize xs 31 = y31 at *
         generalize xs 22 = y22 at *
         subst d31 d22
         obtain ⟨q1, q2, he, cx⟩ := Hb.out wx hG
         simp only [Option.some.injEq, Addr.mk.injEq, and_true] at he
         obtain ⟨rfl, rfl⟩ := he
         go_wp2
         exact hK.out _ _ ⟨rfl, hG, fun _ _ _ _ _ _ h => h⟩
        ·intro kx xs wx hk hG hD hI Qo Kx hK hQo
         have d27 : (xs 27) = .int .i64 z := hD 27 rfl
         have d32 : (xs 32) = .int .i64 z := hD 32 rfl
         have d22 : (xs 22) = .bool true := hD 22 rfl
         clear hD hI
         simp only [patchS, Nat.reduceAdd, Nat.reduceEqDiff, ↓reduceIte] at hQo ⊢
         generalize xs 27 = y27 at *
         generalize xs 32 = y32 at *
         generalize xs 22 = y22 at *
         subst d27 d32 d22
         go_wp2
         exact hK.out _ _ ⟨rfl, hG, fun _ _ _ _ _ _ h => h⟩
        ·intro kx xs wx hk hG hD hI Qo Kx hK hQo
         have d22 : (xs 22) = .bool true := hD 22 rfl
         have d33 : (xs 33) = .bool false := hD 33 rfl
         have d15 : (xs 15) = .bool false := hD 15 rfl
         clear hD hI
         simp only [patchS, Nat.reduceAdd, Nat.reduceEqDiff, ↓reduceIte] at hQo ⊢
         generalize xs 22 = y22 at *
         generalize xs 33 = y33 at *
         generalize xs 15 = y15 at *
         subst d22 d33 d15
         go_wp2
         exact hK.out _ _ ⟨rfl, hG, fun _ _ _ _ _ _ h => h⟩
        ·intro kx xs wx hk hG hD hI Qo Kx hK hQo
         have d15 : (xs 15) = .bool false := hD 15 rfl
         have d34 : (xs 34) = .bool false := hD 34 rfl
         clear hD hI
         simp only [patchS, Nat.reduceAdd, Nat.reduceEqDiff, ↓reduceIte] at hQo ⊢
         generalize xs 15 = y15 at *
         generalize xs 34 = y34 at *
         subst d15 d34
         go_wp2
         exact hK.out _ _ ⟨rfl, hG, fun _ _ _ _ _ _ h => h⟩
       intro xs wx hV hG
       have d0 : (xs 0) = .bool true := hV 0 (by decide)
       have d1 : (xs 1) = .bool false := hV 1 (by decide)
       have d2 : (xs 2) = .bool false := hV 2 (by decide)
       have d14 : (xs 14) = .bool false := hV 14 (by decide)
       have d15 : (xs 15) = .bool false := hV 15 (by decide)
       have d16 : (xs 16) = .bool true := hV 16 (by decide)
       have d17 : (xs 17) = .bool true := hV 17 (by decide)
       have d18 : (xs 18) = .pointer (some ⟨O + 1 + 1, 0, none⟩) := hV 18 (by decide)
       have d19 : (xs 19) = .int .i64 mm.kind := hV 19 (by decide)
       have d20 : (xs 20) = .bool true := hV 20 (by decide)
       have d21 : (xs 21) = .bool true := hV 21 (by decide)
       have d22 : (xs 22) = .bool true := hV 22 (by decide)
       have d23 : (xs 23) = .pointer (some ⟨U, 2, none⟩) := hV 23 (by decide)
       have d24 : (xs 24) = .slice (some ⟨b1, o1, none⟩) N cD := hV 24 (by decide)
       have d25 : (xs 25) = .int .i64 (k : Nat) := hV 25 (by decide)
       have d26 : (xs 26) = .pointer (some ⟨b1, o1 + k, none⟩) := hV 26 (by decide)
       have d27 : (xs 27) = .int .i64 z := hV 27 (by decide)
       have d28 : (xs 28) = .pointer (some ⟨O, 2, none⟩) := hV 28 (by decide)
       have d29 : (xs 29) = .slice (some ⟨b2, o2, none⟩) n c := hV 29 (by decide)
       have d30 : (xs 30) = .int .i64 (k : Nat) := hV 30 (by decide)
       have d31 : (xs 31) = .pointer (some ⟨b2, o2 + k, none⟩) := hV 31 (by decide)
       have d32 : (xs 32) = .int .i64 z := hV 32 (by decide)
       have d33 : (xs 33) = .bool false := hV 33 (by decide)
       have d34 : (xs 34) = .bool false := hV 34 (by decide)
       have d35 : (xs 35) = .bool false := hV 35 (by decide)
       clear hV
       simp only [patchS, Nat.reduceAdd, Nat.reduceEqDiff, ↓reduceIte]
       generalize xs 0 = y0 at *
       generalize xs 1 = y1 at *
       generalize xs 2 = y2 at *
       generalize xs 3 = y3 at *
       generalize xs 4 = y4 at *
       generalize xs 5 = y5 at *
       generalize xs 6 = y6 at *
       generalize xs 7 = y7 at *
       generalize xs 8 = y8 at *
       generalize xs 9 = y9 at *
       generalize xs 10 = y10 at *
       generalize xs 11 = y11 at *
       generalize xs 12 = y12 at *
       generalize xs 13 = y13 at *
       generalize xs 14 = y14 at *
       generalize xs 15 = y15 at *
       generalize xs 16 = y16 at *
       generalize xs 17 = y17 at *
       generalize xs 18 = y18 at *
       generalize xs 19 = y19 at *
       generalize xs 20 = y20 at *
       generalize xs 21 = y21 at *
       generalize xs 22 = y22 at *
       generalize xs 23 = y23 at *
       generalize xs 24 = y24 at *
       generalize xs 25 = y25 at *
       generalize xs 26 = y26 at *
       generalize xs 27 = y27 at *
       generalize xs 28 = y28 at *
       generalize xs 29 = y29 at *
       generalize xs 30 = y30 at *
       generalize xs 31 = y31 at *
       generalize xs 32 = y32 at *
       generalize xs 33 = y33 at *
       generalize xs 34 = y34 at *
       generalize xs 35 = y35 at *
       replace hG : Ext w8 wx := hG
       clear d0 d1 d2 d14 d15 d16 d17 d18 d19 d20 d21 d22 d23 d24 d25 d26 d27 d28 d29 d30 d31 d32 d33 d34
       subst d35
       clear Ha Hb
       go_wp2
       go_roundw
       case rel => exact ⟨k + 1, by omega, by go_num, hG⟩
       case measure => simp [intOf]; omega
      ·have Hk0 := Lib.hid (show (mm.kind == 0) = false by simp [hk0])
       clear g1 HHP hbI hk0 hin
       go_upto_region 15 with fail
       refine wp_region_inv2 (by kernel_rfl) [(87, 0), (88, 1), (89, 2), (90, 3), (91, 4), (92, 5), (93, 6), (94, 7), (95, 8), (96, 9), (97, 10), (98, 11), (99, 12), (100, 13), (101, 14), (102, 15), (103, 16), (104, 17), (105, 18), (106, 19), (107, 20), (108, 21), (109, 22), (110, 23), (111, 24), (112, 25), (113, 26), (114, 27), (115, 28), (116, 29), (117, 30), (118, 31), (119, 32), (120, 33), (121, 34), (122, 35)] [[], [0], [0, 1], [0, 1, 2], [0, 1, 2, 3], [0, 1, 2], [0, 1, 2, 3, 4, 5], [0, 1, 2, 3, 4, 5, 6], [0, 1, 2], [0, 1, 2, 8], [0, 1, 2], [0, 1, 2, 8, 9, 10], [0, 1, 2, 8, 9, 10, 11], [0, 1, 2, 3, 4, 5, 6, 7, 8, 9, 10, 11, 12], [0, 1, 2, 3, 4, 5, 6, 7, 8, 9, 10, 11, 12, 13], [0, 1, 2, 3, 4, 5, 6, 7, 8, 9, 10, 11, 12, 13, 14], [0, 1, 2, 3, 4, 5, 6, 7, 8, 9, 10, 11, 12, 13, 14, 15], [0, 1, 2, 3, 4, 5, 6, 7, 8, 9, 10, 11, 12, 13, 14, 15, 16], [0, 1, 2, 3, 4, 5, 6, 7, 8, 9, 10, 11, 12, 13, 14, 15, 16, 17], [0, 1, 2, 3, 4, 5, 6, 7, 8, 9, 10, 11, 12, 13, 14, 15, 16, 17, 18], [0, 1, 2, 3, 4, 5, 6, 7, 8, 9, 10, 11, 12, 13, 14, 15, 16, 17, 18, 19], [0, 1, 2, 3, 4, 5, 6, 7, 8, 9, 10, 11, 12, 13, 14, 15, 16, 17, 18, 19, 20], [0, 1, 2, 3, 4, 5, 6, 7, 8, 9, 10, 11, 12, 13, 14, 15, 16, 17, 18, 19, 20, 21], [0, 1, 2, 3, 4, 5, 6, 7, 8, 9, 10, 11, 12, 13, 14, 15, 16, 17, 18, 19, 20, 21, 22], [0, 1, 2, 3, 4, 5, 6, 7, 8, 9, 10, 11, 12, 13, 14, 15, 16, 17, 18, 19, 20, 21, 22, 23], [0, 1, 2, 3, 4, 5, 6, 7, 8, 9, 10, 11, 12, 13, 14, 15, 16, 17, 18, 19, 20, 21, 22], [0, 1, 2, 3, 4, 5, 6, 7, 8, 9, 10, 11, 12, 13, 14, 15, 16, 17, 18, 19, 20, 21, 22, 23, 24, 25], [0, 1, 2, 3, 4, 5, 6, 7, 8, 9, 10, 11, 12, 13, 14, 15, 16, 17, 18, 19, 20, 21, 22, 23, 24, 25, 26], [0, 1, 2, 3, 4, 5, 6, 7, 8, 9, 10, 11, 12, 13, 14, 15, 16, 17, 18, 19, 20, 21, 22], [0, 1, 2, 3, 4, 5, 6, 7, 8, 9, 10, 11, 12, 13, 14, 15, 16, 17, 18, 19, 20, 21, 22, 28], [0, 1, 2, 3, 4, 5, 6, 7, 8, 9, 10, 11, 12, 13, 14, 15, 16, 17, 18, 19, 20, 21, 22], [0, 1, 2, 3, 4, 5, 6, 7, 8, 9, 10, 11, 12, 13, 14, 15, 16, 17, 18, 19, 20, 21, 22, 28, 29, 30], [0, 1, 2, 3, 4, 5, 6, 7, 8, 9, 10, 11, 12, 13, 14, 15, 16, 17, 18, 19, 20, 21, 22, 28, 29, 30, 31], [0, 1, 2, 3, 4, 5, 6, 7, 8, 9, 10, 11, 12, 13, 14, 15, 16, 17, 18, 19, 20, 21, 22, 23, 24, 25, 26, 27, 28, 29, 30, 31, 32], [0, 1, 2, 3, 4, 5, 6, 7, 8, 9, 10, 11, 12, 13, 14, 15, 16, 17, 18, 19, 20, 21, 22, 23, 24, 25, 26, 27, 28, 29, 30, 31, 32, 33], [0, 1, 2, 3, 4, 5, 6, 7, 8, 9, 10, 11, 12, 13, 14, 15, 16, 17, 18, 19, 20, 21, 22, 23, 24, 25, 26, 27, 28, 29, 30, 31, 32, 33, 34]] (fun i own ys wx => match i with | 0 => own = .bool true | 1 => own = .bool false | 2 => own = .bool false | 3 => True | 4 => True | 5 => True | 6 => True | 7 => True | 8 => True | 9 => True | 10 => True | 11 => True | 12 => True | 13 => True | 14 => own = .bool false | 15 => own = .bool false | 16 => own = .bool true | 17 => own = .bool true | 18 => own = .pointer (some ⟨O + 1 + 1, 0, none⟩) | 19 => own = .int .i64 mm.kind | 20 => own = .bool false | 21 => own = .bool false | 22 => own = .bool false | 23 => True | 24 => True | 25 => True | 26 => True | 27 => True | 28 => True | 29 => True | 30 => True | 31 => True | 32 => True | 33 => True | 34 => own = .bool false | 35 => own = .bool false | _ => True) (fun kx wx => Ext w8 wx) (by kernel_rfl) (by kernel_rfl) (by kernel_rfl) ?g0_r4 ?gop_r4 ?gend_r4
       case g0_r4 => exact E9.trans_drewN 1
       case gop_r4 =>
        refine ⟨?_, ?_, ?_, ?_, ?_, ?_, ?_, ?_, ?_, ?_, ?_, ?_, ?_, ?_, ?_, ?_, ?_, ?_, ?_, ?_, ?_, ?_, ?_, ?_, ?_, ?_, ?_, ?_, ?_, ?_, ?_, ?_, ?_, ?_, ?_, ?_, trivial⟩
        ·intro kx xs wx hk hG hD hI Qo Kx hK hQo
         clear hD hI
         simp only [patchS, Nat.reduceAdd, Nat.reduceEqDiff, ↓reduceIte] at hQo ⊢
         go_wp2
         exact hK.out _ _ ⟨rfl, hG, fun _ _ _ _ _ _ h => h⟩
        ·intro kx xs wx hk hG hD hI Qo Kx hK hQo
         have d0 : (xs 0) = .bool true := hD 0 rfl
         clear hD hI
         simp only [patchS, Nat.reduceAdd, Nat.reduceEqDiff, ↓reduceIte] at hQo ⊢
         generalize xs 0 = y0 at *
         subst d0
         go_wp2
         exact hK.out _ _ ⟨rfl, hG, fun _ _ _ _ _ _ h => h⟩
        ·intro kx xs wx hk hG hD hI Qo Kx hK hQo
         have d1 : (xs 1) = .bool false := hD 1 rfl
         clear hD hI
         simp only [patchS, Nat.reduceAdd, Nat.reduceEqDiff, ↓reduceIte] at hQo ⊢
         generalize xs 1 = y1 at *
         subst d1
         go_wp2
         exact hK.out _ _ ⟨rfl, hG, fun _ _ _ _ _ _ h => h⟩
        ·intro kx xs wx hk hG hD hI Qo Kx hK hQo
         have d2 : (xs 2) = .bool false := hD 2 rfl
         clear hD hI
         simp only [patchS, Nat.reduceAdd, Nat.reduceEqDiff, ↓reduceIte] at hQo ⊢
         generalize xs 2 = y2 at *
         subst d2
         go_wp2
         exact hK.out _ _ ⟨trivial, hG, fun _ _ _ _ _ _ h => h⟩
        ·intro kx xs wx hk hG hD hI Qo Kx hK hQo
         have d3 : True := hD 3 rfl
         have d2 : (xs 2) = .bool false := hD 2 rfl
         clear hD hI
         simp only [patchS, Nat.reduceAdd, Nat.reduceEqDiff, ↓reduceIte] at hQo ⊢
         generalize xs 3 = y3 at *
         generalize xs 2 = y2 at *
         subst d2
         go_wp2
         exact hK.out _ _ ⟨trivial, hG, fun _ _ _ _ _ _ h => h⟩
        ·intro kx xs wx hk hG hD hI Qo Kx hK hQo
         have d2 : (xs 2) = .bool false := hD 2 rfl
         clear hD hI
         simp only [patchS, Nat.reduceAdd, Nat.reduceEqDiff, ↓reduceIte] at hQo ⊢
         generalize xs 2 = y2 at *
         subst d2
         go_wp2
         exact hK.out _ _ ⟨trivial, hG, fun _ _ _ _ _ _ h => h⟩
        ·intro kx xs wx hk hG hD hI Qo Kx hK hQo
         have d4 : True := hD 4 rfl
         have d5 : True := hD 5 rfl
         have d2 : (xs 2) = .bool false := hD 2 rfl
         clear hD hI
         simp only [patchS, Nat.reduceAdd, Nat.reduceEqDiff, ↓reduceIte] at hQo ⊢
         generalize xs 4 = y4 at *
         generalize xs 5 = y5 at *
         generalize xs 2 = y2 at *
         subst d2
         go_wp2
         exact hK.out _ _ ⟨trivial, hG, fun _ _ _ _ _ _ h => h⟩
        ·intro kx xs wx hk hG hD hI Qo Kx hK hQo
         have d6 : True := hD 6 rfl
         have d2 : (xs 2) = .bool false := hD 2 rfl
         clear hD hI
         simp only [patchS, Nat.reduceAdd, Nat.reduceEqDiff, ↓reduceIte] at hQo ⊢
         generalize xs 6 = y6 at *
         generalize xs 2 = y2 at *
         subst d2
         go_wp2
         exact hK.out _ _ ⟨trivial, hG, fun _ _ _ _ _ _ h => h⟩
        ·intro kx xs wx hk hG hD hI Qo Kx hK hQo
         have d2 : (xs 2) = .bool false := hD 2 rfl
         clear hD hI
         simp only [patchS, Nat.reduceAdd, Nat.reduceEqDiff, ↓reduceIte] at hQo ⊢
         generalize xs 2 = y2 at *
         subst d2
         go_wp2
         exact hK.out _ _ ⟨trivial, hG, fun _ _ _ _ _ _ h => h⟩
        ·intro kx xs wx hk hG hD hI Qo Kx hK hQo
         have d8 : True := hD 8 rfl
         have d2 : (xs 2) = .bool false := hD 2 rfl
         clear hD hI
         simp only [patchS, Nat.reduceAdd, Nat.reduceEqDiff, ↓reduceIte] at hQo ⊢
         generalize xs 8 = y8 at *
         generalize xs 2 = y2 at *
         subst d2
         go_wp2
         exact hK.out _ _ ⟨trivial, hG, fun _ _ _ _ _ _ h => h⟩
        ·intro kx xs wx hk hG hD hI Qo Kx hK hQo
         have d2 : (xs 2) = .bool false := hD 2 rfl
         clear hD hI
         simp only [patchS, Nat.reduceAdd, Nat.reduceEqDiff, ↓reduceIte] at hQo ⊢
         generalize xs 2 = y2 at *
         subst d2
         go_wp2
         exact hK.out _ _ ⟨trivial, hG, fun _ _ _ _ _ _ h => h⟩
        ·intro kx xs wx hk hG hD hI Qo Kx hK hQo
         have d9 : True := hD 9 rfl
         have d10 : True := hD 10 rfl
         have d2 : (xs 2) = .bool false := hD 2 rfl
         clear hD hI
         simp only [patchS, Nat.reduceAdd, Nat.reduceEqDiff, ↓reduceIte] at hQo ⊢
         generalize xs 9 = y9 at *
         generalize xs 10 = y10 at *
         generalize xs 2 = y2 at *
         subst d2
         go_wp2
         exact hK.out _ _ ⟨trivial, hG, fun _ _ _ _ _ _ h => h⟩
        ·intro kx xs wx hk hG hD hI Qo Kx hK hQo
         have d11 : True := hD 11 rfl
         have d2 : (xs 2) = .bool false := hD 2 rfl
         clear hD hI
         simp only [patchS, Nat.reduceAdd, Nat.reduceEqDiff, ↓reduceIte] at hQo ⊢
         generalize xs 11 = y11 at *
         generalize xs 2 = y2 at *
         subst d2
         go_wp2
         exact hK.out _ _ ⟨trivial, hG, fun _ _ _ _ _ _ h => h⟩
        ·intro kx xs wx hk hG hD hI Qo Kx hK hQo
         have d7 : True := hD 7 rfl
         have d12 : True := hD 12 rfl
         have d2 : (xs 2) = .bool false := hD 2 rfl
         clear hD hI
         simp only [patchS, Nat.reduceAdd, Nat.reduceEqDiff, ↓reduceIte] at hQo ⊢
         generalize xs 7 = y7 at *
         generalize xs 12 = y12 at *
         generalize xs 2 = y2 at *
         subst d2
         go_wp2
         exact hK.out _ _ ⟨trivial, hG, fun _ _ _ _ _ _ h => h⟩
        ·intro kx xs wx hk hG hD hI Qo Kx hK hQo
         have d2 : (xs 2) = .bool false := hD 2 rfl
         have d13 : True := hD 13 rfl
         clear hD hI
         simp only [patchS, Nat.reduceAdd, Nat.reduceEqDiff, ↓reduceIte] at hQo ⊢
         generalize xs 2 = y2 at *
         generalize xs 13 = y13 at *
         subst d2
         go_wp2
         exact hK.out _ _ ⟨rfl, hG, fun _ _ _ _ _ _ h => h⟩
        ·intro kx xs wx hk hG hD hI Qo Kx hK hQo
         have d14 : (xs 14) = .bool false := hD 14 rfl
         clear hD hI
         simp only [patchS, Nat.reduceAdd, Nat.reduceEqDiff, ↓reduceIte] at hQo ⊢
         generalize xs 14 = y14 at *
         subst d14
         go_wp2
         exact hK.out _ _ ⟨rfl, hG, fun _ _ _ _ _ _ h => h⟩
        ·intro kx xs wx hk hG hD hI Qo Kx hK hQo
         have d15 : (xs 15) = .bool false := hD 15 rfl
         clear hD hI
         simp only [patchS, Nat.reduceAdd, Nat.reduceEqDiff, ↓reduceIte] at hQo ⊢
         generalize xs 15 = y15 at *
         subst d15
         go_wp2
         exact hK.out _ _ ⟨rfl, hG, fun _ _ _ _ _ _ h => h⟩
        ·intro kx xs wx hk hG hD hI Qo Kx hK hQo
         have d16 : (xs 16) = .bool true := hD 16 rfl
         have d15 : (xs 15) = .bool false := hD 15 rfl
         clear hD hI
         simp only [patchS, Nat.reduceAdd, Nat.reduceEqDiff, ↓reduceIte] at hQo ⊢
         generalize xs 16 = y16 at *
         generalize xs 15 = y15 at *
         subst d16 d15
         go_wp2
         exact hK.out _ _ ⟨rfl, hG, fun _ _ _ _ _ _ h => h⟩
        ·intro kx xs wx hk hG hD hI Qo Kx hK hQo
         have d17 : (xs 17) = .bool true := hD 17 rfl
         clear hD hI
         simp only [patchS, Nat.reduceAdd, Nat.reduceEqDiff, ↓reduceIte] at hQo ⊢
         generalize xs 17 = y17 at *
         subst d17
         go_wp2
         exact hK.out _ _ ⟨rfl, hG, fun _ _ _ _ _ _ h => h⟩
        ·intro kx xs wx hk hG hD hI Qo Kx hK hQo
         have d18 : (xs 18) = .pointer (some ⟨O + 1 + 1, 0, none⟩) := hD 18 rfl
         have d17 : (xs 17) = .bool true := hD 17 rfl
         clear hD hI
         simp only [patchS, Nat.reduceAdd, Nat.reduceEqDiff, ↓reduceIte] at hQo ⊢
         generalize xs 18 = y18 at *
         generalize xs 17 = y17 at *
         subst d18 d17
         have hk := (L8.e hG).ib.cell (i := 0) (by rw [Hml.out]; omega)
         rw [Mac.zs_kind] at hk
         go_wp2
         exact hK.out _ _ ⟨rfl, hG, fun _ _ _ _ _ _ h => h⟩
        ·intro kx xs wx hk hG hD hI Qo Kx hK hQo
         have d19 : (xs 19) = .int .i64 mm.kind := hD 19 rfl
         have d17 : (xs 17) = .bool true := hD 17 rfl
         clear hD hI
         simp only [patchS, Nat.reduceAdd, Nat.reduceEqDiff, ↓reduceIte] at hQo ⊢
         generalize xs 19 = y19 at *
         generalize xs 17 = y17 at *
         subst d19 d17
         have hkk := Hk0.out
         go_wp2
         exact hK.out _ _ ⟨rfl, hG, fun _ _ _ _ _ _ h => h⟩
        ·intro kx xs wx hk hG hD hI Qo Kx hK hQo
         have d17 : (xs 17) = .bool true := hD 17 rfl
         have d20 : (xs 20) = .bool false := hD 20 rfl
         have d15 : (xs 15) = .bool false := hD 15 rfl
         clear hD hI
         simp only [patchS, Nat.reduceAdd, Nat.reduceEqDiff, ↓reduceIte] at hQo ⊢
         generalize xs 17 = y17 at *
         generalize xs 20 = y20 at *
         generalize xs 15 = y15 at *
         subst d17 d20 d15
         go_wp2
         exact hK.out _ _ ⟨rfl, hG, fun _ _ _ _ _ _ h => h⟩
        ·intro kx xs wx hk hG hD hI Qo Kx hK hQo
         have d21 : (xs 21) = .bool false := hD 21 rfl
         have d15 : (xs 15) = .bool false := hD 15 rfl
         clear hD hI
         simp only [patchS, Nat.reduceAdd, Nat.reduceEqDiff, ↓reduceIte] at hQo ⊢
         generalize xs 21 = y21 at *
         generalize xs 15 = y15 at *
         subst d21 d15
         go_wp2
         exact hK.out _ _ ⟨rfl, hG, fun _ _ _ _ _ _ h => h⟩
        ·intro kx xs wx hk hG hD hI Qo Kx hK hQo
         have d22 : (xs 22) = .bool false := hD 22 rfl
         clear hD hI
         simp only [patchS, Nat.reduceAdd, Nat.reduceEqDiff, ↓reduceIte] at hQo ⊢
         generalize xs 22 = y22 at *
         subst d22
         go_wp2
         exact hK.out _ _ ⟨trivial, hG, fun _ _ _ _ _ _ h => h⟩
        ·intro kx xs wx hk hG hD hI Qo Kx hK hQo
         have d23 : True := hD 23 rfl
         have d22 : (xs 22) = .bool false := hD 22 rfl
         clear hD hI
         simp only [patchS, Nat.reduceAdd, Nat.reduceEqDiff, ↓reduceIte] at hQo ⊢
         generalize xs 23 = y23 at *
         generalize xs 22 = y22 at *
         subst d22
         go_wp2
         exact hK.out _ _ ⟨trivial, hG, fun _ _ _ _ _ _ h => h⟩
        ·intro kx xs wx hk hG hD hI Qo Kx hK hQo
         have d22 : (xs 22) = .bool false := hD 22 rfl
         clear hD hI
         simp only [patchS, Nat.reduceAdd, Nat.reduceEqDiff, ↓reduceIte] at hQo ⊢
         generalize xs 22 = y22 at *
         subst d22
         go_wp2
         exact hK.out _ _ ⟨trivial, hG, fun _ _ _ _ _ _ h => h⟩
        ·intro kx xs wx hk hG hD hI Qo Kx hK hQo
         have d24 : True := hD 24 rfl
         have d25 : True := hD 25 rfl
         have d22 : (xs 22) = .bool false := hD 22 rfl
         clear hD hI
         simp only [patchS, Nat.reduceAdd, Nat.reduceEqDiff, ↓reduceIte] at hQo ⊢
         generalize xs 24 = y24 at *
         generalize xs 25 = y25 at *
         generalize xs 22 = y22 at *
         subst d22
         go_wp2
         exact hK.out _ _ ⟨trivial, hG, fun _ _ _ _ _ _ h => h⟩
        ·intro kx xs wx hk hG hD hI Qo Kx hK hQo
         have d26 : True := hD 26 rfl
         have d22 : (xs 22) = .bool false := hD 22 rfl
         clear hD hI
         simp only [patchS, Nat.reduceAdd, Nat.reduceEqDiff, ↓reduceIte] at hQo ⊢
         generalize xs 26 = y26 at *
         generalize xs 22 = y22 at *
         subst d22
         go_wp2
         exact hK.out _ _ ⟨trivial, hG, fun _ _ _ _ _ _ h => h⟩
        ·intro kx xs wx hk hG hD hI Qo Kx hK hQo
         have d22 : (xs 22) = .bool false := hD 22 rfl
         clear hD hI
         simp only [patchS, Nat.reduceAdd, Nat.reduceEqDiff, ↓reduceIte] at hQo ⊢
         generalize xs 22 = y22 at *
         subst d22
         go_wp2
         exact hK.out _ _ ⟨trivial, hG, fun _ _ _ _ _ _ h => h⟩
        ·intro kx xs wx hk hG hD hI Qo Kx hK hQo
         have d28 : True := hD 28 rfl
         have d22 : (xs 22) = .bool false := hD 22 rfl
         clear hD hI
         simp only [patchS, Nat.reduceAdd, Nat.reduceEqDiff, ↓reduceIte] at hQo ⊢
         generalize xs 28 = y28 at *
         generalize xs 22 = y22 at *
         subst d22
         go_wp2
         exact hK.out _ _ ⟨trivial, hG, fun _ _ _ _ _ _ h => h⟩
        ·intro kx xs wx hk hG hD hI Qo Kx hK hQo
         have d22 : (xs 22) = .bool false := hD 22 rfl
         clear hD hI
         simp only [patchS, Nat.reduceAdd, Nat.reduceEqDiff, ↓reduceIte] at hQo ⊢
         generalize xs 22 = y22 at *
         subst d22
         go_wp2
         exact hK.out _ _ ⟨trivial, hG, fun _ _ _ _ _ _ h => h⟩
        ·intro kx xs wx hk hG hD hI Qo Kx hK hQo
         have d29 : True := hD 29 rfl
         have d30 : True := hD 30 rfl
         have d22 : (xs 22) = .bool false := hD 22 rfl
         clear hD hI
         simp only [patchS, Nat.reduceAdd, Nat.reduceEqDiff, ↓reduceIte] at hQo ⊢
         generalize xs 29 = y29 at *
         generalize xs 30 = y30 at *
         generalize xs 22 = y22 at *
         subst d22
         go_wp2
         exact hK.out _ _ ⟨trivial, hG, fun _ _ _ _ _ _ h => h⟩
        ·intro kx xs wx hk hG hD hI Qo Kx hK hQo
         have d31 : True := hD 31 rfl
         have d22 : (xs 22) = .bool false := hD 22 rfl
         clear hD hI
         simp only [patchS, Nat.reduceAdd, Nat.reduceEqDiff, ↓reduceIte] at hQo ⊢
         generalize xs 31 = y31 at *
         generalize xs 22 = y22 at *
         subst d22
         go_wp2
         exact hK.out _ _ ⟨trivial, hG, fun _ _ _ _ _ _ h => h⟩
        ·intro kx xs wx hk hG hD hI Qo Kx hK hQo
         have d27 : True := hD 27 rfl
         have d32 : True := hD 32 rfl
         have d22 : (xs 22) = .bool false := hD 22 rfl
         clear hD hI
         simp only [patchS, Nat.reduceAdd, Nat.reduceEqDiff, ↓reduceIte] at hQo ⊢
         generalize xs 27 = y27 at *
         generalize xs 32 = y32 at *
         generalize xs 22 = y22 at *
         subst d22
         go_wp2
         exact hK.out _ _ ⟨trivial, hG, fun _ _ _ _ _ _ h => h⟩
        ·intro kx xs wx hk hG hD hI Qo Kx hK hQo
         have d22 : (xs 22) = .bool false := hD 22 rfl
         have d33 : True := hD 33 rfl
         have d15 : (xs 15) = .bool false := hD 15 rfl
         clear hD hI
         simp only [patchS, Nat.reduceAdd, Nat.reduceEqDiff, ↓reduceIte] at hQo ⊢
         generalize xs 22 = y22 at *
         generalize xs 33 = y33 at *
         generalize xs 15 = y15 at *
         subst d22 d15
         go_wp2
         exact hK.out _ _ ⟨rfl, hG, fun _ _ _ _ _ _ h => h⟩
        ·intro kx xs wx hk hG hD hI Qo Kx hK hQo
         have d15 : (xs 15) = .bool false := hD 15 rfl
         have d34 : (xs 34) = .bool false := hD 34 rfl
         clear hD hI
         simp only [patchS, Nat.reduceAdd, Nat.reduceEqDiff, ↓reduceIte] at hQo ⊢
         generalize xs 15 = y15 at *
         generalize xs 34 = y34 at *
         subst d15 d34
         go_wp2
         exact hK.out _ _ ⟨rfl, hG, fun _ _ _ _ _ _ h => h⟩
       intro xs wx hV hG
       have d0 : (xs 0) = .bool true := hV 0 (by decide)
       have d1 : (xs 1) = .bool false := hV 1 (by decide)
       have d2 : (xs 2) = .bool false := hV 2 (by decide)
       have d14 : (xs 14) = .bool false := hV 14 (by decide)
       have d15 : (xs 15) = .bool false := hV 15 (by decide)
       have d16 : (xs 16) = .bool true := hV 16 (by decide)
       have d17 : (xs 17) = .bool true := hV 17 (by decide)
       have d18 : (xs 18) = .pointer (some ⟨O + 1 + 1, 0, none⟩) := hV 18 (by decide)
       have d19 : (xs 19) = .int .i64 mm.kind := hV 19 (by decide)
       have d20 : (xs 20) = .bool false := hV 20 (by decide)
       have d21 : (xs 21) = .bool false := hV 21 (by decide)
       have d22 : (xs 22) = .bool false := hV 22 (by decide)
       have d34 : (xs 34) = .bool false := hV 34 (by decide)
       have d35 : (xs 35) = .bool false := hV 35 (by decide)
       clear hV
       simp only [patchS, Nat.reduceAdd, Nat.reduceEqDiff, ↓reduceIte]
       generalize xs 0 = y0 at *
       generalize xs 1 = y1 at *
       generalize xs 2 = y2 at *
       generalize xs 3 = y3 at *
       generalize xs 4 = y4 at *
       generalize xs 5 = y5 at *
       generalize xs 6 = y6 at *
       generalize xs 7 = y7 at *
       generalize xs 8 = y8 at *
       generalize xs 9 = y9 at *
       generalize xs 10 = y10 at *
       generalize xs 11 = y11 at *
       generalize xs 12 = y12 at *
       generalize xs 13 = y13 at *
       generalize xs 14 = y14 at *
       generalize xs 15 = y15 at *
       generalize xs 16 = y16 at *
       generalize xs 17 = y17 at *
       generalize xs 18 = y18 at *
       generalize xs 19 = y19 at *
       generalize xs 20 = y20 at *
       generalize xs 21 = y21 at *
       generalize xs 22 = y22 at *
       generalize xs 23 = y23 at *
       generalize xs 24 = y24 at *
       generalize xs 25 = y25 at *
       generalize xs 26 = y26 at *
       generalize xs 27 = y27 at *
       generalize xs 28 = y28 at *
       generalize xs 29 = y29 at *
       generalize xs 30 = y30 at *
       generalize xs 31 = y31 at *
       generalize xs 32 = y32 at *
       generalize xs 33 = y33 at *
       generalize xs 34 = y34 at *
       generalize xs 35 = y35 at *
       replace hG : Ext w8 wx := hG
       clear d0 d1 d2 d14 d15 d16 d17 d18 d19 d20 d21 d22 d34
       subst d35
       clear Ha
       go_wp2
       go_roundw
       case rel => exact ⟨k + 1, by omega, by go_num, hG⟩
       case measure => simp [intOf]; omega
   ·obtain rfl : k = N := by omega
    have hd : decide (k < k) = false := by simp
    obtain ⟨k0, k1, k2⟩ := PBx.cells (PBx.e B8 E9)
    go_wp2_with fail
    refine (HV.out _ (s8.ext E9)).mono ?_
    rintro e w10 ⟨rfl, e10⟩
    go_wp2
    go_ret
    exact ⟨rfl, L8.ex.trans (E9.trans e10)⟩
 ·have hx := HD.out
  rw [recP_no ho] at hx
  have hN0 : N = 0 := by rw [HN.out, hx]; rfl
  subst hN0
  clear ho HD hx
  go_wp2_with fail
  refine (alive_any _).mono ?_
  rintro e w9 ⟨rfl, e9⟩
  go_wp2
  go_ret
  exact ⟨rfl, L8.ex.trans e9⟩
end Go.Proofs.YtbnhaegidfbgbaaDoor
