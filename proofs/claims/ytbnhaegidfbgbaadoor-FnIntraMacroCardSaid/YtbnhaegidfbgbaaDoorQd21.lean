/- FnIntraMacro: fine coding is lossless; the walk of the law. | From the reading of an argument to the walks' words. -/
import Derived.Test.YtbnhaegidfbgbaaDoorQd20
import Derived.ProofKit
import Derived.OpenShut
import Derived.ShutString
import Derived.ChangeOld
import Derived.Deep.Slices
import Derived.Lib.SmallJoins
namespace Go.Proofs.YtbnhaegidfbgbaaDoor
open Go.RowKit
set_option maxHeartbeats 1000000
set_option maxRecDepth 100000 in
set_option maxHeartbeats 8000000 in
theorem law_FnIntraMacro (s : Option Addr) (cc m : Nat) (bs : List Int) (w : World) (hT : TabQ w) (hn0 : m ≤ cc ∧ cc ≤ maxLen) (sl : Sl w s m (bs.map (Value.int .u8))) (wf : ∀ z ∈ bs, (Lit.int .u8 z).wf = true) :
 Calls Tryd.prog 7 #[.slice s m cc] w fun e w' => e = .returned (.bool true) ∧ Ext w w' := by
 have hn : m ≤ cc ∧ cc ≤ 9223372036854775807 := ⟨hn0.1, hn0.2⟩
 clear hn0
 by_cases hbig : 1048576 < m
 ·clear sl wf hT
  go_enter Tryd.func7, Tryd.ntmps7
  go_wp2
  go_ret
  exact ⟨rfl, Below.refl _ _⟩
 have hz := byte_rangeV wf
 clear wf
 go_enter Tryd.func7, Tryd.ntmps7
 go_wp2_with fail
 refine (DrawIntraMacro_any s cc m bs _ hn.1 hn.2 sl hz).mono ?_
 rintro e w1 ⟨p, q, a, a2, c, n, c2, n2, x, y, qq, top, rfl, hqq, ⟨hn1, hn2, s1⟩, ⟨hm1, hm2, s2⟩, E1⟩
 clear sl hz
 have HS := Lib.hid (fun (w : World) (s1 : Sl w a n (p.px.map (Value.int .i64))) (s2 : Sl w a2 n2 (q.px.map (Value.int .i64))) => spec_IntraMacro_any p q x y qq top a a2 c c2 n n2 w hn1 hm1 (by omega) (by omega) s1 s2)
 have HI := Lib.hid (fun (w : World) (hT : TabQ w) (s1 : Sl w a n (p.px.map (Value.int .i64))) (s2 : Sl w a2 n2 (q.px.map (Value.int .i64))) => impl_IntraMacro_any p q x y qq top a a2 c c2 n n2 w hT hn1 hm1 (by omega) (by omega) s1 s2)
 have HI0 := Lib.hid (fun (w : World) (hT : TabQ w) (s1 : Sl w a n (p.px.map (Value.int .i64))) (s2 : Sl w a2 n2 (q.px.map (Value.int .i64))) => impl_IntraMacro_any p q x y 0 top a a2 c c2 n n2 w hT hn1 hm1 (by omega) (by omega) s1 s2)
 have Hrl := Lib.hid (Mac.zs_len (intraP_ok p q x y qq top))
 have Hro := Lib.hid (intraP_ok p q x y qq top)
 obtain ⟨R, hR⟩ : ∃ R, R = intraP p q x y qq top := ⟨_, rfl⟩
 rw [← hR] at HS HI Hrl Hro
 have HR := Lib.hid hR
 have HN1 := Lib.hid hn1
 have HM1' := Lib.hid hm1
 obtain ⟨O, hO⟩ : ∃ O, O = w1.heap.size := ⟨_, rfl⟩
 have e2 : Ext w1 ((w1.alloc (.cells #[.int .i64 p.w, .int .i64 p.h, .slice a n c] 25)).alloc (.cells #[.int .i64 q.w, .int .i64 q.h, .slice a2 n2 c2] 25)) := (Ext.alloc w1 _).trans (Ext.alloc _ _)
 have b1 : PBx ((w1.alloc (.cells #[.int .i64 p.w, .int .i64 p.h, .slice a n c] 25)).alloc (.cells #[.int .i64 q.w, .int .i64 q.h, .slice a2 n2 c2] 25)) O p a n c := by rw [hO]; exact (Ext.alloc _ _).blk (blk_new _ _)
 have b2 : PBx ((w1.alloc (.cells #[.int .i64 p.w, .int .i64 p.h, .slice a n c] 25)).alloc (.cells #[.int .i64 q.w, .int .i64 q.h, .slice a2 n2 c2] 25)) (O + 1) q a2 n2 c2 := by have := blk_new (w1.alloc (.cells #[.int .i64 p.w, .int .i64 p.h, .slice a n c] 25)) (.cells #[.int .i64 q.w, .int .i64 q.h, .slice a2 n2 c2] 25); rw [World.size_alloc, ← hO] at this; exact this
 have E2 := E1.trans e2
 have t1 := s1.ext e2
 have t2 := s2.ext e2
 have z1 := E1.size
 clear hR hn1 hm1 s1 s2 E1 e2
 go_upto_region 4 with fail
 try simp only [World.size_alloc]
 rw [← hO]
 generalize ((w1.alloc (.cells #[.int .i64 p.w, .int .i64 p.h, .slice a n c] 25)).alloc (.cells #[.int .i64 q.w, .int .i64 q.h, .slice a2 n2 c2] 25)) = w2 at *
 rw [← hO] at z1
 clear hO
 obtain ⟨k0, k1, k2⟩ := b1.cells
 obtain ⟨j0, j1, j2⟩ := b2.cells
 go_wp2_with fail
 refine (HI.out _ (hT.ext E2) t1 t2).mono ?_
 rintro e w3 ⟨rfl, e3⟩
 obtain ⟨u, hu⟩ : ∃ u, u = w3.heap.size := ⟨_, rfl⟩
 have Q4 := IB.new w3 34 (zl 71)
 have a4 := Ext.alloc w3 (.cells (ic (zl 71)) 34)
 have g1 := a4.blk (e3.blk b1)
 have g2 := a4.blk (e3.blk b2)
 have t1' := (t1.ext e3).ext a4
 have t2' := (t2.ext e3).ext a4
 have E4 := (E2.trans e3).trans a4
 have hl1 := lt_of_block (e3.blk b1)
 have hl2 := lt_of_block (e3.blk b2)
 have y1 := sl_bound (t1.ext e3)
 have y2 := sl_bound (t2.ext e3)
 go_wp2_with (first | (refine wpList_iallocz 34 rfl rfl 71 zero_Macz ?_; (try simp only [World.size_alloc])) | (refine wpList_istore 34 _ _ rfl rfl Q4 0 71 rfl _ rfl R.zs rfl size_Macro Hrl.out (by simp [zl]) ?_; intro w5 r5 gg; refine Hid.out ?_))
 rw [spl_all (by rw [Hrl.out, zl_len])] at r5
 rw [← hu] at r5 gg hl1 hl2 y1 y2 ⊢
 have L5 : LS w O p a n c q a2 n2 c2 u R.zs w5 := ⟨Ext.grown E4 gg (fun k hk => by cases hk; omega), blk_gr g1 gg (by simp; omega), blk_gr g2 gg (by simp; omega), r5, sl_kept t1' gg y1, sl_kept t2' gg y2⟩
 clear Q4 a4 g1 g2 t1' t2' E4 hl1 hl2 y1 y2 r5 gg hu e3 b1 b2 E2 t1 t2 k0 k1 k2 j0 j1 j2
 refine Lib.hid ?_
 go_upto_region 5 with fail
 have hext : ∀ (i : Nat) (own : Value) (ys : Nat → Value) (wa wb : World), Ext wa wb → (match i with | 0 => own = .agg (ic R.zs) | 1 => own = .agg #[.int .i64 p.w, .int .i64 p.h, .slice a n c] | 2 => own = .agg #[.int .i64 q.w, .int .i64 q.h, .slice a2 n2 c2] | 3 => own = .int .i64 x | 4 => own = .int .i64 y | 5 => own = .int .i64 qq | 6 => own = .int .i64 top | 7 => own = .agg (ic R.zs) | 8 => own = .bool false | _ => True) → (match i with | 0 => own = .agg (ic R.zs) | 1 => own = .agg #[.int .i64 p.w, .int .i64 p.h, .slice a n c] | 2 => own = .agg #[.int .i64 q.w, .int .i64 q.h, .slice a2 n2 c2] | 3 => own = .int .i64 x | 4 => own = .int .i64 y | 5 => own = .int .i64 qq | 6 => own = .int .i64 top | 7 => own = .agg (ic R.zs) | 8 => own = .bool false | _ => True) := by
  intro i own ys wa wb e h
  match i, h with
  | 0, h => exact h
  | 1, h => exact h
  | 2, h => exact h
  | 3, h => exact h
  | 4, h => exact h
  | 5, h => exact h
  | 6, h => exact h
  | 7, h => exact h
  | 8, h => exact h
  | _ + 9, _ => trivial
 have Hext := Lib.hid hext
 clear hext
 refine wp_region_inv2 (by kernel_rfl) [(31, 0), (32, 1), (33, 2), (34, 3), (35, 4), (36, 5), (37, 6), (38, 7), (39, 8)] [[], [], [], [], [], [], [], [1, 2, 3, 4, 5, 6], [0, 1, 2, 3, 4, 5, 6, 7]] (fun i own ys wx => match i with | 0 => own = .agg (ic R.zs) | 1 => own = .agg #[.int .i64 p.w, .int .i64 p.h, .slice a n c] | 2 => own = .agg #[.int .i64 q.w, .int .i64 q.h, .slice a2 n2 c2] | 3 => own = .int .i64 x | 4 => own = .int .i64 y | 5 => own = .int .i64 qq | 6 => own = .int .i64 top | 7 => own = .agg (ic R.zs) | 8 => own = .bool false | _ => True) (fun kx wx => Ext w5 wx) (by kernel_rfl) (by kernel_rfl) (by kernel_rfl) ?g0_r1 ?gop_r1 ?gend_r1
 case g0_r1 => exact Ext.drewN _ 1
 case gop_r1 =>
  refine ⟨?_, ?_, ?_, ?_, ?_, ?_, ?_, ?_, ?_, trivial⟩
  ·intro kx xs wx hk hG hD hI Qo Kx hK hQo
   clear hD hI
   simp only [patchS, Nat.reduceAdd, Nat.reduceEqDiff, ↓reduceIte] at hQo ⊢
   have rx := (L5.e hG).ib
   go_wp2_with (refine wpList_iload 34 _ rfl rfl rx 0 71 rfl _ Tryd.underlying34 rfl size_Macro (by rw [Hrl.out]; omega) _ (by rw [sub_all _ _ Hrl.out]) ?_)
   exact hK.out _ _ ⟨rfl, hG, fun _ _ _ _ _ _ h => h⟩
  ·intro kx xs wx hk hG hD hI Qo Kx hK hQo
   clear hD hI
   simp only [patchS, Nat.reduceAdd, Nat.reduceEqDiff, ↓reduceIte] at hQo ⊢
   obtain ⟨k0, k1, k2⟩ := PBx.cells (L5.e hG).b1
   go_wp2
   exact hK.out _ _ ⟨rfl, hG, fun _ _ _ _ _ _ h => h⟩
  ·intro kx xs wx hk hG hD hI Qo Kx hK hQo
   clear hD hI
   simp only [patchS, Nat.reduceAdd, Nat.reduceEqDiff, ↓reduceIte] at hQo ⊢
   obtain ⟨k0, k1, k2⟩ := PBx.cells (L5.e hG).b2
   go_wp2
   exact hK.out _ _ ⟨rfl, hG, fun _ _ _ _ _ _ h => h⟩
  ·intro kx xs wx hk hG hD hI Qo Kx hK hQo
   clear hD hI
   simp only [patchS, Nat.reduceAdd, Nat.reduceEqDiff, ↓reduceIte] at hQo ⊢
   go_wp2
   exact hK.out _ _ ⟨rfl, hG, fun _ _ _ _ _ _ h => h⟩
  ·intro kx xs wx hk hG hD hI Qo Kx hK hQo
   clear hD hI
   simp only [patchS, Nat.reduceAdd, Nat.reduceEqDiff, ↓reduceIte] at hQo ⊢
   go_wp2
   exact hK.out _ _ ⟨rfl, hG, fun _ _ _ _ _ _ h => h⟩
  ·intro kx xs wx hk hG hD hI Qo Kx hK hQo
   clear hD hI
   simp only [patchS, Nat.reduceAdd, Nat.reduceEqDiff, ↓reduceIte] at hQo ⊢
   go_wp2
   exact hK.out _ _ ⟨rfl, hG, fun _ _ _ _ _ _ h => h⟩
  ·intro kx xs wx hk hG hD hI Qo Kx hK hQo
   clear hD hI
   simp only [patchS, Nat.reduceAdd, Nat.reduceEqDiff, ↓reduceIte] at hQo ⊢
   go_wp2
   exact hK.out _ _ ⟨rfl, hG, fun _ _ _ _ _ _ h => h⟩
  ·intro kx xs wx hk hG hD hI Qo Kx hK hQo
   have d1 : (xs 1) = .agg #[.int .i64 p.w, .int .i64 p.h, .slice a n c] := hD 1 rfl
   have d2 : (xs 2) = .agg #[.int .i64 q.w, .int .i64 q.h, .slice a2 n2 c2] := hD 2 rfl
   have d3 : (xs 3) = .int .i64 x := hD 3 rfl
   have d4 : (xs 4) = .int .i64 y := hD 4 rfl
   have d5 : (xs 5) = .int .i64 qq := hD 5 rfl
   have d6 : (xs 6) = .int .i64 top := hD 6 rfl
   clear hD hI
   simp only [patchS, Nat.reduceAdd, Nat.reduceEqDiff, ↓reduceIte] at hQo ⊢
   generalize xs 1 = y1 at *
   generalize xs 2 = y2 at *
   generalize xs 3 = y3 at *
   generalize xs 4 = y4 at *
   generalize xs 5 = y5 at *
   generalize xs 6 = y6 at *
   subst d1 d2 d3 d4 d5 d6
   go_wp2_with fail
   refine (HS.out _ (L5.e hG).s1 (L5.e hG).s2).mono ?_
   rintro e wz ⟨rfl, ez⟩
   go_wp2
   exact hK.out _ _ ⟨rfl, hG.trans ez, fun i _ _ _ own ys h => Hext.out i own ys _ _ ez h⟩
  ·intro kx xs wx hk hG hD hI Qo Kx hK hQo
   have d0 : (xs 0) = .agg (ic R.zs) := hD 0 rfl
   have d7 : (xs 7) = .agg (ic R.zs) := hD 7 rfl
   clear hD hI
   simp only [patchS, Nat.reduceAdd, Nat.reduceEqDiff, ↓reduceIte] at hQo ⊢
   generalize xs 0 = y0 at *
   generalize xs 7 = y7 at *
   subst d0 d7
   go_wp2_with (refine wpList_sneq 34 _ _ _ rfl rfl _ _ rfl rfl R.zs R.zs rfl rfl Tryd.underlying34 hpM (eqM Tryd.underlying34) Hrl.out Hrl.out hmM true (by simp) ?_)
   exact hK.out _ _ ⟨rfl, hG, fun _ _ _ _ _ _ h => h⟩
 clear Hext
 intro xs wx hV hG
 have d0 : (xs 0) = .agg (ic R.zs) := hV 0 (by decide)
 have d1 : (xs 1) = .agg #[.int .i64 p.w, .int .i64 p.h, .slice a n c] := hV 1 (by decide)
 have d2 : (xs 2) = .agg #[.int .i64 q.w, .int .i64 q.h, .slice a2 n2 c2] := hV 2 (by decide)
 have d3 : (xs 3) = .int .i64 x := hV 3 (by decide)
 have d4 : (xs 4) = .int .i64 y := hV 4 (by decide)
 have d5 : (xs 5) = .int .i64 qq := hV 5 (by decide)
 have d6 : (xs 6) = .int .i64 top := hV 6 (by decide)
 have d7 : (xs 7) = .agg (ic R.zs) := hV 7 (by decide)
 have d8 : (xs 8) = .bool false := hV 8 (by decide)
 clear hV
 simp only [patchS, Nat.reduceAdd, Nat.reduceEqDiff, ↓reduceIte]
 generalize xs 0 = y0 at *
 generalize xs 1 = y1 at *
 generalize xs 2 = y2 at *
 generalize xs 3 = y3 at *
 generalize xs 4 = y4 at *
 generalize xs 5 = y5 at *
 generalize xs 6 = y6 at *
 generalize xs 7 = y7 at *
 generalize xs 8 = y8 at *
 replace hG : Ext w5 wx := hG
 clear d0 d1 d2 d3 d4 d5 d6 d7
 subst d8
 have L7 := L5.e hG
 clear L5 hG 
 generalize wx = w7 at *
 have hk := L7.ib.cell (i := 0) (by rw [Hrl.out]; omega)
 rw [Mac.zs_kind] at hk
 by_cases ho : okN p q x y qq top
 ·obtain ⟨X, hX⟩ : ∃ X : Nat, x = X := ⟨x.toNat, by have := ho.2.1.2.1; omega⟩
  obtain ⟨Y, hY⟩ : ∃ Y : Nat, y = Y := ⟨y.toNat, by have := ho.2.1.2.2.2.2.1; omega⟩
  subst hX hY
  obtain ⟨hRv, hRk, D, hD, hDv, hDw, hDh, hDB⟩ := intra_plain ho
  rw [← HR.out] at hRv hRk 
  rw [hRk] at hk
  have HV := Lib.hid (fun (w : World) => impl_MacroValid_any R w Hro.out)
  rw [decide_eq_true hRv] at HV
  have Hfo := Lib.hid (intraP_ok p q X Y 0 top)
  have Hfl := Lib.hid (Mac.zs_len (intraP_ok p q X Y 0 top))
  obtain ⟨F, hF⟩ : ∃ F, F = intraP p q X Y 0 top := ⟨_, rfl⟩
  rw [← hF] at HI0 Hfo Hfl hD
  have HRC := Lib.hid (fun (w : World) (hT : TabQ w) (s2 : Sl w a2 n2 (q.px.map (Value.int .i64))) => impl_Reconstruct_any pic0 q X Y F 0 top none a2 0 c2 0 n2 w hT rfl HM1'.out (by omega) (by omega) (Sl.nil _ _) s2 Hfo.out)
  rw [hD] at HRC
  have hpl : placeP p X Y := ho.2.1
  have hp0 : vv 0 0 := ⟨by decide, by decide, by decide, by decide⟩
  obtain ⟨B, hB⟩ : ∃ B, B = blkL p X Y 0 0 := ⟨_, rfl⟩
  have HM1 := Lib.hid (fun (a : Option Addr) (c : Nat) (w : World) (s : Sl w a D.px.length (D.px.map (Value.int .i64))) => MotionBlock_yes D X Y 0 0 a c D.px.length w hDv rfl s hp0 ⟨by omega, by rw [hDw, ← ho.1.2.2.1]; exact hpl.2.2.1, hpl.2.2.2.1, by omega, by rw [hDh, ← ho.1.2.2.2]; exact hpl.2.2.2.2.2.1, hpl.2.2.2.2.2.2⟩)
  have HM2 := Lib.hid (fun (w : World) (s : Sl w a n (p.px.map (Value.int .i64))) => MotionBlock_yes p X Y 0 0 a c n w hpl.1 HN1.out s hp0 ⟨by omega, hpl.2.2.1, hpl.2.2.2.1, by omega, hpl.2.2.2.2.2.1, hpl.2.2.2.2.2.2⟩)
  rw [hDB, ← hB] at HM1
  rw [← hB] at HM2
  clear HS HI HR hD hDv hDw hDh hDB hRv hRk hpl hp0 hB hF ho
  obtain ⟨Zn, hZn⟩ : ∃ Zn, Zn = D.px.length := ⟨_, rfl⟩
  rw [← hZn] at HRC HM1
  clear hZn
  obtain ⟨k0, k1, k2⟩ := PBx.cells L7.b1
  obtain ⟨j0, j1, j2⟩ := PBx.cells L7.b2
  go_wp2_with fail
  refine (HI0.out _ (hT.ext L7.ex) L7.s1 L7.s2).mono ?_
  rintro e w8 ⟨rfl, e8⟩
  have L8 := L7.e e8
  obtain ⟨f, hf⟩ : ∃ f, f = w8.heap.size := ⟨_, rfl⟩
  have Q8 := IB.new w8 34 (zl 71)
  have a8 := Ext.alloc w8 (.cells (ic (zl 71)) 34)
  have L8' := L8.e a8
  have hl1 := lt_of_block L8.b1
  have hl2 := lt_of_block L8.b2
  have hl3 := lt_of_block L8.ib
  have z8 := L8.ex.size
  have y1 := sl_bound L8.s1
  have y2 := sl_bound L8.s2
  clear L7 e8 k0 k1 k2 j0 j1 j2 hk
  go_wp2_with (first | (refine wpList_iallocz 34 rfl rfl 71 zero_Macz ?_; (try simp only [World.size_alloc])) | (refine wpList_istore 34 _ _ rfl rfl Q8 0 71 rfl _ rfl F.zs rfl size_Macro Hfl.out (by simp [zl]) ?_; intro w9 r9 gg; refine Hid.out ?_))
  rw [spl_all (by rw [Hfl.out, zl_len])] at r9
  rw [← hf] at r9 gg hl1 hl2 hl3 z8 y1 y2 ⊢
  have L9 : LS w O p a n c q a2 n2 c2 u R.zs w9 := ⟨Ext.grown L8'.ex gg (fun k hk => by cases hk; exact z8), blk_gr L8'.b1 gg (by simp; omega), blk_gr L8'.b2 gg (by simp; omega), L8'.ib.gr gg (by simp; omega), sl_kept L8'.s1 gg y1, sl_kept L8'.s2 gg y2⟩
  clear L8 L8' Q8 a8 hl1 hl2 hl3 z8 y1 y2 gg hf
  refine Lib.hid ?_
  obtain ⟨j0, j1, j2⟩ := PBx.cells L9.b2
  go_wp2_with (first | (refine wpList_iload 34 _ rfl rfl r9 0 71 rfl _ Tryd.underlying34 rfl size_Macro (by rw [Hfl.out]; omega) _ (by rw [sub_all _ _ Hfl.out]) ?_))
  refine (HRC.out _ (hT.ext L9.ex) L9.s2).mono ?_
  rintro e w10 ⟨a11, c11, rfl, o10, e10⟩
  obtain ⟨U, hU⟩ : ∃ U, U = w10.heap.size := ⟨_, rfl⟩
  have e11 := Ext.alloc w10 (.cells #[.int .i64 D.w, .int .i64 D.h, .slice a11 Zn c11] 25)
  have B11 : PBx (w10.alloc (.cells #[.int .i64 D.w, .int .i64 D.h, .slice a11 Zn c11] 25)) U D a11 Zn c11 := by rw [hU]; exact blk_new _ _
  have L11 := (L9.e e10).e e11
  have s11 := (Sl.of_owns o10).ext e11
  clear L9 e10 e11 o10 r9 j0 j1 j2 
  go_upto_region 11 with fail
  rw [← hU]
  generalize w10.alloc (.cells #[.int .i64 D.w, .int .i64 D.h, .slice a11 Zn c11] 25) = w11 at *
  clear hU
  have hext : ∀ (i : Nat) (own : Value) (ys : Nat → Value) (wa wb : World), Ext wa wb → (match i with | 0 => own = .agg (ic R.zs) | 1 => own = .bool true | 2 => own = .bool true | 3 => own = .agg #[.int .i64 D.w, .int .i64 D.h, .slice a11 Zn c11] | 4 => own = .int .i64 (X : Nat) | 5 => own = .int .i64 (Y : Nat) | 6 => own = .agg #[.int .i64 0, .int .i64 0] | 7 => ∃ (a7 : Option Addr) (c7 : Nat), own = .slice a7 64 c7 ∧ Sl wa a7 64 (B.map (Value.int .i64)) | 8 => own = .agg #[.int .i64 p.w, .int .i64 p.h, .slice a n c] | 9 => own = .int .i64 (X : Nat) | 10 => own = .int .i64 (Y : Nat) | 11 => own = .agg #[.int .i64 0, .int .i64 0] | 12 => ∃ (a7 : Option Addr) (c7 : Nat), own = .slice a7 64 c7 ∧ Sl wa a7 64 (B.map (Value.int .i64)) | 13 => own = .bool true | 14 => own = .bool true | 15 => own = .bool true | _ => True) → (match i with | 0 => own = .agg (ic R.zs) | 1 => own = .bool true | 2 => own = .bool true | 3 => own = .agg #[.int .i64 D.w, .int .i64 D.h, .slice a11 Zn c11] | 4 => own = .int .i64 (X : Nat) | 5 => own = .int .i64 (Y : Nat) | 6 => own = .agg #[.int .i64 0, .int .i64 0] | 7 => ∃ (a7 : Option Addr) (c7 : Nat), own = .slice a7 64 c7 ∧ Sl wb a7 64 (B.map (Value.int .i64)) | 8 => own = .agg #[.int .i64 p.w, .int .i64 p.h, .slice a n c] | 9 => own = .int .i64 (X : Nat) | 10 => own = .int .i64 (Y : Nat) | 11 => own = .agg #[.int .i64 0, .int .i64 0] | 12 => ∃ (a7 : Option Addr) (c7 : Nat), own = .slice a7 64 c7 ∧ Sl wb a7 64 (B.map (Value.int .i64)) | 13 => own = .bool true | 14 => own = .bool true | 15 => own = .bool true | _ => True) := by
   intro i own ys wa wb e h
   match i, h with
   | 0, h => exact h
   | 1, h => exact h
   | 2, h => exact h
   | 3, h => exact h
   | 4, h => exact h
   | 5, h => exact h
   | 6, h => exact h
   | 7, h => obtain ⟨a9, c9, h1, h2⟩ := h; exact ⟨a9, c9, h1, h2.ext e⟩
   | 8, h => exact h
   | 9, h => exact h
   | 10, h => exact h
   | 11, h => exact h
   | 12, h => obtain ⟨a9, c9, h1, h2⟩ := h; exact ⟨a9, c9, h1, h2.ext e⟩
   | 13, h => exact h
   | 14, h => exact h
   | 15, h => exact h
   | _ + 16, _ => trivial
  have Hext := Lib.hid hext
  clear hext
  refine wp_region_inv2 (by kernel_rfl) [(2, 15), (62, 0), (63, 1), (64, 2), (65, 3), (66, 4), (67, 5), (68, 6), (69, 7), (70, 8), (71, 9), (72, 10), (73, 11), (74, 12), (75, 13), (76, 14)] [[], [0], [0, 1], [0, 1, 2], [0, 1, 2], [0, 1, 2], [0, 1, 2], [0, 1, 2, 3, 4, 5, 6], [0, 1, 2], [0, 1, 2], [0, 1, 2], [0, 1, 2], [0, 1, 2, 3, 4, 5, 6, 7, 8, 9, 10, 11], [0, 1, 2, 3, 4, 5, 6, 7, 8, 9, 10, 11, 12], [0, 1, 2, 3, 4, 5, 6, 7, 8, 9, 10, 11, 12, 13], [0, 1, 2, 3, 4, 5, 6, 7, 8, 9, 10, 11, 12, 13, 14]] (fun i own ys wx => match i with | 0 => own = .agg (ic R.zs) | 1 => own = .bool true | 2 => own = .bool true | 3 => own = .agg #[.int .i64 D.w, .int .i64 D.h, .slice a11 Zn c11] | 4 => own = .int .i64 (X : Nat) | 5 => own = .int .i64 (Y : Nat) | 6 => own = .agg #[.int .i64 0, .int .i64 0] | 7 => ∃ (a7 : Option Addr) (c7 : Nat), own = .slice a7 64 c7 ∧ Sl wx a7 64 (B.map (Value.int .i64)) | 8 => own = .agg #[.int .i64 p.w, .int .i64 p.h, .slice a n c] | 9 => own = .int .i64 (X : Nat) | 10 => own = .int .i64 (Y : Nat) | 11 => own = .agg #[.int .i64 0, .int .i64 0] | 12 => ∃ (a7 : Option Addr) (c7 : Nat), own = .slice a7 64 c7 ∧ Sl wx a7 64 (B.map (Value.int .i64)) | 13 => own = .bool true | 14 => own = .bool true | 15 => own = .bool true | _ => True) (fun kx wx => Ext w11 wx) (by kernel_rfl) (by kernel_rfl) (by kernel_rfl) ?g0_r2 ?gop_r2 ?gend_r2
  case g0_r2 => exact Ext.drewN _ 1
  case gop_r2 =>
   refine ⟨?_, ?_, ?_, ?_, ?_, ?_, ?_, ?_, ?_, ?_, ?_, ?_, ?_, ?_, ?_, ?_, trivial⟩
   ·intro kx xs wx hk hG hD hI Qo Kx hK hQo
    clear hD hI
    simp only [patchS, Nat.reduceAdd, Nat.reduceEqDiff, ↓reduceIte] at hQo ⊢
    have rx := (L11.e hG).ib
    go_wp2_with (refine wpList_iload 34 _ rfl rfl rx 0 71 rfl _ Tryd.underlying34 rfl size_Macro (by rw [Hrl.out]; omega) _ (by rw [sub_all _ _ Hrl.out]) ?_)
    exact hK.out _ _ ⟨rfl, hG, fun _ _ _ _ _ _ h => h⟩
   ·intro kx xs wx hk hG hD hI Qo Kx hK hQo
    have d0 : (xs 0) = .agg (ic R.zs) := hD 0 rfl
    clear hD hI
    simp only [patchS, Nat.reduceAdd, Nat.reduceEqDiff, ↓reduceIte] at hQo ⊢
    generalize xs 0 = y0 at *
    subst d0
    go_wp2_with fail
    refine (HV.out _).mono ?_
    rintro e wz ⟨rfl, ez⟩
    go_wp2
    exact hK.out _ _ ⟨rfl, hG.trans ez, fun i _ _ _ own ys h => Hext.out i own ys _ _ ez h⟩
   ·intro kx xs wx hk hG hD hI Qo Kx hK hQo
    have d1 : (xs 1) = .bool true := hD 1 rfl
    clear hD hI
    simp only [patchS, Nat.reduceAdd, Nat.reduceEqDiff, ↓reduceIte] at hQo ⊢
    generalize xs 1 = y1 at *
    subst d1
    go_wp2
    exact hK.out _ _ ⟨rfl, hG, fun _ _ _ _ _ _ h => h⟩
   ·intro kx xs wx hk hG hD hI Qo Kx hK hQo
    have d2 : (xs 2) = .bool true := hD 2 rfl
    clear hD hI
    simp only [patchS, Nat.reduceAdd, Nat.reduceEqDiff, ↓reduceIte] at hQo ⊢
    generalize xs 2 = y2 at *
    subst d2
    obtain ⟨k0, k1, k2⟩ := PBx.cells (PBx.e B11 hG)
    go_wp2
    exact hK.out _ _ ⟨rfl, hG, fun _ _ _ _ _ _ h => h⟩
   ·intro kx xs wx hk hG hD hI Qo Kx hK hQo
    have d2 : (xs 2) = .bool true := hD 2 rfl
    clear hD hI
    simp only [patchS, Nat.reduceAdd, Nat.reduceEqDiff, ↓reduceIte] at hQo ⊢
    generalize xs 2 = y2 at *
    subst d2
    go_wp2
    exact hK.out _ _ ⟨rfl, hG, fun _ _ _ _ _ _ h => h⟩
   ·intro kx xs wx hk hG hD hI Qo Kx hK hQo
    have d2 : (xs 2) = .bool true := hD 2 rfl
    clear hD hI
    simp only [patchS, Nat.reduceAdd, Nat.reduceEqDiff, ↓reduceIte] at hQo ⊢
    generalize xs 2 = y2 at *
    subst d2
    go_wp2
    exact hK.out _ _ ⟨rfl, hG, fun _ _ _ _ _ _ h => h⟩
   ·intro kx xs wx hk hG hD hI Qo Kx hK hQo
    have d2 : (xs 2) = .bool true := hD 2 rfl
    clear hD hI
    simp only [patchS, Nat.reduceAdd, Nat.reduceEqDiff, ↓reduceIte] at hQo ⊢
    generalize xs 2 = y2 at *
    subst d2
    go_wp2
    exact hK.out _ _ ⟨rfl, hG, fun _ _ _ _ _ _ h => h⟩
   ·intro kx xs wx hk hG hD hI Qo Kx hK hQo
    have d3 : (xs 3) = .agg #[.int .i64 D.w, .int .i64 D.h, .slice a11 Zn c11] := hD 3 rfl
    have d4 : (xs 4) = .int .i64 (X : Nat) := hD 4 rfl
    have d5 : (xs 5) = .int .i64 (Y : Nat) := hD 5 rfl
    have d6 : (xs 6) = .agg #[.int .i64 0, .int .i64 0] := hD 6 rfl
    have d2 : (xs 2) = .bool true := hD 2 rfl
    clear hD hI
    simp only [patchS, Nat.reduceAdd, Nat.reduceEqDiff, ↓reduceIte] at hQo ⊢
    generalize xs 3 = y3 at *
    generalize xs 4 = y4 at *
    generalize xs 5 = y5 at *
    generalize xs 6 = y6 at *
    generalize xs 2 = y2 at *
    subst d3 d4 d5 d6 d2
    go_wp2_with fail
    refine (HM1.out a11 c11 _ (s11.ext hG)).mono ?_
    rintro e wz ⟨az, cz, rfl, oz, ez⟩
    go_wp2
    exact hK.out _ _ ⟨⟨az, cz, rfl, Sl.of_owns oz⟩, hG.trans ez, fun i _ _ _ own ys h => Hext.out i own ys _ _ ez h⟩
   ·intro kx xs wx hk hG hD hI Qo Kx hK hQo
    have d2 : (xs 2) = .bool true := hD 2 rfl
    clear hD hI
    simp only [patchS, Nat.reduceAdd, Nat.reduceEqDiff, ↓reduceIte] at hQo ⊢
    generalize xs 2 = y2 at *
    subst d2
    obtain ⟨k0, k1, k2⟩ := PBx.cells (L11.e hG).b1
    go_wp2
    exact hK.out _ _ ⟨rfl, hG, fun _ _ _ _ _ _ h => h⟩
   ·intro kx xs wx hk hG hD hI Qo Kx hK hQo
    have d2 : (xs 2) = .bool true := hD 2 rfl
    clear hD hI
    simp only [patchS, Nat.reduceAdd, Nat.reduceEqDiff, ↓reduceIte] at hQo ⊢
    generalize xs 2 = y2 at *
    subst d2
    go_wp2
    exact hK.out _ _ ⟨rfl, hG, fun _ _ _ _ _ _ h => h⟩
   ·intro kx xs wx hk hG hD hI Qo Kx hK hQo
    have d2 : (xs 2) = .bool true := hD 2 rfl
    clear hD hI
    simp only [patchS, Nat.reduceAdd, Nat.reduceEqDiff, ↓reduceIte] at hQo ⊢
    generalize xs 2 = y2 at *
    subst d2
    go_wp2
    exact hK.out _ _ ⟨rfl, hG, fun _ _ _ _ _ _ h => h⟩
   ·intro kx xs wx hk hG hD hI Qo Kx hK hQo
    have d2 : (xs 2) = .bool true := hD 2 rfl
    clear hD hI
    simp only [patchS, Nat.reduceAdd, Nat.reduceEqDiff, ↓reduceIte] at hQo ⊢
    generalize xs 2 = y2 at *
    subst d2
    go_wp2
    exact hK.out _ _ ⟨rfl, hG, fun _ _ _ _ _ _ h => h⟩
   ·intro kx xs wx hk hG hD hI Qo Kx hK hQo
    have d8 : (xs 8) = .agg #[.int .i64 p.w, .int .i64 p.h, .slice a n c] := hD 8 rfl
    have d9 : (xs 9) = .int .i64 (X : Nat) := hD 9 rfl
    have d10 : (xs 10) = .int .i64 (Y : Nat) := hD 10 rfl
    have d11 : (xs 11) = .agg #[.int .i64 0, .int .i64 0] := hD 11 rfl
    have d2 : (xs 2) = .bool true := hD 2 rfl
    clear hD hI
    simp only [patchS, Nat.reduceAdd, Nat.reduceEqDiff, ↓reduceIte] at hQo ⊢
    generalize xs 8 = y8 at *
    generalize xs 9 = y9 at *
    generalize xs 10 = y10 at *
    generalize xs 11 = y11 at *
    generalize xs 2 = y2 at *
    subst d8 d9 d10 d11 d2
    go_wp2_with fail
    refine (HM2.out _ ((L11.e hG).s1)).mono ?_
    rintro e wz ⟨az, cz, rfl, oz, ez⟩
    go_wp2
    exact hK.out _ _ ⟨⟨az, cz, rfl, Sl.of_owns oz⟩, hG.trans ez, fun i _ _ _ own ys h => Hext.out i own ys _ _ ez h⟩
   ·intro kx xs wx hk hG hD hI Qo Kx hK hQo
    have d7 : ∃ (a7 : Option Addr) (c7 : Nat), (xs 7) = .slice a7 64 c7 ∧ Sl wx a7 64 (B.map (Value.int .i64)) := hD 7 rfl
    have d12 : ∃ (a7 : Option Addr) (c7 : Nat), (xs 12) = .slice a7 64 c7 ∧ Sl wx a7 64 (B.map (Value.int .i64)) := hD 12 rfl
    have d2 : (xs 2) = .bool true := hD 2 rfl
    clear hD hI
    simp only [patchS, Nat.reduceAdd, Nat.reduceEqDiff, ↓reduceIte] at hQo ⊢
    generalize xs 7 = y7 at *
    generalize xs 12 = y12 at *
    generalize xs 2 = y2 at *
    obtain ⟨a7, c7, rfl, o7⟩ := d7
    obtain ⟨a12, c12, rfl, o12⟩ := d12
    subst d2
    go_wp2_with fail
    refine (sameInts_same a7 a12 c7 c12 64 B _ (by omega) o7 o12).mono ?_
    rintro e wz ⟨rfl, ez⟩
    go_wp2
    exact hK.out _ _ ⟨rfl, hG.trans ez, fun i _ _ _ own ys h => Hext.out i own ys _ _ ez h⟩
   ·intro kx xs wx hk hG hD hI Qo Kx hK hQo
    have d2 : (xs 2) = .bool true := hD 2 rfl
    have d13 : (xs 13) = .bool true := hD 13 rfl
    clear hD hI
    simp only [patchS, Nat.reduceAdd, Nat.reduceEqDiff, ↓reduceIte] at hQo ⊢
    generalize xs 2 = y2 at *
    generalize xs 13 = y13 at *
    subst d2 d13
    go_wp2
    exact hK.out _ _ ⟨rfl, hG, fun _ _ _ _ _ _ h => h⟩
   ·intro kx xs wx hk hG hD hI Qo Kx hK hQo
    have d14 : (xs 14) = .bool true := hD 14 rfl
    clear hD hI
    simp only [patchS, Nat.reduceAdd, Nat.reduceEqDiff, ↓reduceIte] at hQo ⊢
    generalize xs 14 = y14 at *
    subst d14
    go_wp2
    exact hK.out _ _ ⟨rfl, hG, fun _ _ _ _ _ _ h => h⟩
  clear Hext
  intro xs wx hV hG
  have d0 : (xs 0) = .agg (ic R.zs) := hV 0 (by decide)
  have d1 : (xs 1) = .bool true := hV 1 (by decide)
  have d2 : (xs 2) = .bool true := hV 2 (by decide)
  have d3 : (xs 3) = .agg #[.int .i64 D.w, .int .i64 D.h, .slice a11 Zn c11] := hV 3 (by decide)
  have d4 : (xs 4) = .int .i64 (X : Nat) := hV 4 (by decide)
  have d5 : (xs 5) = .int .i64 (Y : Nat) := hV 5 (by decide)
  have d6 : (xs 6) = .agg #[.int .i64 0, .int .i64 0] := hV 6 (by decide)
  have d7 : ∃ (a7 : Option Addr) (c7 : Nat), (xs 7) = .slice a7 64 c7 ∧ Sl wx a7 64 (B.map (Value.int .i64)) := hV 7 (by decide)
  have d8 : (xs 8) = .agg #[.int .i64 p.w, .int .i64 p.h, .slice a n c] := hV 8 (by decide)
  have d9 : (xs 9) = .int .i64 (X : Nat) := hV 9 (by decide)
  have d10 : (xs 10) = .int .i64 (Y : Nat) := hV 10 (by decide)
  have d11 : (xs 11) = .agg #[.int .i64 0, .int .i64 0] := hV 11 (by decide)
  have d12 : ∃ (a7 : Option Addr) (c7 : Nat), (xs 12) = .slice a7 64 c7 ∧ Sl wx a7 64 (B.map (Value.int .i64)) := hV 12 (by decide)
  have d13 : (xs 13) = .bool true := hV 13 (by decide)
  have d14 : (xs 14) = .bool true := hV 14 (by decide)
  have d15 : (xs 15) = .bool true := hV 15 (by decide)
  clear hV
  simp only [patchS, Nat.reduceAdd, Nat.reduceEqDiff, ↓reduceIte]
  generalize xs 0 = y0 at *
  generalize xs 1 = y1 at *
  generalize xs 2 = y2 at *
  generalize xs 3 = y3 at *
  generalize xs 4 = y4 at *
  generalize xs 5 = y5 at *
  generalize xs 6 = y6 at *
  generalize xs 7 = y7 at *
  generalize xs 8 = y8 at *
  generalize xs 9 = y9 at *
  generalize xs 10 = y10 at *
  generalize xs 11 = y11 at *
  generalize xs 12 = y12 at *
  generalize xs 13 = y13 at *
  generalize xs 14 = y14 at *
  generalize xs 15 = y15 at *
  replace hG : Ext w11 wx := hG
  clear d0 d1 d2 d3 d4 d5 d6 d7 d8 d9 d10 d11 d12 d13 d14
  subst d15
  go_wp2
  go_ret
  exact ⟨rfl, L11.ex.trans hG⟩
 ·have hx := HR.out
  rw [intraP_no ho] at hx
  subst hx
  have HZ := Lib.hid (show mac0.zs = zl 71 from mac0_zU)
  clear ho HI HI0 HS HR
  have r8 := L7.ib
  go_wp2_with (first | (refine wpList_iload 34 _ rfl rfl r8 0 71 rfl _ Tryd.underlying34 rfl size_Macro (by rw [Hrl.out]; omega) _ (by rw [sub_all _ _ Hrl.out]) ?_) | (refine wpList_seql 34 _ _ _ rfl rfl _ _ rfl rfl mac0.zs (zl 71) rfl zeroc_M2 Tryd.underlying34 hpM (eqM Tryd.underlying34) Hrl.out (zl_len 71) hmM true (by rw [HZ.out]; simp) ?_))
  refine (alive_any _).mono ?_
  rintro e w9 ⟨rfl, e9⟩
  go_wp2
  go_ret
  exact ⟨rfl, L7.ex.trans e9⟩
end Go.Proofs.YtbnhaegidfbgbaaDoor
namespace Go.Proofs.YtbnhaegidfbgbaaDoor
open Go.RowKit Go.ChangeShapes Go.WideShapes
section
variable {H : Type} {enc : TypeId × Value → H} {P : Program} {w : World}
/-- The cells cs read as a value of type t. -/
def Cells (enc : TypeId × Value → H) (P : Program) (w : World) (t : TypeId) (cs : List Value) : Prop :=
 ∃ fuel x, DataW.trod enc P w 0 (fun _ => true) true fuel t cs = some x
theorem Cells.of_trod {t : TypeId} {v : Value} {d : DataW H} {ps : List MemPlace} (h : DataW.Trod enc P w 0 (fun _ => true) true t v d ps) : Cells enc P w t v.cells.toList := by
 obtain ⟨fuel, hf⟩ := h
 exact ⟨fuel, _, hf⟩
theorem Cells.int {t : TypeId} {k : IntKind} {cs : List Value} (h : Cells enc P w t cs) (ht : P.underlying t = some (.int k)) : ∃ n, cs = [.int k n] ∧ (Lit.int k n).wf = true := by
 obtain ⟨fuel, x, hf⟩ := h
 obtain ⟨n, h1, -, h2⟩ := DataW.trod_int ht hf
 exact ⟨n, h1, h2⟩
theorem Cells.bool {t : TypeId} {cs : List Value} (h : Cells enc P w t cs) (ht : P.underlying t = some .bool) : ∃ b, cs = [.bool b] := by
 obtain ⟨fuel, x, hf⟩ := h
 obtain ⟨n, h1, -⟩ := DataW.trod_bool ht hf
 exact ⟨n, h1⟩
theorem add_add (a : Addr) (i j : Nat) : a.add (i + j) = (a.add i).add j := by
 unfold Addr.add
 by_cases h1 : i = 0
 ·subst h1; simp
 ·by_cases h2 : j = 0
  ·subst h2; simp
  ·simp [h1, h2, Nat.add_assoc]
/-- A slice whose elements have c cells each: cell j of element i. -/
theorem Cells.slice {t e : TypeId} {c : Nat} {cs : List Value} (h : Cells enc P w t cs) (ht : P.underlying t = some (.slice e)) (hc : P.cellsOf e = c) :
 ∃ a n cap, cs = [.slice a n cap] ∧ (n ≤ cap ∧ cap ≤ maxLen) ∧ ∀ i, i < n → ∃ x es, a = some x ∧ es.length = c ∧ (∀ j, j < c → w.cell? (x.add (i * c + j)) = es[j]?) ∧ Cells enc P w e es := by
 subst hc
 obtain ⟨fuel, x, hf⟩ := h
 rcases Deep.open_slice ht hf with ⟨rfl, -⟩ | ⟨a, len, cap, m, n, D, Pl, rfl, -, hl, hm, hmm, -, hx⟩
 ·exact ⟨none, 0, 0, rfl, ⟨by omega, by simp⟩, fun i hi => by omega⟩
 ·refine ⟨some a, len, cap, rfl, ⟨hl, hm⟩, fun i hi => ?_⟩
  obtain ⟨cs', h1, h2⟩ := hx i (by simp at hmm; omega)
  obtain ⟨-, hlen, hcell⟩ := World.cells?_some h1
  refine ⟨a, cs', rfl, hlen, fun j hj => ?_, ⟨n, _, h2⟩⟩
  have := hcell j hj
  rw [← this, add_add]
theorem Cells.struct {t : TypeId} {fs : Array Field} {cs : List Value} (h : Cells enc P w t cs) (ht : P.underlying t = some (.struct fs)) :
 cs.length = P.cellsOf t ∧ ∀ (i : Nat) (f : Field), fs[i]? = some f → Cells enc P w f.type ((cs.drop f.offset).take (P.cellsOf f.type)) := by
 obtain ⟨fuel, x, hf⟩ := h
 obtain ⟨xs, n, -, -, h1, h2, h3⟩ := DataW.trod_struct ht hf
 refine ⟨h1, fun i f hi => ?_⟩
 have h4 := h3 i f hi
 have hl : i < xs.length := by
  rw [h2]
  exact (Array.getElem?_eq_some_iff.1 hi).1
 exact ⟨n, xs[i], by rw [h4]; simp [hl]⟩
theorem Cells.array {t e : TypeId} {n : Nat} {cs : List Value} (h : Cells enc P w t cs) (ht : P.underlying t = some (.array n e)) :
 cs.length = P.cellsOf t ∧ ∀ i, i < n → Cells enc P w e ((cs.drop (i * P.cellsOf e)).take (P.cellsOf e)) := by
 obtain ⟨fuel, x, hf⟩ := h
 cases fuel with
 | zero => simp [DataW.trod] at hf
 | succ m =>
  unfold DataW.trod at hf
  rw [ht] at hf
  split at hf <;> simp_all
  obtain ⟨hl, xs, hp, hd⟩ := hf
  intro i hi
  have h4 := mapM_some_get hp i i (by simp [hi])
  have hl : i < xs.length := by rw [mapM_some_length hp]; simpa using hi
  exact ⟨m, xs[i], by rw [h4]; simp [hl]⟩
theorem Sl.of_add {a : Addr} {n : Nat} {xs : List Value} (hl : xs.length = n) (h : ∀ i, i < n → w.cell? (a.add i) = some (xs.getD i undef)) : Sl w (some a) n xs := by
 refine ⟨hl, fun i hi => ?_⟩
 obtain ⟨b, off, spot⟩ := a
 have hc := h 0 (by omega)
 have hs : spot = none := by simpa [Addr.add] using World.cell?_spot hc
 subst hs
 exact ⟨b, off, rfl, by rw [← h i hi, Addr.add_lit]⟩
/-- A list out of a choice for each index. -/
theorem list_of {α : Type} (n : Nat) (p : Nat → α → Prop) (h : ∀ i, i < n → ∃ y, p i y) : ∃ ys : List α, ys.length = n ∧ ∀ i (hi : i < ys.length), p i ys[i] := by
 induction n with
 | zero => exact ⟨[], rfl, fun i hi => by simp at hi⟩
 | succ n ih =>
  obtain ⟨ys, hl, hy⟩ := ih (fun i hi => h i (by omega))
  obtain ⟨y, hp⟩ := h n (by omega)
  refine ⟨ys ++ [y], by simp [hl], fun i hi => ?_⟩
  by_cases h1 : i < ys.length
  ·rw [List.getElem_append_left h1]; exact hy i h1
  ·have : i = n := by simp at hi; omega
   subst this
   rw [List.getElem_append_right (by omega)]
   simpa [hl] using hp
/-- A slice of one-cell elements. -/
theorem Cells.slice1 {t e : TypeId} {cs : List Value} (h : Cells enc P w t cs) (ht : P.underlying t = some (.slice e)) (hc : P.cellsOf e = 1) :
 ∃ a n cap xs, cs = [.slice a n cap] ∧ (n ≤ cap ∧ cap ≤ maxLen) ∧ Sl w a n xs ∧ ∀ x ∈ xs, Cells enc P w e [x] := by
 obtain ⟨a, n, cap, rfl, hn, hx⟩ := h.slice ht hc
 obtain ⟨ys, hl, hy⟩ := list_of (α := Value) n (fun i y => (∃ x, a = some x ∧ w.cell? (x.add i) = some y) ∧ Cells enc P w e [y]) (fun i hi => by
  obtain ⟨x, es, ha, h1, h2, h3⟩ := hx i hi
  match es, h1 with
  | [y], _ => exact ⟨y, ⟨x, ha, by simpa using h2 0 (by omega)⟩, h3⟩)
 refine ⟨a, n, cap, ys, rfl, hn, ?_, ?_⟩
 ·cases a with
  | none =>
   refine ⟨hl, fun i hi => ?_⟩
   obtain ⟨⟨x, hx, -⟩, -⟩ := hy i (by omega)
   simp at hx
  | some a =>
   refine Sl.of_add hl fun i hi => ?_
   obtain ⟨⟨x, hx, hc⟩, -⟩ := hy i (by omega)
   simp only [Option.some.injEq] at hx
   subst hx
   rw [hc]
   simp [show i < ys.length by omega]
 ·intro x hx
  obtain ⟨i, hi, rfl⟩ := List.getElem_of_mem hx
  exact (hy i hi).2
theorem map_of {α : Type} (C : α → Value) (p : α → Prop) (xs : List Value) (h : ∀ x ∈ xs, ∃ z, x = C z ∧ p z) : ∃ zs : List α, xs = zs.map C ∧ ∀ z ∈ zs, p z := by
 induction xs with
 | nil => exact ⟨[], rfl, fun z hz => by simp at hz⟩
 | cons x xs ih =>
  obtain ⟨zs, rfl, hz⟩ := ih (fun y hy => h y (by simp [hy]))
  obtain ⟨z, rfl, hp⟩ := h x (by simp)
  refine ⟨z :: zs, rfl, fun y hy => ?_⟩
  rcases List.mem_cons.1 hy with rfl | hy
  ·exact hp
  ·exact hz y hy
theorem Cells.slice_int {t e : TypeId} {k : IntKind} {cs : List Value} (h : Cells enc P w t cs) (ht : P.underlying t = some (.slice e)) (he : P.underlying e = some (.int k)) (hc : P.cellsOf e = 1) :
 ∃ (a : Option Addr) (n cap : Nat) (zs : List Int), cs = [.slice a n cap] ∧ (n ≤ cap ∧ cap ≤ maxLen) ∧ Sl w a n (zs.map (Value.int k)) ∧ ∀ z ∈ zs, (Lit.int k z).wf = true := by
 obtain ⟨a, n, cap, xs, rfl, hn, s, hx⟩ := h.slice1 ht hc
 obtain ⟨zs, rfl, hz⟩ := map_of (Value.int k) (fun z => (Lit.int k z).wf = true) xs (fun x hx' => by
  obtain ⟨z, h1, h2⟩ := (hx x hx').int he
  exact ⟨z, by simpa using h1, h2⟩)
 exact ⟨a, n, cap, zs, rfl, hn, s, hz⟩
theorem Cells.slice_bool {t e : TypeId} {cs : List Value} (h : Cells enc P w t cs) (ht : P.underlying t = some (.slice e)) (he : P.underlying e = some .bool) (hc : P.cellsOf e = 1) :
 ∃ (a : Option Addr) (n cap : Nat) (zs : List Bool), cs = [.slice a n cap] ∧ (n ≤ cap ∧ cap ≤ maxLen) ∧ Sl w a n (zs.map Value.bool) := by
 obtain ⟨a, n, cap, xs, rfl, hn, s, hx⟩ := h.slice1 ht hc
 obtain ⟨zs, rfl, -⟩ := map_of Value.bool (fun _ => True) xs (fun x hx' => by
  obtain ⟨z, h1⟩ := (hx x hx').bool he
  exact ⟨z, by simpa using h1, trivial⟩)
 exact ⟨a, n, cap, zs, rfl, hn, s⟩
theorem open_sl_int {t e : TypeId} {k : IntKind} {v : Value} {d : DataW H} {ps : List MemPlace} (ht : P.underlying t = some (.slice e)) (he : P.underlying e = some (.int k)) (hc : P.cellsOf e = 1)
 (hv : ∃ a len cap, v = .slice a len cap) (h : DataW.Trod enc P w 0 (fun _ => true) true t v d ps) :
 ∃ (a : Option Addr) (n c : Nat) (zs : List Int), v = .slice a n c ∧ Sl w a n (zs.map (Value.int k)) ∧ (n ≤ c ∧ c ≤ maxLen) ∧ ∀ z ∈ zs, (Lit.int k z).wf = true := by
 obtain ⟨a, n, c, rfl⟩ := hv
 obtain ⟨a', n', c', zs, h1, h2, h3, h4⟩ := (Cells.of_trod h).slice_int ht he hc
 simp [Value.cells] at h1
 obtain ⟨rfl, rfl, rfl⟩ := h1
 exact ⟨a, n, c, zs, rfl, h3, h2, h4⟩
theorem open_sl_bool {t e : TypeId} {v : Value} {d : DataW H} {ps : List MemPlace} (ht : P.underlying t = some (.slice e)) (he : P.underlying e = some .bool) (hc : P.cellsOf e = 1)
 (hv : ∃ a len cap, v = .slice a len cap) (h : DataW.Trod enc P w 0 (fun _ => true) true t v d ps) :
 ∃ (a : Option Addr) (n c : Nat) (zs : List Bool), v = .slice a n c ∧ Sl w a n (zs.map Value.bool) ∧ (n ≤ c ∧ c ≤ maxLen) := by
 obtain ⟨a, n, c, rfl⟩ := hv
 obtain ⟨a', n', c', zs, h1, h2, h3⟩ := (Cells.of_trod h).slice_bool ht he hc
 simp [Value.cells] at h1
 obtain ⟨rfl, rfl, rfl⟩ := h1
 exact ⟨a, n, c, zs, rfl, h3, h2⟩
end
end Go.Proofs.YtbnhaegidfbgbaaDoor
