/- Decoding of a block, the reference's coding, differences of blocks. | Blocks out of pictures and of macroblocks; blocks put into pictures: both sides. | A block put into a picture: both sides. | The samples around a block, in memory; whole blocks stored. -/
import Derived.Test.YtbnhaegidfbgbaaGreatDoorQn4
import Derived.Laws.Rows
set_option linter.unusedVariables false
set_option linter.unusedSimpArgs false
namespace Go.Proofs.YtbnhaegidfbgbaaGreatDoor
open Go.RowKit
set_option maxHeartbeats 1000000
theorem ifT {α : Type} (x y : α) : (if true = true then x else y) = x := rfl
theorem ifF {α : Type} (x y : α) : (if false = true then x else y) = y := rfl
set_option maxRecDepth 100000 in
theorem DecodeBlock_any (zs : List Int) (q : Nat) (w : World) (hT : TabQ w) (hl : zs.length = 16) (hb : inB 4080 zs = true) (hq : q < 16) :
 Calls Tryz.prog 79 #[.agg (ic zs), .int .i64 q] w fun e w' => e = .returned (.agg (ic (dec zs q))) ∧ Ext w w' := by
 have Hbd := Lib.hid (fun k (hk : k < 16) => inB_iff.1 hb k (by omega))
 have Hnd := Lib.hid (fun k (hk : k < 16) => nth_map_dq zs q (k := k) (by omega))
 have HD := Lib.hid (show (zs.map (fun x => dq x q)).length = 16 by simp [hl])
 have HDr := Lib.hid (dqs_rng zs q)
 have Hde := Lib.hid (show dec zs q = ihad (zs.map (fun x => dq x q)) from rfl)
 obtain ⟨D, hD⟩ : ∃ D, D = zs.map (fun x => dq x q) := ⟨_, rfl⟩
 rw [← hD] at Hnd HD HDr Hde
 have Hl := Lib.hid hl
 have HW := Lib.hid hb
 have HT := Lib.hid hT
 clear hl hb hT hD
 have a2 := Ext.alloc (w.alloc (.cells (ic zs) 29)) (.cells (ic (List.replicate 16 0)) 29)
 have p0 := (IB.new w 29 zs).ext a2
 have p1 := IB.new (w.alloc (.cells (ic zs) 29)) 29 (List.replicate 16 0)
 have E1 := (Ext.alloc w (.cells (ic zs) 29)).trans a2
 simp only [World.size_alloc] at p1
 clear a2
 go_enter Tryz.func79, Tryz.ntmps79
 go_wp2_with fail
 obtain ⟨B, hB⟩ : ∃ B, B = w.heap.size := ⟨_, rfl⟩
 rw [← hB] at p0 p1 ⊢
 have hwB : w.heap.size ≤ B := by omega
 have HB0 := Lib.hid hB
 clear hB
 refine (qualityValid_in _ _ (by omega) (by omega)).mono ?_
 rintro e w0 ⟨rfl, rfl⟩
 go_wp2_with (refine wpList_iload 29 _ rfl rfl p0 0 16 rfl _ Tryz.underlying29 rfl size_A16 (by rw [Hl.out]; omega) _ (by rw [sub_all _ _ (Hl.out)]) ?_)
 refine (impl_blockWithin_any zs 4080 _ Hl.out (by omega) (by omega)).mono ?_
 rw [HW.out]
 rintro e w0 ⟨rfl, e0⟩
 have q0 := p0.ext e0
 have q1 := p1.ext e0
 have E3 := E1.trans e0
 clear p0 p1 E1 e0
 go_wp2_with (refine wpList_iload 29 _ rfl rfl q0 0 16 rfl _ Tryz.underlying29 rfl size_A16 (by rw [Hl.out]; omega) _ (by rw [sub_all _ _ (Hl.out)]) ?_)
 go_loopw [17] (fun i wr => ∃ k : Nat, k ≤ 16 ∧ i = .int .i64 k ∧ Ext w wr ∧ IB wr B 29 (mixI D zs k) ∧ IB wr (B + 1) 29 (List.replicate 16 0)) (fun i _ => 16 - (intOf i).toNat)
 case atStart => exact ⟨0, by omega, rfl, E3, by rw [mixI_zero]; exact q0, q1⟩
 case round =>
  obtain ⟨k, hk, rfl, E4, r0, r1⟩ := hrel
  clear q0 q1 E3
  by_cases hlt : k < 16
  ·have hd : decide ((k : Int) < 16) = true := by simp; omega
   have hbk := Hbd.out k hlt
   have hset := mixI_set D zs k 16 HD.out Hl.out hlt
   rw [Hnd.out k hlt] at hset
   have Hset := Lib.hid hset
   have c0 := r0.cell (i := k) (by rw [mixI_len _ _ _ 16 HD.out Hl.out]; exact hlt)
   have f0 := r0.frozen k
   clear hset
   go_wp2_with (refine wpList_iindex _ _ _ rfl rfl zs rfl k 16 _ rfl rfl _ Tryz.underlying29 Tryz.underlying3 size_int hlt Hl.out ?_)
   refine (impl_Dequantize_in (nth zs k) q _ (HT.out.ext E4) hbk.1 hbk.2 hq).mono ?_
   rintro e w3 ⟨rfl, rfl⟩
   go_wp2
   go_roundw
   case rel => exact ⟨k + 1, by omega, by go_num, Ext.grown E4 (gr_set _ _ _ _) (fun q hq => by cases hq; omega), by rw [← Hset.out]; exact r0.set k _, r1.set_other (by omega)⟩
   case measure => simp [intOf]; omega
  ·obtain rfl : k = 16 := by omega
   rw [mixI_all _ _ 16 HD.out Hl.out] at r0
   go_wp2_with (refine wpList_iload 29 _ rfl rfl r0 0 16 rfl _ Tryz.underlying29 rfl size_A16 (by rw [HD.out]; omega) _ (by rw [sub_all _ _ (HD.out)]) ?_)
   refine (InverseTransform_any D _ HD.out HDr.out).mono ?_
   rintro e w5 ⟨rfl, e5⟩
   have s1 := r1.ext e5
   have E5 := E4.trans e5
   have HI := Lib.hid (ihad_len D)
   clear r0 r1 E4 e5
   go_wp2_with (refine wpList_istore 29 _ _ rfl rfl s1 0 16 rfl _ rfl _ rfl size_A16 (HI.out) (by simp) ?_; intro w6 p6 g6; refine Hid.out ?_)
   rw [spl_all (by rw [HI.out]; simp)] at p6
   have E6 : Ext w w6 := Ext.grown E5 g6 (fun q hq => by cases hq; omega)
   refine Lib.hid ?_
   go_wp2
   exact bodyPost_ret (v := .agg (ic (dec zs q))) (results_cell_row rfl _ _ (B + 1) 29 (ic (dec zs q)) (0, 0) _ rfl (by rw [Hde.out]; exact p6) Tryz.underlying29 rfl (by rw [ic_size, dec_len]; exact size_A16)) rfl ⟨rfl, E6⟩
set_option maxRecDepth 100000 in
theorem l4Decode_any (zs : List Int) (q : Nat) (w : World) (hl : zs.length = 16) (hb : inB 4080 zs = true) (hq : q < 16) :
 Calls Tryz.prog 143 #[.agg (ic zs), .int .i64 q] w fun e w' => e = .returned (.agg (ic (dec zs q))) ∧ Ext w w' := by
 have Hbd := Lib.hid (fun k (hk : k < 16) => inB_iff.1 hb k (by omega))
 have Hnd := Lib.hid (fun k (hk : k < 16) => nth_map_dq zs q (k := k) (by omega))
 have HD := Lib.hid (show (zs.map (fun x => dq x q)).length = 16 by simp [hl])
 have HDr := Lib.hid (inB_bdA (M := 1048576) (by omega) (dqs_rng zs q) (by omega))
 have Hde := Lib.hid (show dec zs q = ihad (zs.map (fun x => dq x q)) from rfl)
 obtain ⟨D, hD⟩ : ∃ D, D = zs.map (fun x => dq x q) := ⟨_, rfl⟩
 rw [← hD] at Hnd HD HDr Hde
 have Hl := Lib.hid hl
 have Hz := Lib.hid (show (List.replicate 16 (0 : Int)).length = 16 by simp)
 have hs := stp_rng hq
 have HQ := Lib.hid (fun w => spec_QuantStep_in q w hq)
 have Hdq := Lib.hid (fun l => show dq l q = clipI (l * stp q) (-4080) 4080 from rfl)
 generalize stp q = s at *
 clear hl hb hD
 have a2 := Ext.alloc (w.alloc (.cells (ic zs) 29)) (.cells (ic (List.replicate 16 0)) 29)
 have a3 := Ext.alloc ((w.alloc (.cells (ic zs) 29)).alloc (.cells (ic (List.replicate 16 0)) 29)) (.cells (ic (List.replicate 16 0)) 29)
 have p0 := ((IB.new w 29 zs).ext a2).ext a3
 have p1 := (IB.new (w.alloc (.cells (ic zs) 29)) 29 (List.replicate 16 0)).ext a3
 have p2 := IB.new ((w.alloc (.cells (ic zs) 29)).alloc (.cells (ic (List.replicate 16 0)) 29)) 29 (List.replicate 16 0)
 have E1 := ((Ext.alloc w (.cells (ic zs) 29)).trans a2).trans a3
 simp only [World.size_alloc] at p1 p2
 clear a2 a3
 go_enter Tryz.func143, Tryz.ntmps143
 go_wp2_with fail
 try simp only [World.size_alloc]
 obtain ⟨B, hB⟩ : ∃ B, B = w.heap.size := ⟨_, rfl⟩
 rw [← hB] at p0 p1 p2 ⊢
 have hwB : w.heap.size ≤ B := by omega
 have HB0 := Lib.hid hB
 clear hB
 go_loopw [6] (fun i wr => ∃ k : Nat, k ≤ 16 ∧ i = .int .i64 k ∧ Ext w wr ∧ IB wr B 29 zs ∧ IB wr (B + 1) 29 (List.replicate 16 0) ∧ IB wr (B + 1 + 1) 29 (mixI D (List.replicate 16 0) k)) (fun i _ => 16 - (intOf i).toNat)
 case atStart => exact ⟨0, by omega, rfl, E1, p0, p1, by rw [mixI_zero]; exact p2⟩
 case round =>
  obtain ⟨k, hk, rfl, E4, r0, r1, r2⟩ := hrel
  clear p0 p1 p2 E1
  by_cases hlt : k < 16
  ·have hd : decide ((k : Int) < 16) = true := by simp; omega
   have hbk := Hbd.out k hlt
   have hset := mixI_set D (List.replicate 16 0) k 16 HD.out Hz.out hlt
   rw [Hnd.out k hlt, Hdq.out] at hset
   have Hset := Lib.hid hset
   have c0 := Lib.hid (fun (wx : World) (h : IB wx B 29 zs) => h.cell (i := k) (by rw [Hl.out]; exact hlt))
   clear hset
   generalize nth zs k = z at *
   have hm := mul_bnd hbk.1 hbk.2 hs.1 hs.2
   obtain ⟨v, hv⟩ : ∃ v, v = clipI (z * s) (-4080) 4080 := ⟨_, rfl⟩
   rw [← hv] at Hset
   have HV := Lib.hid hv
   clear hv
   have HM := Lib.hid (fun (k : Nat) (hk : k ≤ 16) => mixI_len D (List.replicate 16 0) k 16 HD.out Hz.out)
   have G0 : Ext w wr ∧ IB wr B 29 zs ∧ IB wr (B + 1) 29 (List.replicate 16 0) ∧ IB wr (B + 1 + 1) 29 (mixI D (List.replicate 16 0) k) := ⟨E4, r0, r1, r2⟩
   clear E4 r0 r1 r2
   go_wp2_with fail
   refine wp_region_invL (by kernel_rfl) [(12, 0), (13, 1), (14, 2), (15, 3), (16, 4), (17, 5), (18, 6), (19, 7), (20, 8)] [[], [], [1], [1, 2], [], [4], [1, 2, 3, 4, 5], [1, 2, 3, 4, 5, 6], [0, 1, 2, 3, 4, 5, 6, 7], [0, 1, 2, 3, 4, 5, 6, 7, 8]] (fun i own ys wx => match i with | 0 => own = .int .i64 (k : Nat) | 1 => own = .int .i64 (k : Nat) | 2 => own = .pointer (some ⟨B, k, none⟩) | 3 => own = .int .i64 z | 4 => own = .int .i64 (q : Nat) | 5 => own = .int .i64 s | 6 => own = .int .i64 (z * s) | 7 => own = .int .i64 v | 8 => own = .pointer (some ⟨B + 1 + 1, k, none⟩) | 9 => True | _ => True) (fun Lx wx => Ext w wx ∧ IB wx B 29 zs ∧ IB wx (B + 1) 29 (List.replicate 16 0) ∧ IB wx (B + 1 + 1) 29 (if Lx 9 = true then mixI D (List.replicate 16 0) (k + 1) else mixI D (List.replicate 16 0) k)) (by kernel_rfl) (by kernel_rfl) (by kernel_rfl) ?g0_r1 ?gop_r1 ?gend_r1
   case g0_r1 => exact ⟨Ext.trans_drewN G0.1 1, G0.2.1.drewN 1, G0.2.2.1.drewN 1, G0.2.2.2.drewN 1⟩
   case gop_r1 =>
    refine ⟨?_, ?_, ?o2, ?o3, ?_, ?o5, ?o6, ?o7, ?o8, ?o9, trivial⟩ <;> (intro Lx xs wx hG hl ha hb hD hI Qo Kx hK hQo; simp only [patchS, Nat.reduceAdd, Nat.reduceEqDiff, ↓reduceIte] at hQo ⊢)
    case o2 =>
     have l9 : Lx 9 = false := hb 9 rfl
     clear hl ha hb
     have d1 : _ = _ := hD 1 rfl
     clear hD hI
     generalize xs 1 = y1 at *
     subst d1
     go_wp2
     exact hK.out _ _ ⟨rfl, hG, fun _ _ _ _ _ _ h => h⟩
    case o3 =>
     have l9 : Lx 9 = false := hb 9 rfl
     clear hl ha hb
     have d2 : _ = _ := hD 2 rfl
     clear hD hI
     generalize xs 2 = y2 at *
     subst d2
     have cx := c0.out wx hG.2.1
     go_wp2
     exact hK.out _ _ ⟨rfl, hG, fun _ _ _ _ _ _ h => h⟩
    case o5 =>
     have l9 : Lx 9 = false := hb 9 rfl
     clear hl ha hb
     have d4 : _ = _ := hD 4 rfl
     clear hD hI
     generalize xs 4 = y4 at *
     subst d4
     go_wp2_with fail
     refine (HQ.out _).mono ?_
     rintro e w9 ⟨rfl, e9⟩
     go_wp2
     exact hK.out _ _ ⟨rfl, ⟨hG.1.trans e9, hG.2.1.ext e9, hG.2.2.1.ext e9, hG.2.2.2.ext e9⟩, fun _ _ _ _ _ _ h => h⟩
    case o6 =>
     have l9 : Lx 9 = false := hb 9 rfl
     clear hl ha hb
     have d3 : _ = _ := hD 3 rfl
     have d5 : _ = _ := hD 5 rfl
     clear hD hI
     generalize xs 3 = y3 at *
     generalize xs 5 = y5 at *
     subst d3 d5
     go_wp2
     exact hK.out _ _ ⟨rfl, hG, fun _ _ _ _ _ _ h => h⟩
    case o7 =>
     have l9 : Lx 9 = false := hb 9 rfl
     clear hl ha hb
     have d6 : _ = _ := hD 6 rfl
     clear hD hI
     generalize xs 6 = y6 at *
     subst d6
     go_wp2_with fail
     refine (l1Clip_any _ _ _ _).mono ?_
     rintro e w9 ⟨rfl, rfl⟩
     rw [← HV.out]
     go_wp2
     exact hK.out _ _ ⟨rfl, hG, fun _ _ _ _ _ _ h => h⟩
    case o8 =>
     have l9 : Lx 9 = false := hb 9 rfl
     clear hl ha hb
     have d0 : _ = _ := hD 0 rfl
     clear hD hI
     generalize xs 0 = y0 at *
     subst d0
     go_wp2
     exact hK.out _ _ ⟨rfl, hG, fun _ _ _ _ _ _ h => h⟩
    case o9 =>
     have l9 : Lx 9 = false := hl
     clear hl ha hb
     have d7 : _ = _ := hD 7 rfl
     have d8 : _ = _ := hD 8 rfl
     clear hD hI
     generalize xs 7 = y7 at *
     generalize xs 8 = y8 at *
     subst d7 d8
     rw [l9, ifF] at hG
     have cx := hG.2.2.2.cell (i := k) (by rw [HM.out k hk]; exact hlt)
     have fx := hG.2.2.2.frozen k
     have s2 := hG.2.2.2.set k v
     rw [Hset.out] at s2
     have gE := Ext.grown hG.1 (gr_set _ (B + 1 + 1) k (.int .i64 v)) (fun q hq => by cases hq; omega)
     have g0' := hG.2.1.set_other (c := B + 1 + 1) (i := k) (v := .int .i64 v) (by omega)
     have g1' := hG.2.2.1.set_other (c := B + 1 + 1) (i := k) (v := .int .i64 v) (by omega)
     go_wp2
     exact hQo undef _ (hK.out _ _ ⟨trivial, ⟨gE, g0', g1', s2⟩, fun _ _ _ _ _ _ h => h⟩)
    all_goals
     have l9 : Lx 9 = false := hb 9 rfl
     clear hl ha hb hD hI
     go_wp2
     exact hK.out _ _ ⟨rfl, hG, fun _ _ _ _ _ _ h => h⟩
   intro xs wx hV hG0
   obtain ⟨Lx, hL, hG⟩ := hG0
   have l9 : Lx 9 = true := hL 9 (by decide)
   clear hL hV
   simp only [patchS, Nat.reduceAdd, Nat.reduceEqDiff, ↓reduceIte]
   generalize xs 0 = y0 at *
   generalize xs 1 = y1 at *
   generalize xs 2 = y2 at *
   generalize xs 3 = y3 at *
   generalize xs 4 = y4 at *
   generalize xs 5 = y5 at *
   generalize xs 6 = y6 at *
   generalize xs 7 = y7 at *
   generalize xs 8 = y8 at *
   generalize xs 9 = y9 at *
   replace hG : Ext w wx ∧ IB wx B 29 zs ∧ IB wx (B + 1) 29 (List.replicate 16 0) ∧ IB wx (B + 1 + 1) 29 (if Lx 9 = true then mixI D (List.replicate 16 0) (k + 1) else mixI D (List.replicate 16 0) k) := hG
   rw [l9, ifT] at hG
   clear G0 c0
   obtain ⟨E5, s0, s1, s2⟩ := hG
   go_wp2
   go_roundw
   case rel => exact ⟨k + 1, by omega, by go_num, E5, s0, s1, s2⟩
   case measure => simp [intOf]; omega
  ·obtain rfl : k = 16 := by omega
   rw [mixI_all _ _ 16 HD.out Hz.out] at r2
   go_wp2_with (refine wpList_iload 29 _ rfl rfl r2 0 16 rfl _ Tryz.underlying29 rfl size_A16 (by rw [HD.out]; omega) _ (by rw [sub_all _ _ (HD.out)]) ?_)
   refine (l3Inverse_any D _ HD.out HDr.out).mono ?_
   rintro e w5 ⟨rfl, e5⟩
   have s1 := r1.ext e5
   have E5 := E4.trans e5
   have HI := Lib.hid (ihad_len D)
   clear r0 r1 r2 E4 e5
   go_wp2_with (refine wpList_istore 29 _ _ rfl rfl s1 0 16 rfl _ rfl _ rfl size_A16 (HI.out) (by simp) ?_; intro w6 p6 g6; refine Hid.out ?_)
   rw [spl_all (by rw [HI.out]; simp)] at p6
   have E6 : Ext w w6 := Ext.grown E5 g6 (fun q hq => by cases hq; omega)
   refine Lib.hid ?_
   go_wp2
   exact bodyPost_ret (v := .agg (ic (dec zs q))) (results_cell_row rfl _ _ (B + 1) 29 (ic (dec zs q)) (0, 0) _ rfl (by rw [Hde.out]; exact p6) Tryz.underlying29 rfl (by rw [ic_size, dec_len]; exact size_A16)) rfl ⟨rfl, E6⟩
set_option maxRecDepth 100000 in
theorem spec_CodeBlock_any (zs : List Int) (q : Nat) (w : World) (hl : zs.length = 16) (hb : inB 255 zs = true) (hq : q < 16) :
 Calls Tryz.prog 150 #[.agg (ic zs), .int .i64 q] w fun e w' => e = .returned (.agg (ic (cod zs q))) ∧ Ext w w' := by
 have hbA := inB_bdA (M := 1048576) (by omega) hb (by omega)
 have Hbd := Lib.hid (fun k (hk : k < 16) => had_255 hl hb hk)
 have Hl := Lib.hid hl
 have HB := Lib.hid hbA
 have HW := Lib.hid hb
 have HH := Lib.hid (had_len zs)
 have HI := Lib.hid (cod_len zs q)
 have Hz := Lib.hid (show (List.replicate 16 (0 : Int)).length = 16 by simp)
 clear hl hb hbA
 have a2 := Ext.alloc (w.alloc (.cells (ic zs) 29)) (.cells (ic (List.replicate 16 0)) 29)
 have a3 := Ext.alloc ((w.alloc (.cells (ic zs) 29)).alloc (.cells (ic (List.replicate 16 0)) 29)) (.cells (ic (List.replicate 16 0)) 29)
 have p0 := ((IB.new w 29 zs).ext a2).ext a3
 have p1 := (IB.new (w.alloc (.cells (ic zs) 29)) 29 (List.replicate 16 0)).ext a3
 have p2 := IB.new ((w.alloc (.cells (ic zs) 29)).alloc (.cells (ic (List.replicate 16 0)) 29)) 29 (List.replicate 16 0)
 have E1 := ((Ext.alloc w (.cells (ic zs) 29)).trans a2).trans a3
 simp only [World.size_alloc] at p1 p2
 clear a2 a3
 go_enter Tryz.func150, Tryz.ntmps150
 go_wp2_with (refine wpList_iload 29 _ rfl rfl p0 0 16 rfl _ Tryz.underlying29 rfl size_A16 (by rw [Hl.out]; omega) _ (by rw [sub_all _ _ (Hl.out)]) ?_)
 try simp only [World.size_alloc]
 obtain ⟨B, hB⟩ : ∃ B, B = w.heap.size := ⟨_, rfl⟩
 rw [← hB] at p0 p1 p2 ⊢
 have hwB : w.heap.size ≤ B := by omega
 have HB0 := Lib.hid hB
 clear hB
 refine (spec_l3Ok_any zs 255 _ Hl.out (by omega) (by omega)).mono ?_
 rw [HW.out]
 rintro e w0 ⟨rfl, e0⟩
 have p0a := p0.ext e0
 have p1a := p1.ext e0
 have p2a := p2.ext e0
 have E0a := E1.trans e0
 clear p0 p1 p2 E1 e0
 go_wp2_with fail
 refine (l1In_yes _ _ _ _ (by omega) (by omega)).mono ?_
 rintro e w1 ⟨rfl, rfl⟩
 go_wp2_with (refine wpList_iload 29 _ rfl rfl p0a 0 16 rfl _ Tryz.underlying29 rfl size_A16 (by rw [Hl.out]; omega) _ (by rw [sub_all _ _ (Hl.out)]) ?_)
 refine (l3Apply_any zs _ Hl.out HB.out).mono ?_
 rintro e w1 ⟨rfl, e1⟩
 have q1 := p1a.ext e1
 have q2 := p2a.ext e1
 have E2 := E0a.trans e1
 have q3 := IB.new w1 29 (List.replicate 16 0)
 have l1 := q2.lt
 have q1a := q1.alloc (.cells (ic (List.replicate 16 0)) 29)
 have q2a := q2.alloc (.cells (ic (List.replicate 16 0)) 29)
 have E2a := E2.trans (Ext.alloc w1 (.cells (ic (List.replicate 16 0)) 29))
 have hs2 := E2.size
 clear p0a p1a p2a E0a e1 q1 q2 E2
 go_wp2_with (refine wpList_istore 29 _ _ rfl rfl q3 0 16 rfl _ rfl _ rfl size_A16 (HH.out) (by simp) ?_; intro w2 i2 g2; refine Hid.out ?_)
 rw [spl_all (by rw [HH.out]; simp)] at i2
 have E3 : Ext w w2 := Ext.grown E2a g2 (fun k e => by cases e; omega)
 have q1 := q1a.gr g2 (ne_blk (by omega))
 have q2 := q2a.gr g2 (ne_blk (by omega))
 obtain ⟨O, hO⟩ : ∃ O, O = w1.heap.size := ⟨_, rfl⟩
 rw [← hO] at i2 l1 ⊢
 have HO := Lib.hid hO
 clear hO hs2 q1a q2a E2a q3 g2
 refine Lib.hid ?_
 go_wp2_with fail
 go_loopw [7] (fun i wr => ∃ k : Nat, k ≤ 16 ∧ i = .int .i64 k ∧ Ext w wr ∧ IB wr (B + 1) 29 (List.replicate 16 0) ∧ IB wr O 29 (had zs) ∧ IB wr (B + 1 + 1) 29 (mixI (cod zs q) (List.replicate 16 0) k)) (fun i _ => 16 - (intOf i).toNat)
 case atStart => exact ⟨0, by omega, rfl, E3, q1, i2, by rw [mixI_zero]; exact q2⟩
 case round =>
  obtain ⟨k, hk, rfl, E4, r1, r3, r2⟩ := hrel
  clear q1 q2 i2 E3
  by_cases hlt : k < 16
  ·have hd : decide ((k : Int) < 16) = true := by simp; omega
   have hbk := Hbd.out k hlt
   have hset := mixI_set (cod zs q) (List.replicate 16 0) k 16 HI.out Hz.out hlt
   rw [nth_cod _ _ hlt] at hset
   have Hset := Lib.hid hset
   have c3 := r3.cell (i := k) (by rw [HH.out]; exact hlt)
   clear hset
   go_wp2_with fail
   refine (l4Quant_in (nth (had zs) k) q _ hbk.1 hbk.2 hq).mono ?_
   rintro e w3 ⟨rfl, e3⟩
   have E5 := E4.trans e3
   have s1 := r1.ext e3
   have s2 := r2.ext e3
   have s3 := r3.ext e3
   have c0 := s2.cell (i := k) (by rw [mixI_len _ _ _ 16 HI.out Hz.out]; exact hlt)
   have f0 := s2.frozen k
   clear r1 r2 r3 E4 c3 e3
   go_wp2
   go_roundw
   case rel => exact ⟨k + 1, by omega, by go_num, Ext.grown E5 (gr_set _ _ _ _) (fun q hq => by cases hq; omega), s1.set_other (by omega), s3.set_other (by omega), by rw [← Hset.out]; exact s2.set k _⟩
   case measure => simp [intOf]; omega
  ·obtain rfl : k = 16 := by omega
   rw [mixI_all _ _ 16 HI.out Hz.out] at r2
   go_wp2_with (first | (refine wpList_iload 29 _ rfl rfl r2 0 16 rfl _ Tryz.underlying29 rfl size_A16 (by rw [HI.out]; omega) _ (by rw [sub_all _ _ (HI.out)]) ?_) | (refine wpList_istore 29 _ _ rfl rfl r1 0 16 rfl _ rfl _ rfl size_A16 (HI.out) (by simp) ?_; intro w6 p6 g6; refine Hid.out ?_))
   rw [spl_all (by rw [HI.out]; simp)] at p6
   have E6 : Ext w w6 := Ext.grown E4 g6 (fun q hq => by cases hq; omega)
   refine Lib.hid ?_
   go_wp2
   exact bodyPost_ret (v := .agg (ic (cod zs q))) (results_cell_row rfl _ _ (B + 1) 29 (ic (cod zs q)) (0, 0) _ rfl p6 Tryz.underlying29 rfl (by rw [ic_size, cod_len]; exact size_A16)) rfl ⟨rfl, E6⟩
set_option maxRecDepth 100000 in
theorem difference_any (za zb : List Int) (w : World) (hx : za.length = 16) (hy : zb.length = 16) (bx : bdA 1099511627776 za) (by' : bdA 1099511627776 zb) :
 Calls Tryz.prog 70 #[.agg (ic za), .agg (ic zb)] w fun e w' => e = .returned (.agg (ic (dif za zb))) ∧ Ext w w' := by
 have Hx := Lib.hid hx
 have Hy := Lib.hid hy
 have Bx := Lib.hid bx
 have By := Lib.hid by'
 have HI := Lib.hid (dif_len za zb)
 clear hx hy bx by'
 have a2 := Ext.alloc (w.alloc (.cells (ic za) 29)) (.cells (ic zb) 29)
 have a3 := Ext.alloc ((w.alloc (.cells (ic za) 29)).alloc (.cells (ic zb) 29)) (.cells (ic (List.replicate 16 0)) 29)
 have p0 := ((IB.new w 29 za).ext a2).ext a3
 have p1 := (IB.new (w.alloc (.cells (ic za) 29)) 29 zb).ext a3
 have p2 := IB.new ((w.alloc (.cells (ic za) 29)).alloc (.cells (ic zb) 29)) 29 (List.replicate 16 0)
 have E1 := ((Ext.alloc w (.cells (ic za) 29)).trans a2).trans a3
 simp only [World.size_alloc] at p1 p2
 clear a2 a3
 go_enter Tryz.func70, Tryz.ntmps70
 go_wp2_with (refine wpList_iload 29 _ rfl rfl p1 0 16 rfl _ Tryz.underlying29 rfl size_A16 (by rw [Hy.out]; omega) _ (by rw [sub_all _ _ (Hy.out)]) ?_)
 try simp only [World.size_alloc]
 obtain ⟨B, hB⟩ : ∃ B, B = w.heap.size := ⟨_, rfl⟩
 rw [← hB] at p0 p1 p2 ⊢
 have hwB : w.heap.size ≤ B := by omega
 have HB0 := Lib.hid hB
 clear hB
 go_loopw [8] (fun i wr => ∃ k : Nat, k ≤ 16 ∧ i = .int .i64 k ∧ Ext w wr ∧ IB wr B 29 (mixI (dif za zb) za k) ∧ IB wr (B + 1) 29 zb ∧ IB wr (B + 1 + 1) 29 (List.replicate 16 0)) (fun i _ => 16 - (intOf i).toNat)
 case atStart => exact ⟨0, by omega, rfl, E1, by rw [mixI_zero]; exact p0, p1, p2⟩
 case round =>
  obtain ⟨k, hk, rfl, E4, r0, r1, r2⟩ := hrel
  clear p0 p1 p2 E1
  by_cases hlt : k < 16
  ·have hd : decide ((k : Int) < 16) = true := by simp; omega
   have b0 := Bx.out k
   have b1 := By.out k
   have hset := mixI_set (dif za zb) za k 16 HI.out Hx.out hlt
   rw [nth_dif _ _ hlt] at hset
   have Hset := Lib.hid hset
   have c0 := r0.cell (i := k) (by rw [mixI_len _ _ _ 16 HI.out Hx.out]; exact hlt)
   rw [nth_mixR HI.out Hx.out (Nat.le_refl _) hlt] at c0
   have f0 := r0.frozen k
   have c1 := r1.cell (i := k) (by rw [Hy.out]; exact hlt)
   clear hset c1
   go_wp2_with (refine wpList_iindex _ _ _ rfl rfl zb rfl k 16 _ rfl rfl _ Tryz.underlying29 Tryz.underlying3 size_int hlt Hy.out ?_)
   go_roundw
   case rel => exact ⟨k + 1, by omega, by go_num, Ext.grown E4 (gr_set _ _ _ _) (fun q hq => by cases hq; omega), by rw [← Hset.out]; exact r0.set k _, r1.set_other (by omega), r2.set_other (by omega)⟩
   case measure => simp [intOf]; omega
  ·obtain rfl : k = 16 := by omega
   rw [mixI_all _ _ 16 HI.out Hx.out] at r0
   go_wp2_with (first | (refine wpList_iload 29 _ rfl rfl r0 0 16 rfl _ Tryz.underlying29 rfl size_A16 (by rw [HI.out]; omega) _ (by rw [sub_all _ _ (HI.out)]) ?_) | (refine wpList_istore 29 _ _ rfl rfl r2 0 16 rfl _ rfl _ rfl size_A16 (HI.out) (by simp) ?_; intro w6 p6 g6; refine Hid.out ?_))
   rw [spl_all (by rw [HI.out]; simp)] at p6
   have E6 : Ext w w6 := Ext.grown E4 g6 (fun q hq => by cases hq; omega)
   refine Lib.hid ?_
   go_wp2
   exact bodyPost_ret (v := .agg (ic (dif za zb))) (results_cell_row rfl _ _ (B + 1 + 1) 29 (ic (dif za zb)) (0, 0) _ rfl p6 Tryz.underlying29 rfl (by rw [ic_size, dif_len]; exact size_A16)) rfl ⟨rfl, E6⟩
set_option maxRecDepth 100000 in
theorem l8Minus_any (za zb : List Int) (w : World) (hx : za.length = 16) (hy : zb.length = 16) (bx : bdA 1099511627776 za) (by' : bdA 1099511627776 zb) :
 Calls Tryz.prog 151 #[.agg (ic za), .agg (ic zb)] w fun e w' => e = .returned (.agg (ic (dif za zb))) ∧ Ext w w' := by
 have Hx := Lib.hid hx
 have Hy := Lib.hid hy
 have Bx := Lib.hid bx
 have By := Lib.hid by'
 have HI := Lib.hid (dif_len za zb)
 clear hx hy bx by'
 have a2 := Ext.alloc (w.alloc (.cells (ic za) 29)) (.cells (ic zb) 29)
 have a3 := Ext.alloc ((w.alloc (.cells (ic za) 29)).alloc (.cells (ic zb) 29)) (.cells (ic (List.replicate 16 0)) 29)
 have p0 := ((IB.new w 29 za).ext a2).ext a3
 have p1 := (IB.new (w.alloc (.cells (ic za) 29)) 29 zb).ext a3
 have p2 := IB.new ((w.alloc (.cells (ic za) 29)).alloc (.cells (ic zb) 29)) 29 (List.replicate 16 0)
 have E1 := ((Ext.alloc w (.cells (ic za) 29)).trans a2).trans a3
 simp only [World.size_alloc] at p1 p2
 clear a2 a3
 go_enter Tryz.func151, Tryz.ntmps151
 go_wp2_with fail
 try simp only [World.size_alloc]
 obtain ⟨B, hB⟩ : ∃ B, B = w.heap.size := ⟨_, rfl⟩
 rw [← hB] at p0 p1 p2 ⊢
 have hwB : w.heap.size ≤ B := by omega
 have HB0 := Lib.hid hB
 clear hB
 go_loopw [5] (fun i wr => ∃ k : Nat, k ≤ 16 ∧ i = .int .i64 k ∧ Ext w wr ∧ IB wr B 29 (mixI (dif za zb) za k) ∧ IB wr (B + 1) 29 zb ∧ IB wr (B + 1 + 1) 29 (List.replicate 16 0)) (fun i _ => 16 - (intOf i).toNat)
 case atStart => exact ⟨0, by omega, rfl, E1, by rw [mixI_zero]; exact p0, p1, p2⟩
 case round =>
  obtain ⟨k, hk, rfl, E4, r0, r1, r2⟩ := hrel
  clear p0 p1 p2 E1
  by_cases hlt : k < 16
  ·have hd : decide ((k : Int) < 16) = true := by simp; omega
   have b0 := Bx.out k
   have b1 := By.out k
   have hset := mixI_set (dif za zb) za k 16 HI.out Hx.out hlt
   rw [nth_dif _ _ hlt] at hset
   have Hset := Lib.hid hset
   have c0 := r0.cell (i := k) (by rw [mixI_len _ _ _ 16 HI.out Hx.out]; exact hlt)
   rw [nth_mixR HI.out Hx.out (Nat.le_refl _) hlt] at c0
   have f0 := r0.frozen k
   have c1 := r1.cell (i := k) (by rw [Hy.out]; exact hlt)
   clear hset
   have C0 := Lib.hid c0
   have C1 := Lib.hid c1
   have HM := Lib.hid (mixI_len (dif za zb) za k 16 HI.out Hx.out)
   generalize nth za k = u at *
   generalize nth zb k = v at *
   have G0 : Ext w wr ∧ IB wr (B + 1) 29 zb ∧ IB wr (B + 1 + 1) 29 (List.replicate 16 0) ∧ IB wr B 29 (mixI (dif za zb) za k) := ⟨E4, r1, r2, r0⟩
   have HcU := Lib.hid (fun (wx : World) (h : IB wx B 29 (mixI (dif za zb) za k)) => (h.cell (i := k) (by rw [HM.out]; exact hlt)).trans ((r0.cell (i := k) (by rw [HM.out]; exact hlt)).symm.trans C0.out))
   have HcV := Lib.hid (fun (wx : World) (h : IB wx (B + 1) 29 zb) => (h.cell (i := k) (by rw [Hy.out]; exact hlt)).trans ((r1.cell (i := k) (by rw [Hy.out]; exact hlt)).symm.trans C1.out))
   clear E4 r0 r1 r2 c0 c1 f0
   go_wp2_with fail
   refine wp_region_invL (by kernel_rfl) [(10, 0), (11, 1), (12, 2), (13, 3), (14, 4), (15, 5), (16, 6), (17, 7), (18, 8)] [[], [], [1], [1, 2], [], [4], [4, 5], [1, 2, 3, 4, 5, 6], [0, 1, 2, 3, 4, 5, 6, 7], [0, 1, 2, 3, 4, 5, 6, 7, 8]] (fun i own ys wx => match i with | 0 => own = .int .i64 (k : Nat) | 1 => own = .int .i64 (k : Nat) | 2 => own = .pointer (some ⟨B, k, none⟩) | 3 => own = .int .i64 u | 4 => own = .int .i64 (k : Nat) | 5 => own = .pointer (some ⟨B + 1, k, none⟩) | 6 => own = .int .i64 v | 7 => own = .int .i64 (u - v) | 8 => own = .pointer (some ⟨B, k, none⟩) | 9 => True | _ => True) (fun Lx wx => Ext w wx ∧ IB wx (B + 1) 29 zb ∧ IB wx (B + 1 + 1) 29 (List.replicate 16 0) ∧ IB wx B 29 (if Lx 9 = true then mixI (dif za zb) za (k + 1) else mixI (dif za zb) za k)) (by kernel_rfl) (by kernel_rfl) (by kernel_rfl) ?g0_r2 ?gop_r2 ?gend_r2
   case g0_r2 => exact ⟨Ext.trans_drewN G0.1 1, G0.2.1.drewN 1, G0.2.2.1.drewN 1, G0.2.2.2.drewN 1⟩
   case gop_r2 =>
    refine ⟨?_, ?_, ?o2, ?o3, ?_, ?o5, ?o6, ?o7, ?o8, ?o9, trivial⟩ <;> (intro Lx xs wx hG hl ha hb hD hI Qo Kx hK hQo; simp only [patchS, Nat.reduceAdd, Nat.reduceEqDiff, ↓reduceIte] at hQo ⊢)
    case o2 =>
     have l9 : Lx 9 = false := hb 9 rfl
     clear hl ha hb
     have d1 : _ = _ := hD 1 rfl
     clear hD hI
     generalize xs 1 = y1 at *
     subst d1
     go_wp2
     exact hK.out _ _ ⟨rfl, hG, fun _ _ _ _ _ _ h => h⟩
    case o3 =>
     have l9 : Lx 9 = false := hb 9 rfl
     clear hl ha hb
     have d2 : _ = _ := hD 2 rfl
     clear hD hI
     generalize xs 2 = y2 at *
     subst d2
     have hG2 := hG.2.2.2
     rw [l9, ifF] at hG2
     have cx := HcU.out wx hG2
     clear hG2
     go_wp2
     exact hK.out _ _ ⟨rfl, hG, fun _ _ _ _ _ _ h => h⟩
    case o5 =>
     have l9 : Lx 9 = false := hb 9 rfl
     clear hl ha hb
     have d4 : _ = _ := hD 4 rfl
     clear hD hI
     generalize xs 4 = y4 at *
     subst d4
     go_wp2
     exact hK.out _ _ ⟨rfl, hG, fun _ _ _ _ _ _ h => h⟩
    case o6 =>
     have l9 : Lx 9 = false := hb 9 rfl
     clear hl ha hb
     have d5 : _ = _ := hD 5 rfl
     clear hD hI
     generalize xs 5 = y5 at *
     subst d5
     have cx := HcV.out wx hG.2.1
     go_wp2
     exact hK.out _ _ ⟨rfl, hG, fun _ _ _ _ _ _ h => h⟩
    case o7 =>
     have l9 : Lx 9 = false := hb 9 rfl
     clear hl ha hb
     have d3 : _ = _ := hD 3 rfl
     have d6 : _ = _ := hD 6 rfl
     clear hD hI
     generalize xs 3 = y3 at *
     generalize xs 6 = y6 at *
     subst d3 d6
     go_wp2
     exact hK.out _ _ ⟨rfl, hG, fun _ _ _ _ _ _ h => h⟩
    case o8 =>
     have l9 : Lx 9 = false := hb 9 rfl
     clear hl ha hb
     have d0 : _ = _ := hD 0 rfl
     clear hD hI
     generalize xs 0 = y0 at *
     subst d0
     go_wp2
     exact hK.out _ _ ⟨rfl, hG, fun _ _ _ _ _ _ h => h⟩
    case o9 =>
     have l9 : Lx 9 = false := hl
     clear hl ha hb
     have d7 : _ = _ := hD 7 rfl
     have d8 : _ = _ := hD 8 rfl
     clear hD hI
     generalize xs 7 = y7 at *
     generalize xs 8 = y8 at *
     subst d7 d8
     rw [l9, ifF] at hG
     have cx := hG.2.2.2.cell (i := k) (by rw [HM.out]; exact hlt)
     have fx := hG.2.2.2.frozen k
     have s2 := hG.2.2.2.set k (u - v)
     rw [Hset.out] at s2
     have gE := Ext.grown hG.1 (gr_set _ B k (.int .i64 (u - v))) (fun q hq => by cases hq; omega)
     have g0' := hG.2.1.set_other (c := B) (i := k) (v := .int .i64 (u - v)) (by omega)
     have g1' := hG.2.2.1.set_other (c := B) (i := k) (v := .int .i64 (u - v)) (by omega)
     go_wp2
     exact hQo undef _ (hK.out _ _ ⟨trivial, ⟨gE, g0', g1', s2⟩, fun _ _ _ _ _ _ h => h⟩)
    all_goals
     have l9 : Lx 9 = false := hb 9 rfl
     clear hl ha hb hD hI
     go_wp2
     exact hK.out _ _ ⟨rfl, hG, fun _ _ _ _ _ _ h => h⟩
   intro xs wx hV hG0
   obtain ⟨Lx, hL, hG⟩ := hG0
   have l9 : Lx 9 = true := hL 9 (by decide)
   clear hL hV
   simp only [patchS, Nat.reduceAdd, Nat.reduceEqDiff, ↓reduceIte]
   generalize xs 0 = y0 at *
   generalize xs 1 = y1 at *
   generalize xs 2 = y2 at *
   generalize xs 3 = y3 at *
   generalize xs 4 = y4 at *
   generalize xs 5 = y5 at *
   generalize xs 6 = y6 at *
   generalize xs 7 = y7 at *
   generalize xs 8 = y8 at *
   generalize xs 9 = y9 at *
   replace hG : Ext w wx ∧ IB wx (B + 1) 29 zb ∧ IB wx (B + 1 + 1) 29 (List.replicate 16 0) ∧ IB wx B 29 (if Lx 9 = true then mixI (dif za zb) za (k + 1) else mixI (dif za zb) za k) := hG
   rw [l9, ifT] at hG
   clear G0 HcU HcV
   obtain ⟨E5, s1, s2, s0⟩ := hG
   go_wp2
   go_roundw
   case rel => exact ⟨k + 1, by omega, by go_num, E5, s0, s1, s2⟩
   case measure => simp [intOf]; omega
  ·obtain rfl : k = 16 := by omega
   rw [mixI_all _ _ 16 HI.out Hx.out] at r0
   go_wp2_with (first | (refine wpList_iload 29 _ rfl rfl r0 0 16 rfl _ Tryz.underlying29 rfl size_A16 (by rw [HI.out]; omega) _ (by rw [sub_all _ _ (HI.out)]) ?_) | (refine wpList_istore 29 _ _ rfl rfl r2 0 16 rfl _ rfl _ rfl size_A16 (HI.out) (by simp) ?_; intro w6 p6 g6; refine Hid.out ?_))
   rw [spl_all (by rw [HI.out]; simp)] at p6
   have E6 : Ext w w6 := Ext.grown E4 g6 (fun q hq => by cases hq; omega)
   refine Lib.hid ?_
   go_wp2
   exact bodyPost_ret (v := .agg (ic (dif za zb))) (results_cell_row rfl _ _ (B + 1 + 1) 29 (ic (dif za zb)) (0, 0) _ rfl p6 Tryz.underlying29 rfl (by rw [ic_size, dif_len]; exact size_A16)) rfl ⟨rfl, E6⟩
end Go.Proofs.YtbnhaegidfbgbaaGreatDoor
namespace Go.Proofs.YtbnhaegidfbgbaaGreatDoor
open Go.RowKit
set_option maxHeartbeats 1000000
theorem lenZ : (List.replicate 16 (0 : Int)).length = 16 := by simp
set_option maxRecDepth 100000 in
theorem partOf_any (L : List Int) (x y : Nat) (hx : x ≤ 4) (hy : y ≤ 4) (a : Option Addr) (c : Nat) (w : World) (r : Sl w a 64 (L.map (Value.int .i64))) :
 Calls Tryz.prog 72 #[.slice a 64 c, .int .i64 (x : Nat), .int .i64 (y : Nat)] w fun e w' => e = .returned (.agg (ic (pof L (x) (y)))) ∧ Ext w w' := by
 have HI := Lib.hid (pof_len L (x) (y))
 have a2 := Ext.alloc (w.alloc (.cells (ic (List.replicate 16 0)) 29)) (.cells (ic (List.replicate 16 0)) 29)
 have p0 := (IB.new w 29 (List.replicate 16 0)).ext a2
 have p1 := IB.new (w.alloc (.cells (ic (List.replicate 16 0)) 29)) 29 (List.replicate 16 0)
 have E1 := (Ext.alloc w (.cells (ic (List.replicate 16 0)) 29)).trans a2
 simp only [World.size_alloc] at p1
 clear a2
 go_enter Tryz.func72, Tryz.ntmps72
 go_wp2_with fail
 try simp only [World.size_alloc]
 obtain ⟨B, hB⟩ : ∃ B, B = w.heap.size := ⟨_, rfl⟩
 rw [← hB] at p0 p1 ⊢
 have hwB : w.heap.size ≤ B := by omega
 have HB0 := Lib.hid hB
 clear hB
 go_loopw [9] (fun i wr => ∃ k : Nat, k ≤ 16 ∧ i = .int .i64 k ∧ Ext w wr ∧ IB wr B 29 (List.replicate 16 0) ∧ IB wr (B + 1) 29 (mixI (pof L (x) (y)) (List.replicate 16 0) k)) (fun i _ => 16 - (intOf i).toNat)
 case atStart => exact ⟨0, by omega, rfl, E1, p0, by rw [mixI_zero]; exact p1⟩
 case round =>
  obtain ⟨k, hk, rfl, E4, r0, r1⟩ := hrel
  clear p0 p1 E1
  by_cases hlt : k < 16
  ·have hd : decide ((k : Int) < 16) = true := by simp; omega
   have hset := mixI_set (pof L (x) (y)) (List.replicate 16 0) k 16 HI.out lenZ hlt
   rw [nth_pof _ _ _ hlt] at hset
   have Hset := Lib.hid hset
   have c1 := r1.cell (i := k) (by rw [mixI_len _ _ _ 16 HI.out lenZ]; exact hlt)
   have f1 := r1.frozen k
   obtain ⟨q, hq⟩ : ∃ q, q = (y + k / 4) * 8 + x + k % 4 := ⟨_, rfl⟩
   rw [← hq] at Hset
   have hq64 : q < 64 := by omega
   obtain ⟨b, off, rfl, hc⟩ := (r.ext E4).int hq64
   have HQ := Lib.hid hq
   have hcc : wr.cell? ⟨b, off + ((y + k / 4) * 8 + x + k % 4), none⟩ = some (.int .i64 (nth L q)) := by rw [← HQ.out]; exact hc
   clear hset hq hc
   generalize nth L q = z at *
   go_wp2
   go_roundw
   case rel => exact ⟨k + 1, by omega, by go_num, Ext.grown E4 (gr_set _ _ _ _) (fun q hq => by cases hq; omega), r0.set_other (by omega), by rw [← Hset.out]; exact r1.set k _⟩
   case measure => simp [intOf]; omega
  ·obtain rfl : k = 16 := by omega
   rw [mixI_all _ _ 16 HI.out lenZ] at r1
   go_wp2_with (first | (refine wpList_iload 29 _ rfl rfl r1 0 16 rfl _ Tryz.underlying29 rfl size_A16 (by rw [HI.out]; omega) _ (by rw [sub_all _ _ (HI.out)]) ?_) | (refine wpList_istore 29 _ _ rfl rfl r0 0 16 rfl _ rfl _ rfl size_A16 (HI.out) (by simp) ?_; intro w6 p6 g6; refine Hid.out ?_))
   rw [spl_all (by rw [HI.out]; simp)] at p6
   have E6 : Ext w w6 := Ext.grown E4 g6 (fun q hq => by cases hq; omega)
   refine Lib.hid ?_
   go_wp2
   exact bodyPost_ret (v := .agg (ic (pof L (x) (y)))) (results_cell_row rfl _ _ B 29 (ic (pof L (x) (y))) (0, 0) _ rfl p6 Tryz.underlying29 rfl (by rw [ic_size, pof_len]; exact size_A16)) rfl ⟨rfl, E6⟩
set_option maxRecDepth 100000 in
theorem l8Part_any (L : List Int) (u : Nat) (hu : u < 4) (a : Option Addr) (c : Nat) (w : World) (r : Sl w a 64 (L.map (Value.int .i64))) :
 Calls Tryz.prog 141 #[.slice a 64 c, .int .i64 (u : Nat)] w fun e w' => e = .returned (.agg (ic (pof L (u % 2 * 4) (u / 2 * 4)))) ∧ Ext w w' := by
 have HI := Lib.hid (pof_len L (u % 2 * 4) (u / 2 * 4))
 have a2 := Ext.alloc (w.alloc (.cells (ic (List.replicate 16 0)) 29)) (.cells (ic (List.replicate 16 0)) 29)
 have p0 := (IB.new w 29 (List.replicate 16 0)).ext a2
 have p1 := IB.new (w.alloc (.cells (ic (List.replicate 16 0)) 29)) 29 (List.replicate 16 0)
 have E1 := (Ext.alloc w (.cells (ic (List.replicate 16 0)) 29)).trans a2
 simp only [World.size_alloc] at p1
 clear a2
 go_enter Tryz.func141, Tryz.ntmps141
 go_wp2_with fail
 try simp only [World.size_alloc]
 obtain ⟨B, hB⟩ : ∃ B, B = w.heap.size := ⟨_, rfl⟩
 rw [← hB] at p0 p1 ⊢
 have hwB : w.heap.size ≤ B := by omega
 have HB0 := Lib.hid hB
 clear hB
 go_loopw [6] (fun i wr => ∃ k : Nat, k ≤ 16 ∧ i = .int .i64 k ∧ Ext w wr ∧ IB wr B 29 (List.replicate 16 0) ∧ IB wr (B + 1) 29 (mixI (pof L (u % 2 * 4) (u / 2 * 4)) (List.replicate 16 0) k)) (fun i _ => 16 - (intOf i).toNat)
 case atStart => exact ⟨0, by omega, rfl, E1, p0, by rw [mixI_zero]; exact p1⟩
 case round =>
  obtain ⟨k, hk, rfl, E4, r0, r1⟩ := hrel
  clear p0 p1 E1
  by_cases hlt : k < 16
  ·have hd : decide ((k : Int) < 16) = true := by simp; omega
   have hset := mixI_set (pof L (u % 2 * 4) (u / 2 * 4)) (List.replicate 16 0) k 16 HI.out lenZ hlt
   rw [nth_pof _ _ _ hlt] at hset
   have Hset := Lib.hid hset
   have c1 := r1.cell (i := k) (by rw [mixI_len _ _ _ 16 HI.out lenZ]; exact hlt)
   have f1 := r1.frozen k
   obtain ⟨q, hq⟩ : ∃ q, q = (u / 2 * 4 + k / 4) * 8 + u % 2 * 4 + k % 4 := ⟨_, rfl⟩
   rw [← hq] at Hset
   have hq64 : q < 64 := by omega
   obtain ⟨b, off, rfl, hc⟩ := (r.ext E4).int hq64
   have HQ := Lib.hid hq
   have hcc : wr.cell? ⟨b, off + ((u / 2 * 4 + k / 4) * 8 + u % 2 * 4 + k % 4), none⟩ = some (.int .i64 (nth L q)) := by rw [← HQ.out]; exact hc
   clear hset hq hc
   generalize nth L q = z at *
   go_wp2
   go_roundw
   case rel => exact ⟨k + 1, by omega, by go_num, Ext.grown E4 (gr_set _ _ _ _) (fun q hq => by cases hq; omega), r0.set_other (by omega), by rw [← Hset.out]; exact r1.set k _⟩
   case measure => simp [intOf]; omega
  ·obtain rfl : k = 16 := by omega
   rw [mixI_all _ _ 16 HI.out lenZ] at r1
   go_wp2_with (first | (refine wpList_iload 29 _ rfl rfl r1 0 16 rfl _ Tryz.underlying29 rfl size_A16 (by rw [HI.out]; omega) _ (by rw [sub_all _ _ (HI.out)]) ?_) | (refine wpList_istore 29 _ _ rfl rfl r0 0 16 rfl _ rfl _ rfl size_A16 (HI.out) (by simp) ?_; intro w6 p6 g6; refine Hid.out ?_))
   rw [spl_all (by rw [HI.out]; simp)] at p6
   have E6 : Ext w w6 := Ext.grown E4 g6 (fun q hq => by cases hq; omega)
   refine Lib.hid ?_
   go_wp2
   exact bodyPost_ret (v := .agg (ic (pof L (u % 2 * 4) (u / 2 * 4)))) (results_cell_row rfl _ _ B 29 (ic (pof L (u % 2 * 4) (u / 2 * 4))) (0, 0) _ rfl p6 Tryz.underlying29 rfl (by rw [ic_size, pof_len]; exact size_A16)) rfl ⟨rfl, E6⟩
set_option maxRecDepth 100000 in
theorem part_any (p : Pic) (x y : Int) (a : Option Addr) (c n : Nat) (w : World) (hv : p.valid) (hn : n = p.px.length) (r : Sl w a n (p.px.map (Value.int .i64))) (x1 : 0 ≤ x) (x2 : x ≤ 1000) (y1 : 0 ≤ y) (y2 : y ≤ 1000) :
 Calls Tryz.prog 71 #[.agg #[.int .i64 p.w, .int .i64 p.h, .slice a n c], .int .i64 x, .int .i64 y] w fun e w' => e = .returned (.agg (ic (prt p x y))) ∧ Ext w w' := by
 have HI := Lib.hid (prt_len p x y)
 have HN := Lib.hid hn
 have HV := Lib.hid hv
 clear hn hv
 obtain ⟨w0, hw0⟩ : ∃ w0, w0 = w.alloc (.cells #[.int .i64 p.w, .int .i64 p.h, .slice a n c] 25) := ⟨_, rfl⟩
 have b0 := blk_new w (.cells #[.int .i64 p.w, .int .i64 p.h, .slice a n c] 25)
 have E0 := Ext.alloc w (.cells #[.int .i64 p.w, .int .i64 p.h, .slice a n c] 25)
 have s0 : w0.heap.size = w.heap.size + 1 := by rw [hw0]; simp
 rw [← hw0] at b0 E0
 have a1 := Ext.alloc w0 (.cells (ic (List.replicate 16 0)) 29)
 have a2 := Ext.alloc (w0.alloc (.cells (ic (List.replicate 16 0)) 29)) (.cells (ic (List.replicate 16 0)) 29)
 have bx := (b0 : w0.heap[w.heap.size]? = _)
 have b1 := a2.blk (a1.blk bx)
 have p0 := (IB.new w0 29 (List.replicate 16 0)).ext a2
 have p1 := IB.new (w0.alloc (.cells (ic (List.replicate 16 0)) 29)) 29 (List.replicate 16 0)
 have E1 := (E0.trans a1).trans a2
 simp only [World.size_alloc] at p1
 rw [s0] at p0 p1
 clear a1 a2 b0 bx s0
 go_enter Tryz.func71, Tryz.ntmps71
 go_wp2_with fail
 rw [← hw0]
 try simp only [World.size_alloc]
 obtain ⟨B, hB⟩ : ∃ B, B = w.heap.size := ⟨_, rfl⟩
 rw [← hB] at p0 p1 b1 ⊢
 have hwB : w.heap.size ≤ B := by omega
 have HB0 := Lib.hid hB
 have HW0 := Lib.hid hw0
 clear hB hw0
 go_loopw [9] (fun i wr => ∃ k : Nat, k ≤ 16 ∧ i = .int .i64 k ∧ Ext w wr ∧ Hid (wr.heap[B]? = some (.cells #[.int .i64 p.w, .int .i64 p.h, .slice a n c] 25 (0, 0))) ∧ IB wr (B + 1) 29 (List.replicate 16 0) ∧ IB wr (B + 1 + 1) 29 (mixI (prt p x y) (List.replicate 16 0) k)) (fun i _ => 16 - (intOf i).toNat)
 case atStart => exact ⟨0, by omega, rfl, E1, Lib.hid b1, p0, by rw [mixI_zero]; exact p1⟩
 case round =>
  obtain ⟨k, hk, rfl, E4, X4, r0, r1⟩ := hrel
  clear p0 p1 E1 b1
  by_cases hlt : k < 16
  ·have hd : decide ((k : Int) < 16) = true := by simp; omega
   have hset := mixI_set (prt p x y) (List.replicate 16 0) k 16 HI.out lenZ hlt
   rw [nth_prt _ _ _ hlt] at hset
   have Hset := Lib.hid hset
   obtain ⟨-, k0, k1, k2, -⟩ := bx3 X4.out
   clear hset
   go_wp2_with fail
   refine (at_any p (x + (k % 4 : Nat)) (y + (k / 4 : Nat)) a c n _ HV.out HN.out (r.ext E4)).mono ?_
   rintro e w3 ⟨rfl, e3⟩
   have E5 := E4.trans e3
   have X5 := Lib.hid (e3.blk X4.out)
   have s0 := r0.ext e3
   have s1 := r1.ext e3
   have c1 := s1.cell (i := k) (by rw [mixI_len _ _ _ 16 HI.out lenZ]; exact hlt)
   have f1 := s1.frozen k
   clear r0 r1 E4 X4 e3 k0 k1 k2
   go_wp2
   go_roundw
   case rel => exact ⟨k + 1, by omega, by go_num, Ext.grown E5 (gr_set _ _ _ _) (fun q hq => by cases hq; omega), Lib.hid (blk_set_other X5.out (by omega)), s0.set_other (by omega), by rw [← Hset.out]; exact s1.set k _⟩
   case measure => simp [intOf]; omega
  ·obtain rfl : k = 16 := by omega
   rw [mixI_all _ _ 16 HI.out lenZ] at r1
   go_wp2_with (first | (refine wpList_iload 29 _ rfl rfl r1 0 16 rfl _ Tryz.underlying29 rfl size_A16 (by rw [HI.out]; omega) _ (by rw [sub_all _ _ (HI.out)]) ?_) | (refine wpList_istore 29 _ _ rfl rfl r0 0 16 rfl _ rfl _ rfl size_A16 (HI.out) (by simp) ?_; intro w6 p6 g6; refine Hid.out ?_))
   rw [spl_all (by rw [HI.out]; simp)] at p6
   have E6 : Ext w w6 := Ext.grown E4 g6 (fun q hq => by cases hq; omega)
   refine Lib.hid ?_
   go_wp2
   exact bodyPost_ret (v := .agg (ic (prt p x y))) (results_cell_row rfl _ _ (B + 1) 29 (ic (prt p x y)) (0, 0) _ rfl p6 Tryz.underlying29 rfl (by rw [ic_size, prt_len]; exact size_A16)) rfl ⟨rfl, E6⟩
end Go.Proofs.YtbnhaegidfbgbaaGreatDoor
namespace Go.Proofs.YtbnhaegidfbgbaaGreatDoor
open Go.RowKit
set_option maxHeartbeats 1000000
theorem own_cell {w : World} {base e g n c : Nat} {zs : List Int} (h : w.ownsRow base e 1 (.slice (some ⟨g, 0, none⟩) n c) n (zs.map (Value.int .i64))) {i : Nat} (hi : i < n) : w.cell? ⟨g, i, none⟩ = some (.int .i64 (nth zs i)) := by
 obtain ⟨b, o, e, hc⟩ := (Sl.of_owns h).int hi
 simp only [Option.some.injEq, Addr.mk.injEq, and_true] at e
 obtain ⟨rfl, rfl⟩ := e
 rwa [Nat.zero_add] at hc
theorem own_set {w : World} {base e g n c : Nat} {zs : List Int} (h : w.ownsRow base e 1 (.slice (some ⟨g, 0, none⟩) n c) n (zs.map (Value.int .i64))) (i : Nat) (v : Int) : (w.setCell ⟨g, i, none⟩ (.int .i64 v)).ownsRow base e 1 (.slice (some ⟨g, 0, none⟩) n c) n ((zs.set i v).map (Value.int .i64)) := by
 have o2 := (h.stored i (.int .i64 v)).1
 rw [← List.map_set] at o2
 exact o2
/-- The worlds while a block is put. -/
structure PG (w : World) (B base g W H n c x0 : Nat) (pr rs : List Int) (Z : List Int) (wx : World) : Prop where
 gr : w.grownBy wx (some g)
 own : wx.ownsRow base 3 1 (.slice (some ⟨g, 0, none⟩) n c) n (Z.map (Value.int .i64))
 b0 : wx.heap[B]? = some (.cells #[.int .i64 W, .int .i64 H, .slice (some ⟨g, 0, none⟩) n c] 25 (0, 0))
 b1 : IB wx (B + 1) 29 pr
 b2 : IB wx (B + 1 + 1) 29 rs
 gB : g < B
theorem PG.drew {w wx : World} {B base g W H n c x0 : Nat} {pr rs Z : List Int} (h : PG w B base g W H n c x0 pr rs Z wx) : PG w B base g W H n c x0 pr rs Z wx.drew :=
 ⟨gr_drew h.gr, h.own, h.b0, h.b1.drewN 1, h.b2.drewN 1, h.gB⟩
theorem PG.set {w wx : World} {B base g W H n c x0 : Nat} {pr rs Z : List Int} (h : PG w B base g W H n c x0 pr rs Z wx) (i : Nat) (v : Int) : PG w B base g W H n c x0 pr rs (Z.set i v) (wx.setCell ⟨g, i, none⟩ (.int .i64 v)) := by
 have := h.gB
 exact ⟨grownBy_trans h.gr (gr_set _ _ _ _), own_set h.own i v, blk_set_other h.b0 (by omega), h.b1.set_other (by omega), h.b2.set_other (by omega), h.gB⟩
set_option maxRecDepth 100000 in
set_option maxHeartbeats 2000000 in
theorem put_any (W H x y base g n c : Nat) (px pr rs : List Int) (w : World) (hp : pr.length = 16) (hr : rs.length = 16) (bp : bdA 1099511627776 pr) (br : bdA 1099511627776 rs) (hW : W ≤ 32) (hx : x ≤ 1000) (hy : y ≤ 1000) (hn : (y + 3) * W + x + 3 < n) (hnb : n ≤ 1099511627776)
 (own : w.ownsRow base 3 1 (.slice (some ⟨g, 0, none⟩) n c) n (px.map (Value.int .i64))) :
 Calls Tryz.prog 78 #[.agg #[.int .i64 W, .int .i64 H, .slice (some ⟨g, 0, none⟩) n c], .int .i64 (x : Nat), .int .i64 (y : Nat), .agg (ic pr), .agg (ic rs)] w fun e w' => e = .returned (.tuple #[]) ∧ w'.ownsRow base 3 1 (.slice (some ⟨g, 0, none⟩) n c) n ((putS px W x y pr rs 16).map (Value.int .i64)) ∧ w.grownBy w' (some g) := by
 have Hp := Lib.hid hp
 have Hr := Lib.hid hr
 have Bp := Lib.hid bp
 have Br := Lib.hid br
 have hgB : g < w.heap.size := (own.lt g rfl).2
 have P0 : PG w w.heap.size base g W H n c 0 pr rs px (((w.alloc (.cells #[.int .i64 W, .int .i64 H, .slice (some ⟨g, 0, none⟩) n c] 25)).alloc (.cells (ic pr) 29)).alloc (.cells (ic rs) 29)) := by
  have a1 := Ext.alloc w (.cells #[.int .i64 W, .int .i64 H, .slice (some ⟨g, 0, none⟩) n c] 25)
  have a2 := Ext.alloc (w.alloc (.cells #[.int .i64 W, .int .i64 H, .slice (some ⟨g, 0, none⟩) n c] 25)) (.cells (ic pr) 29)
  have a3 := Ext.alloc ((w.alloc (.cells #[.int .i64 W, .int .i64 H, .slice (some ⟨g, 0, none⟩) n c] 25)).alloc (.cells (ic pr) 29)) (.cells (ic rs) 29)
  have q1 := (IB.new (w.alloc (.cells #[.int .i64 W, .int .i64 H, .slice (some ⟨g, 0, none⟩) n c] 25)) 29 pr).ext a3
  have q2 := IB.new ((w.alloc (.cells #[.int .i64 W, .int .i64 H, .slice (some ⟨g, 0, none⟩) n c] 25)).alloc (.cells (ic pr) 29)) 29 rs
  simp only [World.size_alloc] at q1 q2
  exact ⟨grown_ext (grown_refl _ _) ((a1.trans a2).trans a3), owns_ext own ((a1.trans a2).trans a3), a3.blk (a2.blk (blk_new _ _)), q1, q2, hgB⟩
 have q2 := P0.b2
 clear hp hr bp br
 go_enter Tryz.func78, Tryz.ntmps78
 go_wp2_with (refine wpList_iload 29 _ rfl rfl q2 0 16 rfl _ Tryz.underlying29 rfl size_A16 (by rw [Hr.out]; omega) _ (by rw [sub_all _ _ (Hr.out)]) ?_)
 try simp only [World.size_alloc]
 obtain ⟨B, hB⟩ : ∃ B, B = w.heap.size := ⟨_, rfl⟩
 rw [← hB] at P0 ⊢
 have HB0 := Lib.hid hB
 clear hB own hgB q2
 go_loopw [13] (fun i wr => ∃ k : Nat, k ≤ 16 ∧ i = .int .i64 k ∧ PG w B base g W H n c 0 pr rs (putS px W x y pr rs k) wr) (fun i _ => 16 - (intOf i).toNat)
 case atStart => exact ⟨0, by omega, rfl, P0⟩
 case round =>
  obtain ⟨k, hk, rfl, P1⟩ := hrel
  clear P0
  by_cases hlt : k < 16
  ·have hd : decide ((k : Int) < 16) = true := by simp; omega
   have hS := Lib.hid (show putS px W x y pr rs (k + 1) = (putS px W x y pr rs k).set ((y + k / 4) * W + x + k % 4) (clipI (nth pr k + nth rs k) 0 255) from rfl)
   obtain ⟨u, hu⟩ : ∃ u, u = y + k / 4 := ⟨_, rfl⟩
   rw [← hu] at hS
   have hu1 : u * W ≤ (y + 3) * W := Nat.mul_le_mul_right W (by omega)
   obtain ⟨q, hq⟩ : ∃ q, q = u * W + x + k % 4 := ⟨_, rfl⟩
   rw [← hq] at hS
   have hqn : q < n := by omega
   have hu2 : u ≤ 2000 := by omega
   have hm1 : (u : Int) * (W : Int) = ((u * W : Nat) : Int) := by rw [Int.natCast_mul]
   have hm : 0 ≤ (u : Int) * (W : Int) ∧ (u : Int) * (W : Int) ≤ 1099511627776 := by omega
   have Hu := Lib.hid (show (y : Int) + (k : Int) / 4 = (u : Int) by omega)
   have Hq := Lib.hid (show (u : Int) * (W : Int) + (x : Int) + (k : Int) % 4 = (q : Int) by omega)
   have v0b := Bp.out k
   have v1b := Br.out k
   have C0 := Lib.hid (fun (wx : World) (h : IB wx (B + 1) 29 pr) => h.cell (i := k) (by rw [Hp.out]; exact hlt))
   have C1 := Lib.hid (fun (wx : World) (h : IB wx (B + 1 + 1) 29 rs) => h.cell (i := k) (by rw [Hr.out]; exact hlt))
   go_wp2_with (refine wpList_iindex _ _ _ rfl rfl rs rfl k 16 _ rfl rfl _ Tryz.underlying29 Tryz.underlying3 size_int hlt Hr.out ?_)
   generalize nth pr k = v0 at *
   generalize nth rs k = v1 at *
   obtain ⟨v, hv⟩ : ∃ v, v = clipI (v0 + v1) 0 255 := ⟨_, rfl⟩
   rw [← hv] at hS
   have Hv := Lib.hid hv
   have hku : k / 4 ≤ 3 := by omega
   clear hv hu hq hu1 hm1
   generalize putS px W x y pr rs k = Zk at *
   obtain ⟨Zk1, hZk1⟩ : ∃ Z, Z = putS px W x y pr rs (k + 1) := ⟨_, rfl⟩
   rw [← hZk1] at hS
   have HZk1 := Lib.hid hZk1
   clear hZk1
   refine wp_region_invL (by kernel_rfl) [(17, 0), (18, 1), (19, 2), (20, 3), (21, 4), (22, 5), (23, 6), (24, 7), (25, 8), (26, 9), (27, 10), (28, 11), (29, 12), (30, 13), (31, 14), (32, 15), (33, 16), (34, 17), (35, 18), (36, 19), (37, 20)] [[], [0], [], [], [3], [2, 3, 4], [], [6], [2, 3, 4, 5, 6, 7], [], [2, 3, 4, 5, 6, 7, 8, 9], [], [11], [2, 3, 4, 5, 6, 7, 8, 9, 10, 11, 12], [], [14], [14, 15], [], [14, 15, 16, 17], [14, 15, 16, 17, 18], [0, 1, 2, 3, 4, 5, 6, 7, 8, 9, 10, 11, 12, 13, 14, 15, 16, 17, 18, 19], [0, 1, 2, 3, 4, 5, 6, 7, 8, 9, 10, 11, 12, 13, 14, 15, 16, 17, 18, 19, 20]] (fun i own ys wx => match i with | 0 => own = .pointer (some ⟨B, 2, none⟩) | 1 => own = .slice (some ⟨g, 0, none⟩) n c | 2 => own = .int .i64 (y : Nat) | 3 => own = .int .i64 (k : Nat) | 4 => own = .int .i64 ((k : Int) / 4) | 5 => own = .int .i64 (u : Nat) | 6 => own = .pointer (some ⟨B, 0, none⟩) | 7 => own = .int .i64 (W : Nat) | 8 => own = .int .i64 ((u : Int) * (W : Int)) | 9 => own = .int .i64 (x : Nat) | 10 => own = .int .i64 ((u : Int) * (W : Int) + (x : Int)) | 11 => own = .int .i64 (k : Nat) | 12 => own = .int .i64 ((k : Int) % 4) | 13 => own = .int .i64 (q : Nat) | 14 => own = .int .i64 (k : Nat) | 15 => own = .pointer (some ⟨B + 1, k, none⟩) | 16 => own = .int .i64 v0 | 17 => own = .int .i64 v1 | 18 => own = .int .i64 (v0 + v1) | 19 => own = .int .i64 v | 20 => own = .pointer (some ⟨g, q, none⟩) | 21 => True | _ => True) (fun Lx wx => PG w B base g W H n c 0 pr rs (if Lx 21 = true then Zk1 else Zk) wx) (by kernel_rfl) (by kernel_rfl) (by kernel_rfl) ?g0_r1 ?gop_r1 ?gend_r1
   case g0_r1 => exact P1.drew
   case gop_r1 =>
    refine ⟨?_, ?o1, ?_, ?_, ?o4, ?o5, ?_, ?o7, ?o8, ?_, ?o10, ?_, ?o12, ?o13, ?_, ?o15, ?o16, ?_, ?o18, ?o19, ?o20, ?o21, trivial⟩ <;> (intro Lx xs wx hG hl ha hb hD hI Qo Kx hK hQo; simp only [patchS, Nat.reduceAdd, Nat.reduceEqDiff, ↓reduceIte] at hQo ⊢)
    case o1 =>
     have l21 : Lx 21 = false := hb 21 rfl
     clear hl ha hb
     have d0 : _ = _ := hD 0 rfl
     clear hD hI
     generalize xs 0 = y0 at *
     subst d0
     obtain ⟨-, k0, k1, k2, -⟩ := bx3 hG.b0
     go_wp2
     exact hK.out _ _ ⟨rfl, hG, fun _ _ _ _ _ _ h => h⟩
    case o4 =>
     have l21 : Lx 21 = false := hb 21 rfl
     clear hl ha hb
     have d3 : _ = _ := hD 3 rfl
     clear hD hI
     generalize xs 3 = y3 at *
     subst d3
     go_wp2
     exact hK.out _ _ ⟨rfl, hG, fun _ _ _ _ _ _ h => h⟩
    case o5 =>
     have l21 : Lx 21 = false := hb 21 rfl
     clear hl ha hb
     have d2 : _ = _ := hD 2 rfl
     have d4 : _ = _ := hD 4 rfl
     clear hD hI
     generalize xs 2 = y2 at *
     generalize xs 4 = y4 at *
     subst d2 d4
     go_wp2
     exact hK.out _ _ ⟨by rw [← Hu.out], hG, fun _ _ _ _ _ _ h => h⟩
    case o7 =>
     have l21 : Lx 21 = false := hb 21 rfl
     clear hl ha hb
     have d6 : _ = _ := hD 6 rfl
     clear hD hI
     generalize xs 6 = y6 at *
     subst d6
     obtain ⟨-, k0, k1, k2, -⟩ := bx3 hG.b0
     go_wp2
     exact hK.out _ _ ⟨rfl, hG, fun _ _ _ _ _ _ h => h⟩
    case o8 =>
     have l21 : Lx 21 = false := hb 21 rfl
     clear hl ha hb
     have d5 : _ = _ := hD 5 rfl
     have d7 : _ = _ := hD 7 rfl
     clear hD hI
     generalize xs 5 = y5 at *
     generalize xs 7 = y7 at *
     subst d5 d7
     go_wp2
     exact hK.out _ _ ⟨rfl, hG, fun _ _ _ _ _ _ h => h⟩
    case o10 =>
     have l21 : Lx 21 = false := hb 21 rfl
     clear hl ha hb
     have d8 : _ = _ := hD 8 rfl
     have d9 : _ = _ := hD 9 rfl
     clear hD hI
     generalize xs 8 = y8 at *
     generalize xs 9 = y9 at *
     subst d8 d9
     go_wp2
     exact hK.out _ _ ⟨rfl, hG, fun _ _ _ _ _ _ h => h⟩
    case o12 =>
     have l21 : Lx 21 = false := hb 21 rfl
     clear hl ha hb
     have d11 : _ = _ := hD 11 rfl
     clear hD hI
     generalize xs 11 = y11 at *
     subst d11
     go_wp2
     exact hK.out _ _ ⟨rfl, hG, fun _ _ _ _ _ _ h => h⟩
    case o13 =>
     have l21 : Lx 21 = false := hb 21 rfl
     clear hl ha hb
     have d10 : _ = _ := hD 10 rfl
     have d12 : _ = _ := hD 12 rfl
     clear hD hI
     generalize xs 10 = y10 at *
     generalize xs 12 = y12 at *
     subst d10 d12
     go_wp2
     exact hK.out _ _ ⟨by rw [← Hq.out], hG, fun _ _ _ _ _ _ h => h⟩
    case o15 =>
     have l21 : Lx 21 = false := hb 21 rfl
     clear hl ha hb
     have d14 : _ = _ := hD 14 rfl
     clear hD hI
     generalize xs 14 = y14 at *
     subst d14
     go_wp2
     exact hK.out _ _ ⟨rfl, hG, fun _ _ _ _ _ _ h => h⟩
    case o16 =>
     have l21 : Lx 21 = false := hb 21 rfl
     clear hl ha hb
     have d15 : _ = _ := hD 15 rfl
     clear hD hI
     generalize xs 15 = y15 at *
     subst d15
     have cx := C0.out wx hG.b1
     go_wp2
     exact hK.out _ _ ⟨rfl, hG, fun _ _ _ _ _ _ h => h⟩
    case o18 =>
     have l21 : Lx 21 = false := hb 21 rfl
     clear hl ha hb
     have d16 : _ = _ := hD 16 rfl
     have d17 : _ = _ := hD 17 rfl
     clear hD hI
     generalize xs 16 = y16 at *
     generalize xs 17 = y17 at *
     subst d16 d17
     go_wp2
     exact hK.out _ _ ⟨rfl, hG, fun _ _ _ _ _ _ h => h⟩
    case o19 =>
     have l21 : Lx 21 = false := hb 21 rfl
     clear hl ha hb
     have d18 : _ = _ := hD 18 rfl
     clear hD hI
     generalize xs 18 = y18 at *
     subst d18
     go_wp2_with fail
     refine (clamp_any _ _ _ _ (by omega)).mono ?_
     rintro e w9 ⟨rfl, rfl⟩
     rw [← Hv.out]
     go_wp2
     exact hK.out _ _ ⟨rfl, hG, fun _ _ _ _ _ _ h => h⟩
    case o20 =>
     have l21 : Lx 21 = false := hb 21 rfl
     clear hl ha hb
     have d1 : _ = _ := hD 1 rfl
     have d13 : _ = _ := hD 13 rfl
     clear hD hI
     generalize xs 1 = y1 at *
     generalize xs 13 = y13 at *
     subst d1 d13
     go_wp2
     exact hK.out _ _ ⟨rfl, hG, fun _ _ _ _ _ _ h => h⟩
    case o21 =>
     have l21 : Lx 21 = false := hl
     clear hl ha hb
     have d19 : _ = _ := hD 19 rfl
     have d20 : _ = _ := hD 20 rfl
     clear hD hI
     generalize xs 19 = y19 at *
     generalize xs 20 = y20 at *
     subst d19 d20
     rw [l21, ifF] at hG
     have cx := own_cell hG.own hqn
     have fx := hG.own.frozenAt q
     have s2 := hG.set q v
     rw [← hS.out] at s2
     go_wp2
     exact hQo undef _ (hK.out _ _ ⟨trivial, s2, fun _ _ _ _ _ _ h => h⟩)
    all_goals
     have l21 : Lx 21 = false := hb 21 rfl
     clear hl ha hb hD hI
     go_wp2
     exact hK.out _ _ ⟨rfl, hG, fun _ _ _ _ _ _ h => h⟩
   intro xs wx hV hG0
   obtain ⟨Lx, hL, hG⟩ := hG0
   have l21 : Lx 21 = true := hL 21 (by decide)
   clear hL hV
   simp only [patchS, Nat.reduceAdd, Nat.reduceEqDiff, ↓reduceIte]
   generalize xs 0 = y0 at *
   generalize xs 1 = y1 at *
   generalize xs 2 = y2 at *
   generalize xs 3 = y3 at *
   generalize xs 4 = y4 at *
   generalize xs 5 = y5 at *
   generalize xs 6 = y6 at *
   generalize xs 7 = y7 at *
   generalize xs 8 = y8 at *
   generalize xs 9 = y9 at *
   generalize xs 10 = y10 at *
   generalize xs 11 = y11 at *
   generalize xs 12 = y12 at *
   generalize xs 13 = y13 at *
   generalize xs 14 = y14 at *
   generalize xs 15 = y15 at *
   generalize xs 16 = y16 at *
   generalize xs 17 = y17 at *
   generalize xs 18 = y18 at *
   generalize xs 19 = y19 at *
   generalize xs 20 = y20 at *
   generalize xs 21 = y21 at *
   replace hG : PG w B base g W H n c 0 pr rs (if Lx 21 = true then Zk1 else Zk) wx := hG
   rw [l21, ifT] at hG
   clear P1 C0 C1
   have HG := Lib.hid hG
   clear hG
   go_wp2
   go_roundw
   case rel => exact ⟨k + 1, by omega, by go_num, by rw [← HZk1.out]; exact HG.out⟩
   case measure => simp [intOf]; omega
  ·obtain rfl : k = 16 := by omega
   have HP := Lib.hid P1
   clear P1
   go_wp2
   go_end0
   exact ⟨rfl, HP.out.own, HP.out.gr⟩
set_option maxRecDepth 100000 in
set_option maxHeartbeats 2000000 in
theorem l8Put_any (W H x y base g n c : Nat) (px pr rs : List Int) (w : World) (hp : pr.length = 16) (hr : rs.length = 16) (bp : bdA 1099511627776 pr) (br : bdA 1099511627776 rs) (hW : W ≤ 32) (hx : x ≤ 1000) (hy : y ≤ 1000) (hn : (y + 3) * W + x + 3 < n) (hnb : n ≤ 1099511627776)
 (own : w.ownsRow base 3 1 (.slice (some ⟨g, 0, none⟩) n c) n (px.map (Value.int .i64))) :
 Calls Tryz.prog 142 #[.agg #[.int .i64 W, .int .i64 H, .slice (some ⟨g, 0, none⟩) n c], .int .i64 (x : Nat), .int .i64 (y : Nat), .agg (ic pr), .agg (ic rs)] w fun e w' => e = .returned (.tuple #[]) ∧ w'.ownsRow base 3 1 (.slice (some ⟨g, 0, none⟩) n c) n ((putS px W x y pr rs 16).map (Value.int .i64)) ∧ w.grownBy w' (some g) := by
 have Hp := Lib.hid hp
 have Hr := Lib.hid hr
 have Bp := Lib.hid bp
 have Br := Lib.hid br
 have hgB : g < w.heap.size := (own.lt g rfl).2
 have P0 : PG w w.heap.size base g W H n c 0 pr rs px (((w.alloc (.cells #[.int .i64 W, .int .i64 H, .slice (some ⟨g, 0, none⟩) n c] 25)).alloc (.cells (ic pr) 29)).alloc (.cells (ic rs) 29)) := by
  have a1 := Ext.alloc w (.cells #[.int .i64 W, .int .i64 H, .slice (some ⟨g, 0, none⟩) n c] 25)
  have a2 := Ext.alloc (w.alloc (.cells #[.int .i64 W, .int .i64 H, .slice (some ⟨g, 0, none⟩) n c] 25)) (.cells (ic pr) 29)
  have a3 := Ext.alloc ((w.alloc (.cells #[.int .i64 W, .int .i64 H, .slice (some ⟨g, 0, none⟩) n c] 25)).alloc (.cells (ic pr) 29)) (.cells (ic rs) 29)
  have q1 := (IB.new (w.alloc (.cells #[.int .i64 W, .int .i64 H, .slice (some ⟨g, 0, none⟩) n c] 25)) 29 pr).ext a3
  have q2 := IB.new ((w.alloc (.cells #[.int .i64 W, .int .i64 H, .slice (some ⟨g, 0, none⟩) n c] 25)).alloc (.cells (ic pr) 29)) 29 rs
  simp only [World.size_alloc] at q1 q2
  exact ⟨grown_ext (grown_refl _ _) ((a1.trans a2).trans a3), owns_ext own ((a1.trans a2).trans a3), a3.blk (a2.blk (blk_new _ _)), q1, q2, hgB⟩
 have q2 := P0.b2
 clear hp hr bp br
 go_enter Tryz.func142, Tryz.ntmps142
 go_wp2_with fail
 try simp only [World.size_alloc]
 obtain ⟨B, hB⟩ : ∃ B, B = w.heap.size := ⟨_, rfl⟩
 rw [← hB] at P0 ⊢
 have HB0 := Lib.hid hB
 clear hB own hgB q2
 go_loopw [10] (fun i wr => ∃ k : Nat, k ≤ 16 ∧ i = .int .i64 k ∧ PG w B base g W H n c 0 pr rs (putS px W x y pr rs k) wr) (fun i _ => 16 - (intOf i).toNat)
 case atStart => exact ⟨0, by omega, rfl, P0⟩
 case round =>
  obtain ⟨k, hk, rfl, P1⟩ := hrel
  clear P0
  by_cases hlt : k < 16
  ·have hd : decide ((k : Int) < 16) = true := by simp; omega
   have hS := Lib.hid (show putS px W x y pr rs (k + 1) = (putS px W x y pr rs k).set ((y + k / 4) * W + x + k % 4) (clipI (nth pr k + nth rs k) 0 255) from rfl)
   obtain ⟨u, hu⟩ : ∃ u, u = y + k / 4 := ⟨_, rfl⟩
   rw [← hu] at hS
   have hu1 : u * W ≤ (y + 3) * W := Nat.mul_le_mul_right W (by omega)
   obtain ⟨q, hq⟩ : ∃ q, q = u * W + x + k % 4 := ⟨_, rfl⟩
   rw [← hq] at hS
   have hqn : q < n := by omega
   have hu2 : u ≤ 2000 := by omega
   have hm1 : (u : Int) * (W : Int) = ((u * W : Nat) : Int) := by rw [Int.natCast_mul]
   have hm : 0 ≤ (u : Int) * (W : Int) ∧ (u : Int) * (W : Int) ≤ 1099511627776 := by omega
   have Hu := Lib.hid (show (y : Int) + (k : Int) / 4 = (u : Int) by omega)
   have Hq := Lib.hid (show (u : Int) * (W : Int) + (x : Int) + (k : Int) % 4 = (q : Int) by omega)
   have v0b := Bp.out k
   have v1b := Br.out k
   have C0 := Lib.hid (fun (wx : World) (h : IB wx (B + 1) 29 pr) => h.cell (i := k) (by rw [Hp.out]; exact hlt))
   have C1 := Lib.hid (fun (wx : World) (h : IB wx (B + 1 + 1) 29 rs) => h.cell (i := k) (by rw [Hr.out]; exact hlt))
   go_wp2_with fail
   generalize nth pr k = v0 at *
   generalize nth rs k = v1 at *
   obtain ⟨v, hv⟩ : ∃ v, v = clipI (v0 + v1) 0 255 := ⟨_, rfl⟩
   rw [← hv] at hS
   have Hv := Lib.hid hv
   have hku : k / 4 ≤ 3 := by omega
   clear hv hu hq hu1 hm1
   generalize putS px W x y pr rs k = Zk at *
   obtain ⟨Zk1, hZk1⟩ : ∃ Z, Z = putS px W x y pr rs (k + 1) := ⟨_, rfl⟩
   rw [← hZk1] at hS
   have HZk1 := Lib.hid hZk1
   clear hZk1
   refine wp_region_invL (by kernel_rfl) [(15, 0), (16, 1), (17, 2), (18, 3), (19, 4), (20, 5), (21, 6), (22, 7), (23, 8), (24, 9), (25, 10), (26, 11), (27, 12), (28, 13), (29, 14), (30, 15), (31, 16), (32, 17), (33, 18), (34, 19), (35, 20), (36, 21), (37, 22)] [[], [0], [], [], [3], [2, 3, 4], [], [6], [2, 3, 4, 5, 6, 7], [], [2, 3, 4, 5, 6, 7, 8, 9], [], [11], [2, 3, 4, 5, 6, 7, 8, 9, 10, 11, 12], [], [14], [14, 15], [], [17], [17, 18], [14, 15, 16, 17, 18, 19], [14, 15, 16, 17, 18, 19, 20], [0, 1, 2, 3, 4, 5, 6, 7, 8, 9, 10, 11, 12, 13, 14, 15, 16, 17, 18, 19, 20, 21], [0, 1, 2, 3, 4, 5, 6, 7, 8, 9, 10, 11, 12, 13, 14, 15, 16, 17, 18, 19, 20, 21, 22]] (fun i own ys wx => match i with | 0 => own = .pointer (some ⟨B, 2, none⟩) | 1 => own = .slice (some ⟨g, 0, none⟩) n c | 2 => own = .int .i64 (y : Nat) | 3 => own = .int .i64 (k : Nat) | 4 => own = .int .i64 ((k : Int) / 4) | 5 => own = .int .i64 (u : Nat) | 6 => own = .pointer (some ⟨B, 0, none⟩) | 7 => own = .int .i64 (W : Nat) | 8 => own = .int .i64 ((u : Int) * (W : Int)) | 9 => own = .int .i64 (x : Nat) | 10 => own = .int .i64 ((u : Int) * (W : Int) + (x : Int)) | 11 => own = .int .i64 (k : Nat) | 12 => own = .int .i64 ((k : Int) % 4) | 13 => own = .int .i64 (q : Nat) | 14 => own = .int .i64 (k : Nat) | 15 => own = .pointer (some ⟨B + 1, k, none⟩) | 16 => own = .int .i64 v0 | 17 => own = .int .i64 (k : Nat) | 18 => own = .pointer (some ⟨B + 1 + 1, k, none⟩) | 19 => own = .int .i64 v1 | 20 => own = .int .i64 (v0 + v1) | 21 => own = .int .i64 v | 22 => own = .pointer (some ⟨g, q, none⟩) | 23 => True | _ => True) (fun Lx wx => PG w B base g W H n c 0 pr rs (if Lx 23 = true then Zk1 else Zk) wx) (by kernel_rfl) (by kernel_rfl) (by kernel_rfl) ?g0_r2 ?gop_r2 ?gend_r2
   case g0_r2 => exact P1.drew
   case gop_r2 =>
    refine ⟨?_, ?o1, ?_, ?_, ?o4, ?o5, ?_, ?o7, ?o8, ?_, ?o10, ?_, ?o12, ?o13, ?_, ?o15, ?o16, ?_, ?o18, ?o19, ?o20, ?o21, ?o22, ?o23, trivial⟩ <;> (intro Lx xs wx hG hl ha hb hD hI Qo Kx hK hQo; simp only [patchS, Nat.reduceAdd, Nat.reduceEqDiff, ↓reduceIte] at hQo ⊢)
    case o1 =>
     have l23 : Lx 23 = false := hb 23 rfl
     clear hl ha hb
     have d0 : _ = _ := hD 0 rfl
     clear hD hI
     generalize xs 0 = y0 at *
     subst d0
     obtain ⟨-, k0, k1, k2, -⟩ := bx3 hG.b0
     go_wp2
     exact hK.out _ _ ⟨rfl, hG, fun _ _ _ _ _ _ h => h⟩
    case o4 =>
     have l23 : Lx 23 = false := hb 23 rfl
     clear hl ha hb
     have d3 : _ = _ := hD 3 rfl
     clear hD hI
     generalize xs 3 = y3 at *
     subst d3
     go_wp2
     exact hK.out _ _ ⟨rfl, hG, fun _ _ _ _ _ _ h => h⟩
    case o5 =>
     have l23 : Lx 23 = false := hb 23 rfl
     clear hl ha hb
     have d2 : _ = _ := hD 2 rfl
     have d4 : _ = _ := hD 4 rfl
     clear hD hI
     generalize xs 2 = y2 at *
     generalize xs 4 = y4 at *
     subst d2 d4
     go_wp2
     exact hK.out _ _ ⟨by rw [← Hu.out], hG, fun _ _ _ _ _ _ h => h⟩
    case o7 =>
     have l23 : Lx 23 = false := hb 23 rfl
     clear hl ha hb
     have d6 : _ = _ := hD 6 rfl
     clear hD hI
     generalize xs 6 = y6 at *
     subst d6
     obtain ⟨-, k0, k1, k2, -⟩ := bx3 hG.b0
     go_wp2
     exact hK.out _ _ ⟨rfl, hG, fun _ _ _ _ _ _ h => h⟩
    case o8 =>
     have l23 : Lx 23 = false := hb 23 rfl
     clear hl ha hb
     have d5 : _ = _ := hD 5 rfl
     have d7 : _ = _ := hD 7 rfl
     clear hD hI
     generalize xs 5 = y5 at *
     generalize xs 7 = y7 at *
     subst d5 d7
     go_wp2
     exact hK.out _ _ ⟨rfl, hG, fun _ _ _ _ _ _ h => h⟩
    case o10 =>
     have l23 : Lx 23 = false := hb 23 rfl
     clear hl ha hb
     have d8 : _ = _ := hD 8 rfl
     have d9 : _ = _ := hD 9 rfl
     clear hD hI
     generalize xs 8 = y8 at *
     generalize xs 9 = y9 at *
     subst d8 d9
     go_wp2
     exact hK.out _ _ ⟨rfl, hG, fun _ _ _ _ _ _ h => h⟩
    case o12 =>
     have l23 : Lx 23 = false := hb 23 rfl
     clear hl ha hb
     have d11 : _ = _ := hD 11 rfl
     clear hD hI
     generalize xs 11 = y11 at *
     subst d11
     go_wp2
     exact hK.out _ _ ⟨rfl, hG, fun _ _ _ _ _ _ h => h⟩
    case o13 =>
     have l23 : Lx 23 = false := hb 23 rfl
     clear hl ha hb
     have d10 : _ = _ := hD 10 rfl
     have d12 : _ = _ := hD 12 rfl
     clear hD hI
     generalize xs 10 = y10 at *
     generalize xs 12 = y12 at *
     subst d10 d12
     go_wp2
     exact hK.out _ _ ⟨by rw [← Hq.out], hG, fun _ _ _ _ _ _ h => h⟩
    case o15 =>
     have l23 : Lx 23 = false := hb 23 rfl
     clear hl ha hb
     have d14 : _ = _ := hD 14 rfl
     clear hD hI
     generalize xs 14 = y14 at *
     subst d14
     go_wp2
     exact hK.out _ _ ⟨rfl, hG, fun _ _ _ _ _ _ h => h⟩
    case o16 =>
     have l23 : Lx 23 = false := hb 23 rfl
     clear hl ha hb
     have d15 : _ = _ := hD 15 rfl
     clear hD hI
     generalize xs 15 = y15 at *
     subst d15
     have cx := C0.out wx hG.b1
     go_wp2
     exact hK.out _ _ ⟨rfl, hG, fun _ _ _ _ _ _ h => h⟩
    case o18 =>
     have l23 : Lx 23 = false := hb 23 rfl
     clear hl ha hb
     have d17 : _ = _ := hD 17 rfl
     clear hD hI
     generalize xs 17 = y17 at *
     subst d17
     go_wp2
     exact hK.out _ _ ⟨rfl, hG, fun _ _ _ _ _ _ h => h⟩
    case o19 =>
     have l23 : Lx 23 = false := hb 23 rfl
     clear hl ha hb
     have d18 : _ = _ := hD 18 rfl
     clear hD hI
     generalize xs 18 = y18 at *
     subst d18
     have cx := C1.out wx hG.b2
     go_wp2
     exact hK.out _ _ ⟨rfl, hG, fun _ _ _ _ _ _ h => h⟩
    case o20 =>
     have l23 : Lx 23 = false := hb 23 rfl
     clear hl ha hb
     have d16 : _ = _ := hD 16 rfl
     have d19 : _ = _ := hD 19 rfl
     clear hD hI
     generalize xs 16 = y16 at *
     generalize xs 19 = y19 at *
     subst d16 d19
     go_wp2
     exact hK.out _ _ ⟨rfl, hG, fun _ _ _ _ _ _ h => h⟩
    case o21 =>
     have l23 : Lx 23 = false := hb 23 rfl
     clear hl ha hb
     have d20 : _ = _ := hD 20 rfl
     clear hD hI
     generalize xs 20 = y20 at *
     subst d20
     go_wp2_with fail
     refine (l1Clip_any _ _ _ _).mono ?_
     rintro e w9 ⟨rfl, rfl⟩
     rw [← Hv.out]
     go_wp2
     exact hK.out _ _ ⟨rfl, hG, fun _ _ _ _ _ _ h => h⟩
    case o22 =>
     have l23 : Lx 23 = false := hb 23 rfl
     clear hl ha hb
     have d1 : _ = _ := hD 1 rfl
     have d13 : _ = _ := hD 13 rfl
     clear hD hI
     generalize xs 1 = y1 at *
     generalize xs 13 = y13 at *
     subst d1 d13
     go_wp2
     exact hK.out _ _ ⟨rfl, hG, fun _ _ _ _ _ _ h => h⟩
    case o23 =>
     have l23 : Lx 23 = false := hl
     clear hl ha hb
     have d21 : _ = _ := hD 21 rfl
     have d22 : _ = _ := hD 22 rfl
     clear hD hI
     generalize xs 21 = y21 at *
     generalize xs 22 = y22 at *
     subst d21 d22
     rw [l23, ifF] at hG
     have cx := own_cell hG.own hqn
     have fx := hG.own.frozenAt q
     have s2 := hG.set q v
     rw [← hS.out] at s2
     go_wp2
     exact hQo undef _ (hK.out _ _ ⟨trivial, s2, fun _ _ _ _ _ _ h => h⟩)
    all_goals
     have l23 : Lx 23 = false := hb 23 rfl
     clear hl ha hb hD hI
     go_wp2
     exact hK.out _ _ ⟨rfl, hG, fun _ _ _ _ _ _ h => h⟩
   intro xs wx hV hG0
   obtain ⟨Lx, hL, hG⟩ := hG0
   have l23 : Lx 23 = true := hL 23 (by decide)
   clear hL hV
   simp only [patchS, Nat.reduceAdd, Nat.reduceEqDiff, ↓reduceIte]
   generalize xs 0 = y0 at *
   generalize xs 1 = y1 at *
   generalize xs 2 = y2 at *
   generalize xs 3 = y3 at *
   generalize xs 4 = y4 at *
   generalize xs 5 = y5 at *
   generalize xs 6 = y6 at *
   generalize xs 7 = y7 at *
   generalize xs 8 = y8 at *
   generalize xs 9 = y9 at *
   generalize xs 10 = y10 at *
   generalize xs 11 = y11 at *
   generalize xs 12 = y12 at *
   generalize xs 13 = y13 at *
   generalize xs 14 = y14 at *
   generalize xs 15 = y15 at *
   generalize xs 16 = y16 at *
   generalize xs 17 = y17 at *
   generalize xs 18 = y18 at *
   generalize xs 19 = y19 at *
   generalize xs 20 = y20 at *
   generalize xs 21 = y21 at *
   generalize xs 22 = y22 at *
   generalize xs 23 = y23 at *
   replace hG : PG w B base g W H n c 0 pr rs (if Lx 23 = true then Zk1 else Zk) wx := hG
   rw [l23, ifT] at hG
   clear P1 C0 C1
   have HG := Lib.hid hG
   clear hG
   go_wp2
   go_roundw
   case rel => exact ⟨k + 1, by omega, by go_num, by rw [← HZk1.out]; exact HG.out⟩
   case measure => simp [intOf]; omega
  ·obtain rfl : k = 16 := by omega
   have HP := Lib.hid P1
   clear P1
   go_wp2
   go_end0
   exact ⟨rfl, HP.out.own, HP.out.gr⟩
end Go.Proofs.YtbnhaegidfbgbaaGreatDoor
namespace Go.Proofs.YtbnhaegidfbgbaaGreatDoor
open Go.RowKit
set_option maxHeartbeats 1000000
section
variable {P : Program}
def setL (arr : Array Value) : Nat → List Value → Array Value
 | _, [] => arr
 | i, y :: ys => setL (arr.setIfInBounds i y) (i + 1) ys
theorem setL_list : ∀ (ys : List Value) (i : Nat) (arr : Array Value), i + ys.length ≤ arr.size → (setL arr i ys).toList = arr.toList.take i ++ ys ++ arr.toList.drop (i + ys.length)
 | [], i, arr, h => by simp [setL]
 | y :: ys, i, arr, h => by
  have hi : i < arr.toList.length := by simp at h ⊢; omega
  unfold setL
  rw [setL_list ys (i + 1) _ (by simp at h ⊢; omega), Array.toList_setIfInBounds, List.take_set, List.drop_set_of_lt (by omega), List.take_succ_eq_append_getElem hi, List.set_append_right _ _ (by simp; omega)]
  have e : i - (List.take i arr.toList).length = 0 := by simp at hi ⊢; omega
  rw [e]
  simp [Nat.add_assoc, Nat.add_comm 1]
theorem setL_all {ys : List Value} {arr : Array Value} (h : ys.length = arr.size) : setL arr 0 ys = ys.toArray := by
 apply Array.toList_inj.1
 rw [setL_list _ _ _ (by omega)]
 have : arr.toList.length ≤ 0 + ys.length := by simp; omega
 rw [List.drop_of_length_le this]
 simp
theorem run_storeCells_w {b T : Nat} : ∀ (ys : List Value) (i : Nat) (arr : Array Value) (w : World), (∀ y ∈ ys, y.oneCell' = true) → w.heap[b]? = some (.cells arr T (0, 0)) → i + ys.length ≤ arr.size →
 ∃ w', (storeCells ⟨b, 0, none⟩ ys i).run P w = .ok () w' ∧ w'.heap[b]? = some (.cells (setL arr i ys) T (0, 0)) ∧ w.grownBy w' (some b)
 | [], i, arr, w, _, h, hl => ⟨w, by simp [storeCells], h, World.grownBy.refl _ _⟩
 | y :: ys, i, arr, w, hy, h, hl => by
  have hlt : i < arr.size := by simp at hl; omega
  have hadd : (⟨b, 0, none⟩ : Addr).add i = ⟨b, i, none⟩ := by rw [Addr.add_lit, Nat.zero_add]
  have hc : w.cell? ⟨b, i, none⟩ = some arr[i] := by simp [World.cell?, h, hlt]
  have hst : (store ((⟨b, 0, none⟩ : Addr).add i) y).run P w = .ok () (w.setCell ⟨b, i, none⟩ y) := by
   rw [hadd, run_store P w _ y _ (hy y (by simp)), hc]
   simp [World.frozen?, h]
  have h1 := heap_setCell_same w b i arr T y h
  obtain ⟨w', k1, k2, k3⟩ := run_storeCells_w ys (i + 1) (arr.setIfInBounds i y) _ (fun z hz => hy z (by simp [hz])) h1 (by simp at hl ⊢; omega)
  refine ⟨w', ?_, k2, grownBy_trans (gr_set _ _ _ _) k3⟩
  simp only [storeCells, Sem.run_bind, hst, Result.andThen_ok, k1]
/-- *p = y, a whole block. -/
theorem wpList_cstore {ops : Array Oper} {rest : List Oper} {o : Oper} {a : Act} {w : World} {Q : Exit → Act → World → Prop} (ty : TypeId) (x y : Operand) (ho : o.op = .store ty x y) (hgd : Region.wanted o (yielded ops a.tmps) = true)
 {b T : Nat} {arr : Array Value} (h : w.heap[b]? = some (.cells arr T (0, 0))) (hx : a.eval x = .pointer (some ⟨b, 0, none⟩)) (cs : Array Value) (hy : a.eval y = .agg cs) (h1 : ∀ u ∈ cs.toList, u.oneCell' = true)
 (n : Nat) (hi : (P.info? ty).map (·.size) = some n) (hn : cs.size = n) (hn2 : arr.size = n)
 (hK : ∀ w', w'.heap[b]? = some (.cells cs T (0, 0)) → w.grownBy w' (some b) → wpList P ops Q rest (a.put o.dst undef) w') : wpList P ops Q (o :: rest) a w := by
 refine wpList_wanted hgd fun _ hK' => ?_
 obtain ⟨w', k1, k2, k3⟩ := run_storeCells_w (P := P) cs.toList 0 arr w h1 h (by simp; omega)
 rw [setL_all (by simp; omega)] at k2
 have hs : (storeVar ty ⟨b, 0, none⟩ (.agg cs)).run P w = .ok () w' := by
  cases hq : P.info? ty with
  | none => simp [hq] at hi
  | some i =>
   have hs : i.size = n := by simpa [hq] using hi
   have e : (Value.agg cs).cells = cs := rfl
   simp [storeVar, sizeOf, typeInfo, hq, e, hs, hn, k1]
 unfold Oper.wp execOp
 simp only [ho, hx, hy, Instr.storeAt, Instr.sureAddr, Sem.run_bind, Sem.run_pure, Result.andThen_ok, hs]
 exact hK' _ _ (hK w' (by simpa using k2) k3)
theorem wpList_cload {ops : Array Oper} {rest : List Oper} {o : Oper} {a : Act} {w : World} {Q : Exit → Act → World → Prop} (ty : TypeId) (x : Operand) (ho : o.op = .load ty x) (hgd : Region.wanted o (yielded ops a.tmps) = true)
 {b T : Nat} {cs : Array Value} (h : w.heap[b]? = some (.cells cs T (0, 0))) (hx : a.eval x = .pointer (some ⟨b, 0, none⟩)) (d : TypeDesc)
 (hu : P.underlying ty = some d) (hd : (match d with | .struct _ | .array _ _ => true | _ => false) = true) (n : Nat) (hi : (P.info? ty).map (·.size) = some n) (hn : cs.size = n)
 (hK : wpList P ops Q rest (a.put o.dst (.agg cs)) w) : wpList P ops Q (o :: rest) a w := by
 refine wpList_wanted hgd fun _ hK' => ?_
 have hl := run_loadVar_row (P := P) w b T ty cs (0, 0) d h hu hd (by rw [hi, hn])
 unfold Oper.wp execOp
 simp only [ho, hx, Instr.loadAt, Instr.sureAddr, Sem.run_bind, Sem.run_pure, Result.andThen_ok, hl]
 exact hK' _ _ hK
end
/-- The cells of the samples around a block. -/
def edC (e : Ed) : Array Value := (e.ab.map (Value.int .i64) ++ (e.lf.map (Value.int .i64) ++ [Value.int .i64 e.co, Value.bool e.up, Value.bool e.le])).toArray
structure Ed.ln (e : Ed) : Prop where
 ab : e.ab.length = 4
 lf : e.lf.length = 4
theorem Ed.ok.ln {e : Ed} (h : e.ok) : e.ln := ⟨h.ab, h.lf⟩
theorem edC_size {e : Ed} (h : e.ln) : (edC e).size = 11 := by simp [edC, h.ab, h.lf]
theorem edC_ab {e : Ed} (h : e.ln) {k : Nat} (hk : k < 4) : (edC e)[k]? = some (.int .i64 (nth e.ab k)) := by
 have := h.ab
 simp [edC, nth, List.getElem?_append_left (show k < (e.ab.map (Value.int .i64)).length by simp; omega), show k < e.ab.length by omega]
theorem edC_lf {e : Ed} (h : e.ln) {k : Nat} (hk : k < 4) : (edC e)[4 + k]? = some (.int .i64 (nth e.lf k)) := by
 have h1 := h.ab
 have h2 := h.lf
 simp [edC, nth, List.getElem?_append_right (show (e.ab.map (Value.int .i64)).length ≤ 4 + k by simp; omega), h1, List.getElem?_append_left (show k < (e.lf.map (Value.int .i64)).length by simp; omega), show k < e.lf.length by omega]
theorem edC_3 {e : Ed} (h : e.ln) (k : Nat) : (edC e)[8 + k]? = [Value.int .i64 e.co, .bool e.up, .bool e.le][k]? := by
 have h1 := h.ab
 have h2 := h.lf
 have e1 : (edC e).toList = (e.ab.map (Value.int .i64) ++ e.lf.map (Value.int .i64)) ++ [Value.int .i64 e.co, Value.bool e.up, Value.bool e.le] := by simp [edC]
 rw [← Array.getElem?_toList, e1, List.getElem?_append_right (by simp; omega)]
 congr 1
 simp; omega
/-- Block b holds the samples around a block. -/
def EB (w : World) (b : Nat) (e : Ed) : Prop := w.heap[b]? = some (.cells (edC e) 106 (0, 0))
theorem EB.at {w : World} {b : Nat} {e : Ed} (h : EB w b e) {i : Nat} {v : Value} (hi : (edC e)[i]? = some v) : w.cell? ⟨b, i, none⟩ = some v := by
 have : w.heap[b]? = some (.cells (edC e) 106 (0, 0)) := h
 simp [World.cell?, this, hi]
theorem EB.ab {w : World} {b : Nat} {e : Ed} (h : EB w b e) (l : e.ln) {k : Nat} (hk : k < 4) : w.cell? ⟨b, k, none⟩ = some (.int .i64 (nth e.ab k)) := h.at (edC_ab l hk)
theorem EB.lf {w : World} {b : Nat} {e : Ed} (h : EB w b e) (l : e.ln) {k : Nat} (hk : k < 4) : w.cell? ⟨b, 4 + k, none⟩ = some (.int .i64 (nth e.lf k)) := h.at (edC_lf l hk)
theorem EB.co {w : World} {b : Nat} {e : Ed} (h : EB w b e) (l : e.ln) : w.cell? ⟨b, 8, none⟩ = some (.int .i64 e.co) := h.at (edC_3 l 0)
theorem EB.up {w : World} {b : Nat} {e : Ed} (h : EB w b e) (l : e.ln) : w.cell? ⟨b, 9, none⟩ = some (.bool e.up) := h.at (edC_3 l 1)
theorem EB.le {w : World} {b : Nat} {e : Ed} (h : EB w b e) (l : e.ln) : w.cell? ⟨b, 10, none⟩ = some (.bool e.le) := h.at (edC_3 l 2)
theorem EB.frozen {w : World} {b : Nat} {e : Ed} (h : EB w b e) (i : Nat) : w.frozen? ⟨b, i, none⟩ = false := by
 have : w.heap[b]? = some (.cells (edC e) 106 (0, 0)) := h
 simp [World.frozen?, this]
theorem EB.lt {w : World} {b : Nat} {e : Ed} (h : EB w b e) : b < w.heap.size := lt_of_block h
theorem EB.ext {w w' : World} {b : Nat} {e : Ed} (h : EB w b e) (x : Ext w w') : EB w' b e := x.blk h
theorem EB.gr {w w' : World} {b : Nat} {e : Ed} {row : Option Nat} (h : EB w b e) (g : w.grownBy w' row) (hne : row ≠ some b) : EB w' b e := blk_gr h g hne
theorem EB.set_other {w : World} {b c i : Nat} {v : Value} {e : Ed} (h : EB w b e) (hne : b ≠ c) : EB (w.setCell ⟨c, i, none⟩ v) b e := blk_set_other h hne
theorem EB.new (w : World) (e : Ed) : EB (w.alloc (.cells (edC e) 106)) w.heap.size e := blk_new w _
theorem EB.set_ab {w : World} {b : Nat} {e : Ed} (h : EB w b e) (l : e.ln) {k : Nat} (hk : k < 4) (v : Int) : EB (w.setCell ⟨b, k, none⟩ (.int .i64 v)) b { e with ab := e.ab.set k v } := by
 have h1 := heap_setCell_same w b k (edC e) _ (.int .i64 v) h
 have h2 : (edC e).setIfInBounds k (.int .i64 v) = edC { e with ab := e.ab.set k v } := by
  apply Array.toList_inj.1
  have := l.ab
  rw [Array.toList_setIfInBounds]
  simp only [edC]
  rw [List.set_append_left _ _ (by simp; omega), List.map_set]
 rw [h2] at h1
 exact h1
theorem EB.set_lf {w : World} {b : Nat} {e : Ed} (h : EB w b e) (l : e.ln) {k : Nat} (hk : k < 4) (v : Int) : EB (w.setCell ⟨b, 4 + k, none⟩ (.int .i64 v)) b { e with lf := e.lf.set k v } := by
 have h1 := heap_setCell_same w b (4 + k) (edC e) _ (.int .i64 v) h
 have h2 : (edC e).setIfInBounds (4 + k) (.int .i64 v) = edC { e with lf := e.lf.set k v } := by
  apply Array.toList_inj.1
  have a1 := l.ab
  have a2 := l.lf
  rw [Array.toList_setIfInBounds]
  simp only [edC]
  rw [List.set_append_right _ _ (by simp; omega), List.length_map, a1, show 4 + k - 4 = k by omega, List.set_append_left _ _ (by simp; omega), List.map_set]
 rw [h2] at h1
 exact h1
theorem EB.set_co {w : World} {b : Nat} {e : Ed} (h : EB w b e) (l : e.ln) (v : Int) : EB (w.setCell ⟨b, 8, none⟩ (.int .i64 v)) b { e with co := v } := by
 have h1 := heap_setCell_same w b 8 (edC e) _ (.int .i64 v) h
 have h2 : (edC e).setIfInBounds 8 (.int .i64 v) = edC { e with co := v } := by
  apply Array.toList_inj.1
  have a1 := l.ab
  have a2 := l.lf
  rw [Array.toList_setIfInBounds]
  simp only [edC]
  rw [List.set_append_right _ _ (by simp; omega), List.length_map, a1, List.set_append_right _ _ (by simp; omega), List.length_map, a2]
  rfl
 rw [h2] at h1
 exact h1
theorem edC_one (e : Ed) : ∀ u ∈ (edC e).toList, u.oneCell' = true := by
 intro u hu
 simp only [edC, List.mem_append, List.mem_map, List.mem_cons, List.not_mem_nil, or_false] at hu
 rcases hu with ⟨z, -, rfl⟩ | ⟨z, -, rfl⟩ | rfl | rfl | rfl <;> rfl
theorem size_Edges : (Tryz.prog.info? 106).map (·.size) = some 11 := by kernel_rfl
end Go.Proofs.YtbnhaegidfbgbaaGreatDoor
