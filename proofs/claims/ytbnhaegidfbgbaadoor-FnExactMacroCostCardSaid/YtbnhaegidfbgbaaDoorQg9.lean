/- The prediction of a block from the samples around it: the reference's. | A new picture of one value; the law's 'alive'. | PictureValid, both sides. | Tests on pictures: both sides. | MacroValid: the program's. -/
import Derived.Test.YtbnhaegidfbgbaaDoorQg8
namespace Go.Proofs.YtbnhaegidfbgbaaDoor
open Go.RowKit
set_option maxHeartbeats 1000000
set_option maxRecDepth 100000 in
theorem l6Predict_0 (e : Ed) (w : World) (ok : e.ok) :
 Calls Tryd.prog 99 #[.int .i64 0, .agg (edC e)] w fun r w' => r = .returned (.agg (ic (prd 0 e))) ∧ Ext w w' := by
 have OK := Lib.hid ok
 have HI := Lib.hid (prd_len 0 e)
 have Hm := Lib.hid (fun (k : Nat) (hk : k < 16) => prd_mix 0 e hk)
 have a2 := Ext.alloc (w.alloc (.cells (edC e) 97)) (.cells (ic (List.replicate 16 0)) 31)
 have a3 := Ext.alloc ((w.alloc (.cells (edC e) 97)).alloc (.cells (ic (List.replicate 16 0)) 31)) (.cells (ic (List.replicate 16 0)) 31)
 have p0 := ((EB.new w e).ext a2).ext a3
 have p1 := (IB.new (w.alloc (.cells (edC e) 97)) 31 (List.replicate 16 0)).ext a3
 have p2 := IB.new ((w.alloc (.cells (edC e) 97)).alloc (.cells (ic (List.replicate 16 0)) 31)) 31 (List.replicate 16 0)
 have E1 := ((Ext.alloc w (.cells (edC e) 97)).trans a2).trans a3
 simp only [World.size_alloc] at p1 p2
 clear a2 a3 ok
 go_enter Tryd.func99, Tryd.ntmps99
 go_wp2_with (refine wpList_cload 97 _ rfl rfl p0 rfl _ Tryd.underlying97 rfl 11 size_Edges (edC_size OK.out.ln) ?_)
 try simp only [World.size_alloc]
 obtain ⟨B, hB⟩ : ∃ B, B = w.heap.size := ⟨_, rfl⟩
 rw [← hB] at p0 p1 p2 ⊢
 have hwB : w.heap.size ≤ B := by omega
 have HB := Lib.hid hB
 clear hB
 refine (l6Mean_any e _ OK.out).mono ?_
 rintro r w0 ⟨rfl, e0⟩
 have q0 := p0.ext e0
 have q1 := p1.ext e0
 have q2 := p2.ext e0
 have E2 := E1.trans e0
 clear p0 p1 p2 E1 e0
 go_wp2_with fail
 go_loopw [7] (fun y wr => ∃ Y : Nat, Y ≤ 4 ∧ y = .int .i64 Y ∧ Ext w wr ∧ EB wr B e ∧ IB wr (B + 1) 31 (List.replicate 16 0) ∧ IB wr (B + 1 + 1) 31 (mixI (prd 0 e) (List.replicate 16 0) (4 * Y))) (fun y _ => 4 - (intOf y).toNat)
 case atStart => exact ⟨0, by omega, rfl, E2, q0, q1, by rw [mixI_zero]; exact q2⟩
 case round =>
  obtain ⟨Y, hY, rfl, E4, s0, s1, s2⟩ := hrel
  obtain ⟨wo, rfl⟩ : ∃ wo : World, wo = wr := ⟨_, rfl⟩
  clear q0 q1 q2 E2
  by_cases hltY : Y < 4
  ·have hdY : decide ((Y : Int) < 4) = true := by simp; omega
   go_wp2_with fail
   go_loopw [8] (fun x wr => ∃ X : Nat, X ≤ 4 ∧ x = .int .i64 X ∧ Ext w wr ∧ EB wr B e ∧ IB wr (B + 1) 31 (List.replicate 16 0) ∧ IB wr (B + 1 + 1) 31 (mixI (prd 0 e) (List.replicate 16 0) (4 * Y + X))) (fun x _ => 4 - (intOf x).toNat)
   case atStart => exact ⟨0, by omega, rfl, E4, s0, s1, s2⟩
   case round =>
    obtain ⟨X, hX, rfl, E5, r0, r1, r2⟩ := hrel
    clear E4 s0 s1 s2
    by_cases hltX : X < 4
    ·have hdX : decide ((X : Int) < 4) = true := by simp; omega
     have hs := Hm.out (4 * Y + X) (by omega)
     rw [show (4 * Y + X) % 4 = X by omega, show (4 * Y + X) / 4 = Y by omega] at hs
     have Hset := Lib.hid hs
     clear hs
     obtain ⟨w1, rfl⟩ : ∃ w1 : World, w1 = wr := ⟨_, rfl⟩
     have hv : prd1 0 e X Y = mean e := rfl
     have Hv := Lib.hid hv
     clear hv
     rw [Hv.out] at Hset
     have E5' := E5
     have r0' := r0
     have r1' := r1
     have r2' := r2
     clear E5 r0 r1 r2
     have cB := r2'.cell (i := 4 * Y + X) (by rw [mixI_len _ _ _ 16 HI.out lenZ]; omega)
     have fB := r2'.frozen (4 * Y + X)
     go_wp2
     go_roundw
     case rel =>
      have t2 := r2'.set (4 * Y + X) (mean e)
      rw [Hset.out] at t2
      exact ⟨X + 1, by omega, by go_num, sC _ _ _ _ (by omega) E5', r0'.set_other (by omega), r1'.set_other (by omega), t2⟩
     case measure => simp [intOf]; omega
    ·obtain rfl : X = 4 := by omega
     go_wp2
     go_roundw
     case rel => exact ⟨Y + 1, by omega, by go_num, E5, r0, r1, by rw [mul4]; exact r2⟩
     case measure => simp [intOf]; omega
  ·obtain rfl : Y = 4 := by omega
   rw [show 4 * 4 = 16 from rfl, mixI_all _ _ 16 HI.out lenZ] at s2
   go_wp2_with (first | (refine wpList_iload 31 _ rfl rfl s2 0 16 rfl _ Tryd.underlying31 rfl size_A16 (by rw [HI.out]; omega) _ (by rw [sub_all _ _ (HI.out)]) ?_) | (refine wpList_istore 31 _ _ rfl rfl s1 0 16 rfl _ rfl _ rfl size_A16 (HI.out) (by simp) ?_; intro w6 p6 g6; refine Hid.out ?_))
   rw [spl_all (by rw [HI.out]; simp)] at p6
   have E6 : Ext w w6 := Ext.grown E4 g6 (fun q hq => by cases hq; omega)
   refine Lib.hid ?_
   go_wp2
   exact bodyPost_ret (v := .agg (ic (prd 0 e))) (results_cell_row rfl _ _ (B + 1) 31 (ic (prd 0 e)) (0, 0) _ rfl p6 Tryd.underlying31 rfl (by rw [ic_size, prd_len]; exact size_A16)) rfl ⟨rfl, E6⟩
set_option maxRecDepth 100000 in
theorem l6Predict_1 (e : Ed) (w : World) (ok : e.ok) :
 Calls Tryd.prog 99 #[.int .i64 1, .agg (edC e)] w fun r w' => r = .returned (.agg (ic (prd 1 e))) ∧ Ext w w' := by
 have OK := Lib.hid ok
 have HI := Lib.hid (prd_len 1 e)
 have Hm := Lib.hid (fun (k : Nat) (hk : k < 16) => prd_mix 1 e hk)
 have a2 := Ext.alloc (w.alloc (.cells (edC e) 97)) (.cells (ic (List.replicate 16 0)) 31)
 have a3 := Ext.alloc ((w.alloc (.cells (edC e) 97)).alloc (.cells (ic (List.replicate 16 0)) 31)) (.cells (ic (List.replicate 16 0)) 31)
 have p0 := ((EB.new w e).ext a2).ext a3
 have p1 := (IB.new (w.alloc (.cells (edC e) 97)) 31 (List.replicate 16 0)).ext a3
 have p2 := IB.new ((w.alloc (.cells (edC e) 97)).alloc (.cells (ic (List.replicate 16 0)) 31)) 31 (List.replicate 16 0)
 have E1 := ((Ext.alloc w (.cells (edC e) 97)).trans a2).trans a3
 simp only [World.size_alloc] at p1 p2
 clear a2 a3 ok
 go_enter Tryd.func99, Tryd.ntmps99
 go_wp2_with (refine wpList_cload 97 _ rfl rfl p0 rfl _ Tryd.underlying97 rfl 11 size_Edges (edC_size OK.out.ln) ?_)
 try simp only [World.size_alloc]
 obtain ⟨B, hB⟩ : ∃ B, B = w.heap.size := ⟨_, rfl⟩
 rw [← hB] at p0 p1 p2 ⊢
 have hwB : w.heap.size ≤ B := by omega
 have HB := Lib.hid hB
 clear hB
 refine (l6Mean_any e _ OK.out).mono ?_
 rintro r w0 ⟨rfl, e0⟩
 have q0 := p0.ext e0
 have q1 := p1.ext e0
 have q2 := p2.ext e0
 have E2 := E1.trans e0
 clear p0 p1 p2 E1 e0
 go_wp2_with fail
 go_loopw [7] (fun y wr => ∃ Y : Nat, Y ≤ 4 ∧ y = .int .i64 Y ∧ Ext w wr ∧ EB wr B e ∧ IB wr (B + 1) 31 (List.replicate 16 0) ∧ IB wr (B + 1 + 1) 31 (mixI (prd 1 e) (List.replicate 16 0) (4 * Y))) (fun y _ => 4 - (intOf y).toNat)
 case atStart => exact ⟨0, by omega, rfl, E2, q0, q1, by rw [mixI_zero]; exact q2⟩
 case round =>
  obtain ⟨Y, hY, rfl, E4, s0, s1, s2⟩ := hrel
  obtain ⟨wo, rfl⟩ : ∃ wo : World, wo = wr := ⟨_, rfl⟩
  clear q0 q1 q2 E2
  by_cases hltY : Y < 4
  ·have hdY : decide ((Y : Int) < 4) = true := by simp; omega
   go_wp2_with fail
   go_loopw [8] (fun x wr => ∃ X : Nat, X ≤ 4 ∧ x = .int .i64 X ∧ Ext w wr ∧ EB wr B e ∧ IB wr (B + 1) 31 (List.replicate 16 0) ∧ IB wr (B + 1 + 1) 31 (mixI (prd 1 e) (List.replicate 16 0) (4 * Y + X))) (fun x _ => 4 - (intOf x).toNat)
   case atStart => exact ⟨0, by omega, rfl, E4, s0, s1, s2⟩
   case round =>
    obtain ⟨X, hX, rfl, E5, r0, r1, r2⟩ := hrel
    clear E4 s0 s1 s2
    by_cases hltX : X < 4
    ·have hdX : decide ((X : Int) < 4) = true := by simp; omega
     have hs := Hm.out (4 * Y + X) (by omega)
     rw [show (4 * Y + X) % 4 = X by omega, show (4 * Y + X) / 4 = Y by omega] at hs
     have Hset := Lib.hid hs
     clear hs
     obtain ⟨w1, rfl⟩ : ∃ w1 : World, w1 = wr := ⟨_, rfl⟩
     have Hv := Lib.hid (show prd1 1 e X Y = nth e.ab X from rfl)
     have ca := r0.ab OK.out.ln hltX
     generalize nth e.ab X = va at *
     rw [Hv.out] at Hset
     have E5' := E5
     have r0' := r0
     have r1' := r1
     have r2' := r2
     clear E5 r0 r1 r2
     have cB := r2'.cell (i := 4 * Y + X) (by rw [mixI_len _ _ _ 16 HI.out lenZ]; omega)
     have fB := r2'.frozen (4 * Y + X)
     go_wp2
     go_roundw
     case rel =>
      have t2 := r2'.set (4 * Y + X) va
      rw [Hset.out] at t2
      exact ⟨X + 1, by omega, by go_num, sC _ _ _ _ (by omega) E5', r0'.set_other (by omega), r1'.set_other (by omega), t2⟩
     case measure => simp [intOf]; omega
    ·obtain rfl : X = 4 := by omega
     go_wp2
     go_roundw
     case rel => exact ⟨Y + 1, by omega, by go_num, E5, r0, r1, by rw [mul4]; exact r2⟩
     case measure => simp [intOf]; omega
  ·obtain rfl : Y = 4 := by omega
   rw [show 4 * 4 = 16 from rfl, mixI_all _ _ 16 HI.out lenZ] at s2
   go_wp2_with (first | (refine wpList_iload 31 _ rfl rfl s2 0 16 rfl _ Tryd.underlying31 rfl size_A16 (by rw [HI.out]; omega) _ (by rw [sub_all _ _ (HI.out)]) ?_) | (refine wpList_istore 31 _ _ rfl rfl s1 0 16 rfl _ rfl _ rfl size_A16 (HI.out) (by simp) ?_; intro w6 p6 g6; refine Hid.out ?_))
   rw [spl_all (by rw [HI.out]; simp)] at p6
   have E6 : Ext w w6 := Ext.grown E4 g6 (fun q hq => by cases hq; omega)
   refine Lib.hid ?_
   go_wp2
   exact bodyPost_ret (v := .agg (ic (prd 1 e))) (results_cell_row rfl _ _ (B + 1) 31 (ic (prd 1 e)) (0, 0) _ rfl p6 Tryd.underlying31 rfl (by rw [ic_size, prd_len]; exact size_A16)) rfl ⟨rfl, E6⟩
set_option maxRecDepth 100000 in
theorem l6Predict_2 (e : Ed) (w : World) (ok : e.ok) :
 Calls Tryd.prog 99 #[.int .i64 2, .agg (edC e)] w fun r w' => r = .returned (.agg (ic (prd 2 e))) ∧ Ext w w' := by
 have OK := Lib.hid ok
 have HI := Lib.hid (prd_len 2 e)
 have Hm := Lib.hid (fun (k : Nat) (hk : k < 16) => prd_mix 2 e hk)
 have a2 := Ext.alloc (w.alloc (.cells (edC e) 97)) (.cells (ic (List.replicate 16 0)) 31)
 have a3 := Ext.alloc ((w.alloc (.cells (edC e) 97)).alloc (.cells (ic (List.replicate 16 0)) 31)) (.cells (ic (List.replicate 16 0)) 31)
 have p0 := ((EB.new w e).ext a2).ext a3
 have p1 := (IB.new (w.alloc (.cells (edC e) 97)) 31 (List.replicate 16 0)).ext a3
 have p2 := IB.new ((w.alloc (.cells (edC e) 97)).alloc (.cells (ic (List.replicate 16 0)) 31)) 31 (List.replicate 16 0)
 have E1 := ((Ext.alloc w (.cells (edC e) 97)).trans a2).trans a3
 simp only [World.size_alloc] at p1 p2
 clear a2 a3 ok
 go_enter Tryd.func99, Tryd.ntmps99
 go_wp2_with (refine wpList_cload 97 _ rfl rfl p0 rfl _ Tryd.underlying97 rfl 11 size_Edges (edC_size OK.out.ln) ?_)
 try simp only [World.size_alloc]
 obtain ⟨B, hB⟩ : ∃ B, B = w.heap.size := ⟨_, rfl⟩
 rw [← hB] at p0 p1 p2 ⊢
 have hwB : w.heap.size ≤ B := by omega
 have HB := Lib.hid hB
 clear hB
 refine (l6Mean_any e _ OK.out).mono ?_
 rintro r w0 ⟨rfl, e0⟩
 have q0 := p0.ext e0
 have q1 := p1.ext e0
 have q2 := p2.ext e0
 have E2 := E1.trans e0
 clear p0 p1 p2 E1 e0
 go_wp2_with fail
 go_loopw [7] (fun y wr => ∃ Y : Nat, Y ≤ 4 ∧ y = .int .i64 Y ∧ Ext w wr ∧ EB wr B e ∧ IB wr (B + 1) 31 (List.replicate 16 0) ∧ IB wr (B + 1 + 1) 31 (mixI (prd 2 e) (List.replicate 16 0) (4 * Y))) (fun y _ => 4 - (intOf y).toNat)
 case atStart => exact ⟨0, by omega, rfl, E2, q0, q1, by rw [mixI_zero]; exact q2⟩
 case round =>
  obtain ⟨Y, hY, rfl, E4, s0, s1, s2⟩ := hrel
  obtain ⟨wo, rfl⟩ : ∃ wo : World, wo = wr := ⟨_, rfl⟩
  clear q0 q1 q2 E2
  by_cases hltY : Y < 4
  ·have hdY : decide ((Y : Int) < 4) = true := by simp; omega
   go_wp2_with fail
   go_loopw [8] (fun x wr => ∃ X : Nat, X ≤ 4 ∧ x = .int .i64 X ∧ Ext w wr ∧ EB wr B e ∧ IB wr (B + 1) 31 (List.replicate 16 0) ∧ IB wr (B + 1 + 1) 31 (mixI (prd 2 e) (List.replicate 16 0) (4 * Y + X))) (fun x _ => 4 - (intOf x).toNat)
   case atStart => exact ⟨0, by omega, rfl, E4, s0, s1, s2⟩
   case round =>
    obtain ⟨X, hX, rfl, E5, r0, r1, r2⟩ := hrel
    clear E4 s0 s1 s2
    by_cases hltX : X < 4
    ·have hdX : decide ((X : Int) < 4) = true := by simp; omega
     have hs := Hm.out (4 * Y + X) (by omega)
     rw [show (4 * Y + X) % 4 = X by omega, show (4 * Y + X) / 4 = Y by omega] at hs
     have Hset := Lib.hid hs
     clear hs
     obtain ⟨w1, rfl⟩ : ∃ w1 : World, w1 = wr := ⟨_, rfl⟩
     have Hv := Lib.hid (show prd1 2 e X Y = nth e.lf Y from rfl)
     have ca := r0.lf OK.out.ln hltY
     generalize nth e.lf Y = va at *
     rw [Hv.out] at Hset
     have E5' := E5
     have r0' := r0
     have r1' := r1
     have r2' := r2
     clear E5 r0 r1 r2
     have cB := r2'.cell (i := 4 * Y + X) (by rw [mixI_len _ _ _ 16 HI.out lenZ]; omega)
     have fB := r2'.frozen (4 * Y + X)
     go_wp2
     go_roundw
     case rel =>
      have t2 := r2'.set (4 * Y + X) va
      rw [Hset.out] at t2
      exact ⟨X + 1, by omega, by go_num, sC _ _ _ _ (by omega) E5', r0'.set_other (by omega), r1'.set_other (by omega), t2⟩
     case measure => simp [intOf]; omega
    ·obtain rfl : X = 4 := by omega
     go_wp2
     go_roundw
     case rel => exact ⟨Y + 1, by omega, by go_num, E5, r0, r1, by rw [mul4]; exact r2⟩
     case measure => simp [intOf]; omega
  ·obtain rfl : Y = 4 := by omega
   rw [show 4 * 4 = 16 from rfl, mixI_all _ _ 16 HI.out lenZ] at s2
   go_wp2_with (first | (refine wpList_iload 31 _ rfl rfl s2 0 16 rfl _ Tryd.underlying31 rfl size_A16 (by rw [HI.out]; omega) _ (by rw [sub_all _ _ (HI.out)]) ?_) | (refine wpList_istore 31 _ _ rfl rfl s1 0 16 rfl _ rfl _ rfl size_A16 (HI.out) (by simp) ?_; intro w6 p6 g6; refine Hid.out ?_))
   rw [spl_all (by rw [HI.out]; simp)] at p6
   have E6 : Ext w w6 := Ext.grown E4 g6 (fun q hq => by cases hq; omega)
   refine Lib.hid ?_
   go_wp2
   exact bodyPost_ret (v := .agg (ic (prd 2 e))) (results_cell_row rfl _ _ (B + 1) 31 (ic (prd 2 e)) (0, 0) _ rfl p6 Tryd.underlying31 rfl (by rw [ic_size, prd_len]; exact size_A16)) rfl ⟨rfl, E6⟩
set_option maxRecDepth 100000 in
theorem l6Predict_3 (e : Ed) (w : World) (ok : e.ok) :
 Calls Tryd.prog 99 #[.int .i64 3, .agg (edC e)] w fun r w' => r = .returned (.agg (ic (prd 3 e))) ∧ Ext w w' := by
 have OK := Lib.hid ok
 have HI := Lib.hid (prd_len 3 e)
 have Hm := Lib.hid (fun (k : Nat) (hk : k < 16) => prd_mix 3 e hk)
 have a2 := Ext.alloc (w.alloc (.cells (edC e) 97)) (.cells (ic (List.replicate 16 0)) 31)
 have a3 := Ext.alloc ((w.alloc (.cells (edC e) 97)).alloc (.cells (ic (List.replicate 16 0)) 31)) (.cells (ic (List.replicate 16 0)) 31)
 have p0 := ((EB.new w e).ext a2).ext a3
 have p1 := (IB.new (w.alloc (.cells (edC e) 97)) 31 (List.replicate 16 0)).ext a3
 have p2 := IB.new ((w.alloc (.cells (edC e) 97)).alloc (.cells (ic (List.replicate 16 0)) 31)) 31 (List.replicate 16 0)
 have E1 := ((Ext.alloc w (.cells (edC e) 97)).trans a2).trans a3
 simp only [World.size_alloc] at p1 p2
 clear a2 a3 ok
 go_enter Tryd.func99, Tryd.ntmps99
 go_wp2_with (refine wpList_cload 97 _ rfl rfl p0 rfl _ Tryd.underlying97 rfl 11 size_Edges (edC_size OK.out.ln) ?_)
 try simp only [World.size_alloc]
 obtain ⟨B, hB⟩ : ∃ B, B = w.heap.size := ⟨_, rfl⟩
 rw [← hB] at p0 p1 p2 ⊢
 have hwB : w.heap.size ≤ B := by omega
 have HB := Lib.hid hB
 clear hB
 refine (l6Mean_any e _ OK.out).mono ?_
 rintro r w0 ⟨rfl, e0⟩
 have q0 := p0.ext e0
 have q1 := p1.ext e0
 have q2 := p2.ext e0
 have E2 := E1.trans e0
 clear p0 p1 p2 E1 e0
 go_wp2_with fail
 go_loopw [7] (fun y wr => ∃ Y : Nat, Y ≤ 4 ∧ y = .int .i64 Y ∧ Ext w wr ∧ EB wr B e ∧ IB wr (B + 1) 31 (List.replicate 16 0) ∧ IB wr (B + 1 + 1) 31 (mixI (prd 3 e) (List.replicate 16 0) (4 * Y))) (fun y _ => 4 - (intOf y).toNat)
 case atStart => exact ⟨0, by omega, rfl, E2, q0, q1, by rw [mixI_zero]; exact q2⟩
 case round =>
  obtain ⟨Y, hY, rfl, E4, s0, s1, s2⟩ := hrel
  obtain ⟨wo, rfl⟩ : ∃ wo : World, wo = wr := ⟨_, rfl⟩
  clear q0 q1 q2 E2
  by_cases hltY : Y < 4
  ·have hdY : decide ((Y : Int) < 4) = true := by simp; omega
   go_wp2_with fail
   go_loopw [8] (fun x wr => ∃ X : Nat, X ≤ 4 ∧ x = .int .i64 X ∧ Ext w wr ∧ EB wr B e ∧ IB wr (B + 1) 31 (List.replicate 16 0) ∧ IB wr (B + 1 + 1) 31 (mixI (prd 3 e) (List.replicate 16 0) (4 * Y + X))) (fun x _ => 4 - (intOf x).toNat)
   case atStart => exact ⟨0, by omega, rfl, E4, s0, s1, s2⟩
   case round =>
    obtain ⟨X, hX, rfl, E5, r0, r1, r2⟩ := hrel
    clear E4 s0 s1 s2
    by_cases hltX : X < 4
    ·have hdX : decide ((X : Int) < 4) = true := by simp; omega
     have hs := Hm.out (4 * Y + X) (by omega)
     rw [show (4 * Y + X) % 4 = X by omega, show (4 * Y + X) / 4 = Y by omega] at hs
     have Hset := Lib.hid hs
     clear hs
     obtain ⟨w1, rfl⟩ : ∃ w1 : World, w1 = wr := ⟨_, rfl⟩
     have Hv := Lib.hid (show prd1 3 e X Y = (bord e (3 + X - Y) + 2 * bord e (4 + X - Y) + bord e (5 + X - Y) + 2) / 4 from rfl)
     have q1 := bord_rng OK.out (k := 3 + X - Y) (by omega)
     have q2 := bord_rng OK.out (k := 4 + X - Y) (by omega)
     have q3 := bord_rng OK.out (k := 5 + X - Y) (by omega)
     have K1 := Lib.hid (show (4 : Int) + (X : Int) - (Y : Int) - 1 = ((3 + X - Y : Nat) : Int) by omega)
     have K2 := Lib.hid (show (4 : Int) + (X : Int) - (Y : Int) = ((4 + X - Y : Nat) : Int) by omega)
     have K3 := Lib.hid (show (4 : Int) + (X : Int) - (Y : Int) + 1 = ((5 + X - Y : Nat) : Int) by omega)
     obtain ⟨k1, hk1⟩ : ∃ k, k = 3 + X - Y := ⟨_, rfl⟩
     obtain ⟨k2, hk2⟩ : ∃ k, k = 4 + X - Y := ⟨_, rfl⟩
     obtain ⟨k3, hk3⟩ : ∃ k, k = 5 + X - Y := ⟨_, rfl⟩
     have l1 : k1 ≤ 8 := by omega
     have l2 : k2 ≤ 8 := by omega
     have l3 : k3 ≤ 8 := by omega
     rw [← hk1] at K1 q1 Hv
     rw [← hk2] at K2 q2 Hv
     rw [← hk3] at K3 q3 Hv
     obtain ⟨v1, hv1⟩ : ∃ v, v = bord e k1 := ⟨_, rfl⟩
     obtain ⟨v2, hv2⟩ : ∃ v, v = bord e k2 := ⟨_, rfl⟩
     obtain ⟨v3, hv3⟩ : ∃ v, v = bord e k3 := ⟨_, rfl⟩
     rw [← hv1, ← hv2, ← hv3] at Hv
     rw [← hv1] at q1
     rw [← hv2] at q2
     rw [← hv3] at q3
     have Hv1 := Lib.hid hv1
     have Hv2 := Lib.hid hv2
     have Hv3 := Lib.hid hv3
     clear hk1 hk2 hk3 hv1 hv2 hv3
     go_wp2_with fail
     refine wp_region_inv2 (by kernel_rfl) [(9, 18), (42, 0), (43, 1), (44, 2), (45, 3), (46, 4), (47, 5), (48, 6), (49, 7), (50, 8), (51, 9), (52, 10), (53, 11), (54, 12), (55, 13), (56, 14), (57, 15), (58, 16), (59, 17)] [[], [], [1], [1, 2], [0, 1, 2, 3], [], [], [0, 1, 2, 3, 4, 5, 6], [0, 1, 2, 3, 4, 5, 6, 7], [0, 1, 2, 3, 4, 5, 6, 7, 8], [], [], [11], [11, 12], [0, 1, 2, 3, 4, 5, 6, 7, 10, 11, 12, 13], [0, 1, 2, 3, 4, 5, 6, 7, 8, 9, 10, 11, 12, 13, 14], [0, 1, 2, 3, 4, 5, 6, 7, 8, 9, 10, 11, 12, 13, 14, 15], [0, 1, 2, 3, 4, 5, 6, 7, 8, 9, 10, 11, 12, 13, 14, 15, 16], [0, 1, 2, 3, 4, 5, 6, 7, 8, 9, 10, 11, 12, 13, 14, 15, 16, 17]] (fun i own ys wx => match i with | 0 => own = .agg (edC e) | 1 => own = .int .i64 (4 + (X : Int) - (Y : Int)) | 2 => own = .int .i64 (k1 : Nat) | 3 => own = .int .i64 (k1 : Nat) | 4 => own = .int .i64 v1 | 5 => own = .agg (edC e) | 6 => own = .int .i64 (k2 : Nat) | 7 => own = .int .i64 v2 | 8 => own = .int .i64 (2 * v2) | 9 => own = .int .i64 (v1 + 2 * v2) | 10 => own = .agg (edC e) | 11 => own = .int .i64 (4 + (X : Int) - (Y : Int)) | 12 => own = .int .i64 (k3 : Nat) | 13 => own = .int .i64 (k3 : Nat) | 14 => own = .int .i64 v3 | 15 => own = .int .i64 (v1 + 2 * v2 + v3) | 16 => own = .int .i64 (v1 + 2 * v2 + v3 + 2) | 17 => own = .int .i64 ((v1 + 2 * v2 + v3 + 2) / 4) | 18 => own = .int .i64 ((v1 + 2 * v2 + v3 + 2) / 4) | _ => True) (fun kx wx => Ext w1 wx) (by kernel_rfl) (by kernel_rfl) (by kernel_rfl) ?g0_r1 ?gop_r1 ?gend_r1
     case g0_r1 => exact Ext.drewN _ 1
     case gop_r1 =>
      refine ⟨?_, ?_, ?_, ?_, ?_, ?_, ?_, ?_, ?_, ?_, ?_, ?_, ?_, ?_, ?_, ?_, ?_, ?_, ?_, trivial⟩
      ·intro kx xs wx hk hG hD hI Qo Kx hK hQo
       clear hD hI
       simp only [patchS, Nat.reduceAdd, Nat.reduceEqDiff, ↓reduceIte] at hQo ⊢
       go_wp2_with (refine wpList_cload 97 _ rfl rfl (r0.ext hG) rfl _ Tryd.underlying97 rfl 11 size_Edges (edC_size OK.out.ln) ?_)
       exact hK.out _ _ ⟨rfl, hG, fun _ _ _ _ _ _ h => h⟩
      ·intro kx xs wx hk hG hD hI Qo Kx hK hQo
       clear hD hI
       simp only [patchS, Nat.reduceAdd, Nat.reduceEqDiff, ↓reduceIte] at hQo ⊢
       go_wp2
       exact hK.out _ _ ⟨rfl, hG, fun _ _ _ _ _ _ h => h⟩
      ·intro kx xs wx hk hG hD hI Qo Kx hK hQo
       have d1 : (xs 1) = .int .i64 (4 + (X : Int) - (Y : Int)) := hD 1 rfl
       clear hD hI
       simp only [patchS, Nat.reduceAdd, Nat.reduceEqDiff, ↓reduceIte] at hQo ⊢
       generalize xs 1 = y1 at *
       subst d1
       go_wp2
       exact hK.out _ _ ⟨by rw [← K1.out], hG, fun _ _ _ _ _ _ h => h⟩
      ·intro kx xs wx hk hG hD hI Qo Kx hK hQo
       have d2 : (xs 2) = .int .i64 (k1 : Nat) := hD 2 rfl
       clear hD hI
       simp only [patchS, Nat.reduceAdd, Nat.reduceEqDiff, ↓reduceIte] at hQo ⊢
       generalize xs 2 = y2 at *
       subst d2
       go_wp2
       ·exact hK.out _ _ ⟨rfl, hG, fun _ _ _ _ _ _ h => h⟩
       ·exact hK.out _ _ ⟨by rw [show k1 = 0 by omega]; rfl, hG, fun _ _ _ _ _ _ h => h⟩
      ·intro kx xs wx hk hG hD hI Qo Kx hK hQo
       have d0 : (xs 0) = .agg (edC e) := hD 0 rfl
       have d3 : (xs 3) = .int .i64 (k1 : Nat) := hD 3 rfl
       clear hD hI
       simp only [patchS, Nat.reduceAdd, Nat.reduceEqDiff, ↓reduceIte] at hQo ⊢
       generalize xs 0 = y0 at *
       generalize xs 3 = y3 at *
       subst d0 d3
       go_wp2_with fail
       refine (l6Diagonal_any e k1 _ OK.out (by omega)).mono ?_
       rintro r w9 ⟨rfl, e9⟩
       rw [← Hv1.out]
       go_wp2
       exact hK.out _ _ ⟨rfl, hG.trans e9, fun _ _ _ _ _ _ h => h⟩
      ·intro kx xs wx hk hG hD hI Qo Kx hK hQo
       clear hD hI
       simp only [patchS, Nat.reduceAdd, Nat.reduceEqDiff, ↓reduceIte] at hQo ⊢
       go_wp2_with (refine wpList_cload 97 _ rfl rfl (r0.ext hG) rfl _ Tryd.underlying97 rfl 11 size_Edges (edC_size OK.out.ln) ?_)
       exact hK.out _ _ ⟨rfl, hG, fun _ _ _ _ _ _ h => h⟩
      ·intro kx xs wx hk hG hD hI Qo Kx hK hQo
       clear hD hI
       simp only [patchS, Nat.reduceAdd, Nat.reduceEqDiff, ↓reduceIte] at hQo ⊢
       go_wp2
       exact hK.out _ _ ⟨by rw [← K2.out], hG, fun _ _ _ _ _ _ h => h⟩
      ·intro kx xs wx hk hG hD hI Qo Kx hK hQo
       have d5 : (xs 5) = .agg (edC e) := hD 5 rfl
       have d6 : (xs 6) = .int .i64 (k2 : Nat) := hD 6 rfl
       clear hD hI
       simp only [patchS, Nat.reduceAdd, Nat.reduceEqDiff, ↓reduceIte] at hQo ⊢
       generalize xs 5 = y5 at *
       generalize xs 6 = y6 at *
       subst d5 d6
       go_wp2_with fail
       refine (l6Diagonal_any e k2 _ OK.out (by omega)).mono ?_
       rintro r w9 ⟨rfl, e9⟩
       rw [← Hv2.out]
       go_wp2
       exact hK.out _ _ ⟨rfl, hG.trans e9, fun _ _ _ _ _ _ h => h⟩
      ·intro kx xs wx hk hG hD hI Qo Kx hK hQo
       have d7 : (xs 7) = .int .i64 v2 := hD 7 rfl
       clear hD hI
       simp only [patchS, Nat.reduceAdd, Nat.reduceEqDiff, ↓reduceIte] at hQo ⊢
       generalize xs 7 = y7 at *
       subst d7
       go_wp2
       exact hK.out _ _ ⟨rfl, hG, fun _ _ _ _ _ _ h => h⟩
      ·intro kx xs wx hk hG hD hI Qo Kx hK hQo
       have d4 : (xs 4) = .int .i64 v1 := hD 4 rfl
       have d8 : (xs 8) = .int .i64 (2 * v2) := hD 8 rfl
       clear hD hI
       simp only [patchS, Nat.reduceAdd, Nat.reduceEqDiff, ↓reduceIte] at hQo ⊢
       generalize xs 4 = y4 at *
       generalize xs 8 = y8 at *
       subst d4 d8
       go_wp2
       exact hK.out _ _ ⟨rfl, hG, fun _ _ _ _ _ _ h => h⟩
      ·intro kx xs wx hk hG hD hI Qo Kx hK hQo
       clear hD hI
       simp only [patchS, Nat.reduceAdd, Nat.reduceEqDiff, ↓reduceIte] at hQo ⊢
       go_wp2_with (refine wpList_cload 97 _ rfl rfl (r0.ext hG) rfl _ Tryd.underlying97 rfl 11 size_Edges (edC_size OK.out.ln) ?_)
       exact hK.out _ _ ⟨rfl, hG, fun _ _ _ _ _ _ h => h⟩
      ·intro kx xs wx hk hG hD hI Qo Kx hK hQo
       clear hD hI
       simp only [patchS, Nat.reduceAdd, Nat.reduceEqDiff, ↓reduceIte] at hQo ⊢
       go_wp2
       exact hK.out _ _ ⟨rfl, hG, fun _ _ _ _ _ _ h => h⟩
      ·intro kx xs wx hk hG hD hI Qo Kx hK hQo
       have d11 : (xs 11) = .int .i64 (4 + (X : Int) - (Y : Int)) := hD 11 rfl
       clear hD hI
       simp only [patchS, Nat.reduceAdd, Nat.reduceEqDiff, ↓reduceIte] at hQo ⊢
       generalize xs 11 = y11 at *
       subst d11
       go_wp2
       exact hK.out _ _ ⟨by rw [← K3.out], hG, fun _ _ _ _ _ _ h => h⟩
      ·intro kx xs wx hk hG hD hI Qo Kx hK hQo
       have d12 : (xs 12) = .int .i64 (k3 : Nat) := hD 12 rfl
       clear hD hI
       simp only [patchS, Nat.reduceAdd, Nat.reduceEqDiff, ↓reduceIte] at hQo ⊢
       generalize xs 12 = y12 at *
       subst d12
       go_wp2
       ·exact hK.out _ _ ⟨rfl, hG, fun _ _ _ _ _ _ h => h⟩
       ·exact hK.out _ _ ⟨by rw [show k3 = 8 by omega]; rfl, hG, fun _ _ _ _ _ _ h => h⟩
      ·intro kx xs wx hk hG hD hI Qo Kx hK hQo
       have d10 : (xs 10) = .agg (edC e) := hD 10 rfl
       have d13 : (xs 13) = .int .i64 (k3 : Nat) := hD 13 rfl
       clear hD hI
       simp only [patchS, Nat.reduceAdd, Nat.reduceEqDiff, ↓reduceIte] at hQo ⊢
       generalize xs 10 = y10 at *
       generalize xs 13 = y13 at *
       subst d10 d13
       go_wp2_with fail
       refine (l6Diagonal_any e k3 _ OK.out (by omega)).mono ?_
       rintro r w9 ⟨rfl, e9⟩
       rw [← Hv3.out]
       go_wp2
       exact hK.out _ _ ⟨rfl, hG.trans e9, fun _ _ _ _ _ _ h => h⟩
      ·intro kx xs wx hk hG hD hI Qo Kx hK hQo
       have d9 : (xs 9) = .int .i64 (v1 + 2 * v2) := hD 9 rfl
       have d14 : (xs 14) = .int .i64 v3 := hD 14 rfl
       clear hD hI
       simp only [patchS, Nat.reduceAdd, Nat.reduceEqDiff, ↓reduceIte] at hQo ⊢
       generalize xs 9 = y9 at *
       generalize xs 14 = y14 at *
       subst d9 d14
       go_wp2
       exact hK.out _ _ ⟨rfl, hG, fun _ _ _ _ _ _ h => h⟩
      ·intro kx xs wx hk hG hD hI Qo Kx hK hQo
       have d15 : (xs 15) = .int .i64 (v1 + 2 * v2 + v3) := hD 15 rfl
       clear hD hI
       simp only [patchS, Nat.reduceAdd, Nat.reduceEqDiff, ↓reduceIte] at hQo ⊢
       generalize xs 15 = y15 at *
       subst d15
       go_wp2
       exact hK.out _ _ ⟨rfl, hG, fun _ _ _ _ _ _ h => h⟩
      ·intro kx xs wx hk hG hD hI Qo Kx hK hQo
       have d16 : (xs 16) = .int .i64 (v1 + 2 * v2 + v3 + 2) := hD 16 rfl
       clear hD hI
       simp only [patchS, Nat.reduceAdd, Nat.reduceEqDiff, ↓reduceIte] at hQo ⊢
       generalize xs 16 = y16 at *
       subst d16
       go_wp2
       exact hK.out _ _ ⟨rfl, hG, fun _ _ _ _ _ _ h => h⟩
      ·intro kx xs wx hk hG hD hI Qo Kx hK hQo
       have d17 : (xs 17) = .int .i64 ((v1 + 2 * v2 + v3 + 2) / 4) := hD 17 rfl
       clear hD hI
       simp only [patchS, Nat.reduceAdd, Nat.reduceEqDiff, ↓reduceIte] at hQo ⊢
       generalize xs 17 = y17 at *
       subst d17
       go_wp2
       exact hK.out _ _ ⟨rfl, hG, fun _ _ _ _ _ _ h => h⟩
     intro xs wx hV hG
     have d0 : (xs 0) = .agg (edC e) := hV 0 (by decide)
     have d1 : (xs 1) = .int .i64 (4 + (X : Int) - (Y : Int)) := hV 1 (by decide)
     have d2 : (xs 2) = .int .i64 (k1 : Nat) := hV 2 (by decide)
     have d3 : (xs 3) = .int .i64 (k1 : Nat) := hV 3 (by decide)
     have d4 : (xs 4) = .int .i64 v1 := hV 4 (by decide)
     have d5 : (xs 5) = .agg (edC e) := hV 5 (by decide)
     have d6 : (xs 6) = .int .i64 (k2 : Nat) := hV 6 (by decide)
     have d7 : (xs 7) = .int .i64 v2 := hV 7 (by decide)
     have d8 : (xs 8) = .int .i64 (2 * v2) := hV 8 (by decide)
     have d9 : (xs 9) = .int .i64 (v1 + 2 * v2) := hV 9 (by decide)
     have d10 : (xs 10) = .agg (edC e) := hV 10 (by decide)
     have d11 : (xs 11) = .int .i64 (4 + (X : Int) - (Y : Int)) := hV 11 (by decide)
     have d12 : (xs 12) = .int .i64 (k3 : Nat) := hV 12 (by decide)
     have d13 : (xs 13) = .int .i64 (k3 : Nat) := hV 13 (by decide)
     have d14 : (xs 14) = .int .i64 v3 := hV 14 (by decide)
     have d15 : (xs 15) = .int .i64 (v1 + 2 * v2 + v3) := hV 15 (by decide)
     have d16 : (xs 16) = .int .i64 (v1 + 2 * v2 + v3 + 2) := hV 16 (by decide)
     have d17 : (xs 17) = .int .i64 ((v1 + 2 * v2 + v3 + 2) / 4) := hV 17 (by decide)
     have d18 : (xs 18) = .int .i64 ((v1 + 2 * v2 + v3 + 2) / 4) := hV 18 (by decide)
     clear hV
     simp only [patchS, Nat.reduceAdd, Nat.reduceEqDiff, ↓reduceIte]
     generalize xs 0 = y0 at *
     generalize xs 1 = y1 at *
     generalize xs 2 = y2 at *
     generalize xs 3 = y3 at *
     generalize xs 4 = y4 at *
     generalize xs 5 = y5 at *
     generalize xs 6 = y6 at *
     generalize xs 7 = y7 at *
     generalize xs 8 = y8 at *
     generalize xs 9 = y9 at *
     generalize xs 10 = y10 at *
     generalize xs 11 = y11 at *
     generalize xs 12 = y12 at *
     generalize xs 13 = y13 at *
     generalize xs 14 = y14 at *
     generalize xs 15 = y15 at *
     generalize xs 16 = y16 at *
     generalize xs 17 = y17 at *
     generalize xs 18 = y18 at *
     replace hG : Ext w1 wx := hG
     clear d0 d1 d2 d3 d4 d5 d6 d7 d8 d9 d10 d11 d12 d13 d14 d15 d16 d17
     subst d18
     rw [Hv.out] at Hset
     have E5' := E5.trans hG
     have r0' := r0.ext hG
     have r1' := r1.ext hG
     have r2' := r2.ext hG
     clear E5 r0 r1 r2 hG
     have cB := r2'.cell (i := 4 * Y + X) (by rw [mixI_len _ _ _ 16 HI.out lenZ]; omega)
     have fB := r2'.frozen (4 * Y + X)
     go_wp2
     go_roundw
     case rel =>
      have t2 := r2'.set (4 * Y + X) ((v1 + 2 * v2 + v3 + 2) / 4)
      rw [Hset.out] at t2
      exact ⟨X + 1, by omega, by go_num, sC _ _ _ _ (by omega) E5', r0'.set_other (by omega), r1'.set_other (by omega), t2⟩
     case measure => simp [intOf]; omega
    ·obtain rfl : X = 4 := by omega
     go_wp2
     go_roundw
     case rel => exact ⟨Y + 1, by omega, by go_num, E5, r0, r1, by rw [mul4]; exact r2⟩
     case measure => simp [intOf]; omega
  ·obtain rfl : Y = 4 := by omega
   rw [show 4 * 4 = 16 from rfl, mixI_all _ _ 16 HI.out lenZ] at s2
   go_wp2_with (first | (refine wpList_iload 31 _ rfl rfl s2 0 16 rfl _ Tryd.underlying31 rfl size_A16 (by rw [HI.out]; omega) _ (by rw [sub_all _ _ (HI.out)]) ?_) | (refine wpList_istore 31 _ _ rfl rfl s1 0 16 rfl _ rfl _ rfl size_A16 (HI.out) (by simp) ?_; intro w6 p6 g6; refine Hid.out ?_))
   rw [spl_all (by rw [HI.out]; simp)] at p6
   have E6 : Ext w w6 := Ext.grown E4 g6 (fun q hq => by cases hq; omega)
   refine Lib.hid ?_
   go_wp2
   exact bodyPost_ret (v := .agg (ic (prd 3 e))) (results_cell_row rfl _ _ (B + 1) 31 (ic (prd 3 e)) (0, 0) _ rfl p6 Tryd.underlying31 rfl (by rw [ic_size, prd_len]; exact size_A16)) rfl ⟨rfl, E6⟩
set_option maxRecDepth 100000 in
theorem l6Predict_4 (e : Ed) (w : World) (ok : e.ok) :
 Calls Tryd.prog 99 #[.int .i64 4, .agg (edC e)] w fun r w' => r = .returned (.agg (ic (prd 4 e))) ∧ Ext w w' := by
 have OK := Lib.hid ok
 have HI := Lib.hid (prd_len 4 e)
 have Hm := Lib.hid (fun (k : Nat) (hk : k < 16) => prd_mix 4 e hk)
 have a2 := Ext.alloc (w.alloc (.cells (edC e) 97)) (.cells (ic (List.replicate 16 0)) 31)
 have a3 := Ext.alloc ((w.alloc (.cells (edC e) 97)).alloc (.cells (ic (List.replicate 16 0)) 31)) (.cells (ic (List.replicate 16 0)) 31)
 have p0 := ((EB.new w e).ext a2).ext a3
 have p1 := (IB.new (w.alloc (.cells (edC e) 97)) 31 (List.replicate 16 0)).ext a3
 have p2 := IB.new ((w.alloc (.cells (edC e) 97)).alloc (.cells (ic (List.replicate 16 0)) 31)) 31 (List.replicate 16 0)
 have E1 := ((Ext.alloc w (.cells (edC e) 97)).trans a2).trans a3
 simp only [World.size_alloc] at p1 p2
 clear a2 a3 ok
 go_enter Tryd.func99, Tryd.ntmps99
 go_wp2_with (refine wpList_cload 97 _ rfl rfl p0 rfl _ Tryd.underlying97 rfl 11 size_Edges (edC_size OK.out.ln) ?_)
 try simp only [World.size_alloc]
 obtain ⟨B, hB⟩ : ∃ B, B = w.heap.size := ⟨_, rfl⟩
 rw [← hB] at p0 p1 p2 ⊢
 have hwB : w.heap.size ≤ B := by omega
 have HB := Lib.hid hB
 clear hB
 refine (l6Mean_any e _ OK.out).mono ?_
 rintro r w0 ⟨rfl, e0⟩
 have q0 := p0.ext e0
 have q1 := p1.ext e0
 have q2 := p2.ext e0
 have E2 := E1.trans e0
 clear p0 p1 p2 E1 e0
 go_wp2_with fail
 go_loopw [7] (fun y wr => ∃ Y : Nat, Y ≤ 4 ∧ y = .int .i64 Y ∧ Ext w wr ∧ EB wr B e ∧ IB wr (B + 1) 31 (List.replicate 16 0) ∧ IB wr (B + 1 + 1) 31 (mixI (prd 4 e) (List.replicate 16 0) (4 * Y))) (fun y _ => 4 - (intOf y).toNat)
 case atStart => exact ⟨0, by omega, rfl, E2, q0, q1, by rw [mixI_zero]; exact q2⟩
 case round =>
  obtain ⟨Y, hY, rfl, E4, s0, s1, s2⟩ := hrel
  obtain ⟨wo, rfl⟩ : ∃ wo : World, wo = wr := ⟨_, rfl⟩
  clear q0 q1 q2 E2
  by_cases hltY : Y < 4
  ·have hdY : decide ((Y : Int) < 4) = true := by simp; omega
   go_wp2_with fail
   go_loopw [8] (fun x wr => ∃ X : Nat, X ≤ 4 ∧ x = .int .i64 X ∧ Ext w wr ∧ EB wr B e ∧ IB wr (B + 1) 31 (List.replicate 16 0) ∧ IB wr (B + 1 + 1) 31 (mixI (prd 4 e) (List.replicate 16 0) (4 * Y + X))) (fun x _ => 4 - (intOf x).toNat)
   case atStart => exact ⟨0, by omega, rfl, E4, s0, s1, s2⟩
   case round =>
    obtain ⟨X, hX, rfl, E5, r0, r1, r2⟩ := hrel
    clear E4 s0 s1 s2
    by_cases hltX : X < 4
    ·have hdX : decide ((X : Int) < 4) = true := by simp; omega
     have hs := Hm.out (4 * Y + X) (by omega)
     rw [show (4 * Y + X) % 4 = X by omega, show (4 * Y + X) / 4 = Y by omega] at hs
     have Hset := Lib.hid hs
     clear hs
     obtain ⟨w1, rfl⟩ : ∃ w1 : World, w1 = wr := ⟨_, rfl⟩
     have Hv := Lib.hid (show prd1 4 e X Y = clipI (nth e.ab X + nth e.lf Y - e.co) 0 255 from rfl)
     have ha := smp_nth OK.out.sab (i := X) (by rw [OK.out.ab]; exact hltX)
     have hf := smp_nth OK.out.slf (i := Y) (by rw [OK.out.lf]; exact hltY)
     have hc := OK.out.sco
     have CA := Lib.hid (r0.ab OK.out.ln hltX)
     have CL := Lib.hid (r0.lf OK.out.ln hltY)
     have CC := Lib.hid (r0.co OK.out.ln)
     generalize nth e.ab X = va at *
     generalize nth e.lf Y = vl at *
     obtain ⟨v, hv⟩ : ∃ v, v = clipI (va + vl - e.co) 0 255 := ⟨_, rfl⟩
     rw [← hv] at Hv
     have HV := Lib.hid hv
     clear hv
     go_wp2_with fail
     refine wp_region_inv2 (by kernel_rfl) [(9, 13), (62, 0), (63, 1), (64, 2), (65, 3), (66, 4), (67, 5), (68, 6), (69, 7), (70, 8), (71, 9), (72, 10), (73, 11), (74, 12)] [[], [], [0, 1], [0, 1, 2], [], [], [4, 5], [4, 5, 6], [0, 1, 2, 3, 4, 5, 6, 7], [], [9], [0, 1, 2, 3, 4, 5, 6, 7, 8, 9, 10], [0, 1, 2, 3, 4, 5, 6, 7, 8, 9, 10, 11], [0, 1, 2, 3, 4, 5, 6, 7, 8, 9, 10, 11, 12]] (fun i own ys wx => match i with | 0 => own = .int .i64 (X : Nat) | 1 => own = .pointer (some ⟨B, 0, none⟩) | 2 => own = .pointer (some ⟨B, X, none⟩) | 3 => own = .int .i64 va | 4 => own = .int .i64 (Y : Nat) | 5 => own = .pointer (some ⟨B, 4, none⟩) | 6 => own = .pointer (some ⟨B, 4 + Y, none⟩) | 7 => own = .int .i64 vl | 8 => own = .int .i64 (va + vl) | 9 => own = .pointer (some ⟨B, 8, none⟩) | 10 => own = .int .i64 e.co | 11 => own = .int .i64 (va + vl - e.co) | 12 => own = .int .i64 v | 13 => own = .int .i64 v | _ => True) (fun kx wx => Ext w1 wx) (by kernel_rfl) (by kernel_rfl) (by kernel_rfl) ?g0_r2 ?gop_r2 ?gend_r2
     case g0_r2 => exact Ext.drewN _ 1
     case gop_r2 =>
      refine ⟨?_, ?_, ?_, ?_, ?_, ?_, ?_, ?_, ?_, ?_, ?_, ?_, ?_, ?_, trivial⟩
      ·intro kx xs wx hk hG hD hI Qo Kx hK hQo
       clear hD hI
       simp only [patchS, Nat.reduceAdd, Nat.reduceEqDiff, ↓reduceIte] at hQo ⊢
       go_wp2
       exact hK.out _ _ ⟨rfl, hG, fun _ _ _ _ _ _ h => h⟩
      ·intro kx xs wx hk hG hD hI Qo Kx hK hQo
       clear hD hI
       simp only [patchS, Nat.reduceAdd, Nat.reduceEqDiff, ↓reduceIte] at hQo ⊢
       go_wp2
       exact hK.out _ _ ⟨rfl, hG, fun _ _ _ _ _ _ h => h⟩
      ·intro kx xs wx hk hG hD hI Qo Kx hK hQo
       have d0 : (xs 0) = .int .i64 (X : Nat) := hD 0 rfl
       have d1 : (xs 1) = .pointer (some ⟨B, 0, none⟩) := hD 1 rfl
       clear hD hI
       simp only [patchS, Nat.reduceAdd, Nat.reduceEqDiff, ↓reduceIte] at hQo ⊢
       generalize xs 0 = y0 at *
       generalize xs 1 = y1 at *
       subst d0 d1
       go_wp2
       exact hK.out _ _ ⟨rfl, hG, fun _ _ _ _ _ _ h => h⟩
      ·intro kx xs wx hk hG hD hI Qo Kx hK hQo
       have d2 : (xs 2) = .pointer (some ⟨B, X, none⟩) := hD 2 rfl
       clear hD hI
       simp only [patchS, Nat.reduceAdd, Nat.reduceEqDiff, ↓reduceIte] at hQo ⊢
       generalize xs 2 = y2 at *
       subst d2
       have cx := cell_ext hG CA.out
       go_wp2
       exact hK.out _ _ ⟨rfl, hG, fun _ _ _ _ _ _ h => h⟩
      ·intro kx xs wx hk hG hD hI Qo Kx hK hQo
       clear hD hI
       simp only [patchS, Nat.reduceAdd, Nat.reduceEqDiff, ↓reduceIte] at hQo ⊢
       go_wp2
       exact hK.out _ _ ⟨rfl, hG, fun _ _ _ _ _ _ h => h⟩
      ·intro kx xs wx hk hG hD hI Qo Kx hK hQo
       clear hD hI
       simp only [patchS, Nat.reduceAdd, Nat.reduceEqDiff, ↓reduceIte] at hQo ⊢
       go_wp2
       exact hK.out _ _ ⟨rfl, hG, fun _ _ _ _ _ _ h => h⟩
      ·intro kx xs wx hk hG hD hI Qo Kx hK hQo
       have d4 : (xs 4) = .int .i64 (Y : Nat) := hD 4 rfl
       have d5 : (xs 5) = .pointer (some ⟨B, 4, none⟩) := hD 5 rfl
       clear hD hI
       simp only [patchS, Nat.reduceAdd, Nat.reduceEqDiff, ↓reduceIte] at hQo ⊢
       generalize xs 4 = y4 at *
       generalize xs 5 = y5 at *
       subst d4 d5
       go_wp2
       exact hK.out _ _ ⟨rfl, hG, fun _ _ _ _ _ _ h => h⟩
      ·intro kx xs wx hk hG hD hI Qo Kx hK hQo
       have d6 : (xs 6) = .pointer (some ⟨B, 4 + Y, none⟩) := hD 6 rfl
       clear hD hI
       simp only [patchS, Nat.reduceAdd, Nat.reduceEqDiff, ↓reduceIte] at hQo ⊢
       generalize xs 6 = y6 at *
       subst d6
       have cx := cell_ext hG CL.out
       go_wp2
       exact hK.out _ _ ⟨rfl, hG, fun _ _ _ _ _ _ h => h⟩
      ·intro kx xs wx hk hG hD hI Qo Kx hK hQo
       have d3 : (xs 3) = .int .i64 va := hD 3 rfl
       have d7 : (xs 7) = .int .i64 vl := hD 7 rfl
       clear hD hI
       simp only [patchS, Nat.reduceAdd, Nat.reduceEqDiff, ↓reduceIte] at hQo ⊢
       generalize xs 3 = y3 at *
       generalize xs 7 = y7 at *
       subst d3 d7
       go_wp2
       exact hK.out _ _ ⟨rfl, hG, fun _ _ _ _ _ _ h => h⟩
      ·intro kx xs wx hk hG hD hI Qo Kx hK hQo
       clear hD hI
       simp only [patchS, Nat.reduceAdd, Nat.reduceEqDiff, ↓reduceIte] at hQo ⊢
       go_wp2
       exact hK.out _ _ ⟨rfl, hG, fun _ _ _ _ _ _ h => h⟩
      ·intro kx xs wx hk hG hD hI Qo Kx hK hQo
       have d9 : (xs 9) = .pointer (some ⟨B, 8, none⟩) := hD 9 rfl
       clear hD hI
       simp only [patchS, Nat.reduceAdd, Nat.reduceEqDiff, ↓reduceIte] at hQo ⊢
       generalize xs 9 = y9 at *
       subst d9
       have cx := cell_ext hG CC.out
       go_wp2
       exact hK.out _ _ ⟨rfl, hG, fun _ _ _ _ _ _ h => h⟩
      ·intro kx xs wx hk hG hD hI Qo Kx hK hQo
       have d8 : (xs 8) = .int .i64 (va + vl) := hD 8 rfl
       have d10 : (xs 10) = .int .i64 e.co := hD 10 rfl
       clear hD hI
       simp only [patchS, Nat.reduceAdd, Nat.reduceEqDiff, ↓reduceIte] at hQo ⊢
       generalize xs 8 = y8 at *
       generalize xs 10 = y10 at *
       subst d8 d10
       go_wp2
       exact hK.out _ _ ⟨rfl, hG, fun _ _ _ _ _ _ h => h⟩
      ·intro kx xs wx hk hG hD hI Qo Kx hK hQo
       have d11 : (xs 11) = .int .i64 (va + vl - e.co) := hD 11 rfl
       clear hD hI
       simp only [patchS, Nat.reduceAdd, Nat.reduceEqDiff, ↓reduceIte] at hQo ⊢
       generalize xs 11 = y11 at *
       subst d11
       go_wp2_with fail
       refine (l1Clip_any _ _ _ _).mono ?_
       rintro r w9 ⟨rfl, rfl⟩
       rw [← HV.out]
       go_wp2
       exact hK.out _ _ ⟨rfl, hG, fun _ _ _ _ _ _ h => h⟩
      ·intro kx xs wx hk hG hD hI Qo Kx hK hQo
       have d12 : (xs 12) = .int .i64 v := hD 12 rfl
       clear hD hI
       simp only [patchS, Nat.reduceAdd, Nat.reduceEqDiff, ↓reduceIte] at hQo ⊢
       generalize xs 12 = y12 at *
       subst d12
       go_wp2
       exact hK.out _ _ ⟨rfl, hG, fun _ _ _ _ _ _ h => h⟩
     intro xs wx hV hG
     have d0 : (xs 0) = .int .i64 (X : Nat) := hV 0 (by decide)
     have d1 : (xs 1) = .pointer (some ⟨B, 0, none⟩) := hV 1 (by decide)
     have d2 : (xs 2) = .pointer (some ⟨B, X, none⟩) := hV 2 (by decide)
     have d3 : (xs 3) = .int .i64 va := hV 3 (by decide)
     have d4 : (xs 4) = .int .i64 (Y : Nat) := hV 4 (by decide)
     have d5 : (xs 5) = .pointer (some ⟨B, 4, none⟩) := hV 5 (by decide)
     have d6 : (xs 6) = .pointer (some ⟨B, 4 + Y, none⟩) := hV 6 (by decide)
     have d7 : (xs 7) = .int .i64 vl := hV 7 (by decide)
     have d8 : (xs 8) = .int .i64 (va + vl) := hV 8 (by decide)
     have d9 : (xs 9) = .pointer (some ⟨B, 8, none⟩) := hV 9 (by decide)
     have d10 : (xs 10) = .int .i64 e.co := hV 10 (by decide)
     have d11 : (xs 11) = .int .i64 (va + vl - e.co) := hV 11 (by decide)
     have d12 : (xs 12) = .int .i64 v := hV 12 (by decide)
     have d13 : (xs 13) = .int .i64 v := hV 13 (by decide)
     clear hV
     simp only [patchS, Nat.reduceAdd, Nat.reduceEqDiff, ↓reduceIte]
     generalize xs 0 = y0 at *
     generalize xs 1 = y1 at *
     generalize xs 2 = y2 at *
     generalize xs 3 = y3 at *
     generalize xs 4 = y4 at *
     generalize xs 5 = y5 at *
     generalize xs 6 = y6 at *
     generalize xs 7 = y7 at *
     generalize xs 8 = y8 at *
     generalize xs 9 = y9 at *
     generalize xs 10 = y10 at *
     generalize xs 11 = y11 at *
     generalize xs 12 = y12 at *
     generalize xs 13 = y13 at *
     replace hG : Ext w1 wx := hG
     clear d0 d1 d2 d3 d4 d5 d6 d7 d8 d9 d10 d11 d12
     subst d13
     rw [Hv.out] at Hset
     have E5' := E5.trans hG
     have r0' := r0.ext hG
     have r1' := r1.ext hG
     have r2' := r2.ext hG
     clear E5 r0 r1 r2 hG
     have cB := r2'.cell (i := 4 * Y + X) (by rw [mixI_len _ _ _ 16 HI.out lenZ]; omega)
     have fB := r2'.frozen (4 * Y + X)
     go_wp2
     go_roundw
     case rel =>
      have t2 := r2'.set (4 * Y + X) v
      rw [Hset.out] at t2
      exact ⟨X + 1, by omega, by go_num, sC _ _ _ _ (by omega) E5', r0'.set_other (by omega), r1'.set_other (by omega), t2⟩
     case measure => simp [intOf]; omega
    ·obtain rfl : X = 4 := by omega
     go_wp2
     go_roundw
     case rel => exact ⟨Y + 1, by omega, by go_num, E5, r0, r1, by rw [mul4]; exact r2⟩
     case measure => simp [intOf]; omega
  ·obtain rfl : Y = 4 := by omega
   rw [show 4 * 4 = 16 from rfl, mixI_all _ _ 16 HI.out lenZ] at s2
   go_wp2_with (first | (refine wpList_iload 31 _ rfl rfl s2 0 16 rfl _ Tryd.underlying31 rfl size_A16 (by rw [HI.out]; omega) _ (by rw [sub_all _ _ (HI.out)]) ?_) | (refine wpList_istore 31 _ _ rfl rfl s1 0 16 rfl _ rfl _ rfl size_A16 (HI.out) (by simp) ?_; intro w6 p6 g6; refine Hid.out ?_))
   rw [spl_all (by rw [HI.out]; simp)] at p6
   have E6 : Ext w w6 := Ext.grown E4 g6 (fun q hq => by cases hq; omega)
   refine Lib.hid ?_
   go_wp2
   exact bodyPost_ret (v := .agg (ic (prd 4 e))) (results_cell_row rfl _ _ (B + 1) 31 (ic (prd 4 e)) (0, 0) _ rfl p6 Tryd.underlying31 rfl (by rw [ic_size, prd_len]; exact size_A16)) rfl ⟨rfl, E6⟩
theorem l6Predict_any (e : Ed) (m : Nat) (w : World) (ok : e.ok) (hm : m ≤ 4) :
 Calls Tryd.prog 99 #[.int .i64 (m : Nat), .agg (edC e)] w fun r w' => r = .returned (.agg (ic (prd m e))) ∧ Ext w w' := by
 match m, hm with
 | 0, _ => exact l6Predict_0 e w ok
 | 1, _ => exact l6Predict_1 e w ok
 | 2, _ => exact l6Predict_2 e w ok
 | 3, _ => exact l6Predict_3 e w ok
 | 4, _ => exact l6Predict_4 e w ok
end Go.Proofs.YtbnhaegidfbgbaaDoor
namespace Go.Proofs.YtbnhaegidfbgbaaDoor
open Go.RowKit
set_option maxHeartbeats 400000
theorem sampleValid_yes (x : Int) (w : World) (h1 : 0 ≤ x) (h2 : x ≤ 255) :
 Calls Tryd.prog 97 #[.int .i64 x] w fun e w' => e = .returned (.bool true) ∧ w = w' := by
 go_enter Tryd.func97, Tryd.ntmps97
 go_wp2
 go_ret
 exact ⟨by simp, rfl⟩
end Go.Proofs.YtbnhaegidfbgbaaDoor
namespace Go.Proofs.YtbnhaegidfbgbaaDoor
open Go.RowKit
set_option maxHeartbeats 1000000
theorem smp_no {zs : List Int} {k : Nat} (hk : k < zs.length) (h : nth zs k < 0 ∨ 255 < nth zs k) : ¬ smp zs := fun hs => by
 have := smp_nth hs hk
 omega
theorem smp_yes {zs : List Int} (h : ∀ j, j < zs.length → 0 ≤ nth zs j ∧ nth zs j ≤ 255) : smp zs := smp_of_nth h
def shaped (W H : Int) (n : Nat) : Prop := side W ∧ side H ∧ (n : Int) = W * H
set_option maxRecDepth 100000 in
theorem spec_PictureValid_in (W H : Int) (a : Option Addr) (c n : Nat) (zs : List Int) (w : World) (r : Sl w a n (zs.map (Value.int .i64))) (hs : shaped W H n) :
 Calls Tryd.prog 92 #[.agg #[.int .i64 W, .int .i64 H, .slice a n c]] w fun e w' => e = .returned (.bool (decide (smp zs))) ∧ Ext w w' := by
 obtain ⟨⟨w1, w2, w3⟩, ⟨h1, h2, h3⟩, hn⟩ := hs
 have hp := area_le ⟨w1, w2, w3⟩ ⟨h1, h2, h3⟩
 have hl := r.int_len
 have Hl := Lib.hid hl
 have hnb : n ≤ 1024 := by omega
 have hd1 : ((n : Int) != W * H) = false := by simp [hn]
 have hdw : (W % 8 != 0) = false := by simp [w3]
 have hdh : (H % 8 != 0) = false := by simp [h3]
 have E0 := Ext.alloc w (.cells #[.int .i64 W, .int .i64 H, .slice a n c] 25)
 have p0 := blk_new w (.cells #[.int .i64 W, .int .i64 H, .slice a n c] 25)
 clear hn w3 h3 hl
 go_enter Tryd.func92, Tryd.ntmps92
 go_wp2_with fail
 refine (l1In_yes _ _ _ _ w1 w2).mono ?_
 rintro e w1' ⟨rfl, rfl⟩
 go_wp2_with fail
 refine (l1In_yes _ _ _ _ h1 h2).mono ?_
 rintro e w1' ⟨rfl, rfl⟩
 go_wp2_with fail
 go_loop [3] (fun i => ∃ k : Nat, k ≤ n ∧ i = .int .i64 k ∧ Hid (∀ j, j < k → 0 ≤ nth zs j ∧ nth zs j ≤ 255)) (fun i => n - (intOf i).toNat)
 case atStart => exact ⟨0, by omega, rfl, Lib.hid (fun j hj => by omega)⟩
 case round =>
  obtain ⟨k, hk, rfl, hall⟩ := hrel
  by_cases hlt : k < n
  ·obtain ⟨b1, o1, rfl, g1⟩ := (r.ext E0).int hlt
   by_cases hin : 0 ≤ nth zs k ∧ nth zs k ≤ 255
   ·have hall2 := Lib.hid (show ∀ j, j < k + 1 → 0 ≤ nth zs j ∧ nth zs j ≤ 255 from fun j hj => by
     rcases Nat.lt_succ_iff_lt_or_eq.1 hj with h | rfl
     ·exact hall.out j h
     ·exact hin)
    generalize nth zs k = z at *
    go_wp2_with fail
    refine (l1In_yes _ _ _ _ hin.1 hin.2).mono ?_
    rintro e w2' ⟨rfl, rfl⟩
    go_wp2
    go_round
    case rel => exact ⟨k + 1, by omega, by go_num, hall2⟩
    case measure => simp [intOf]; omega
   ·have hno := Lib.hid (smp_no (zs := zs) (k := k) (by rw [Hl.out]; exact hlt) (by omega))
    generalize nth zs k = z at *
    go_wp2_with fail
    refine (l1In_no _ _ _ _ (by omega)).mono ?_
    rintro e w2' ⟨rfl, rfl⟩
    go_wp2
    go_ret
    exact ⟨(ret_bool (decide_eq_false hno.out)).symm, E0⟩
  ·obtain rfl : k = n := by omega
   go_wp2
   go_ret
   exact ⟨(ret_bool (decide_eq_true (smp_yes (fun j hj => hall.out j (by rw [Hl.out] at hj; exact hj))))).symm, E0⟩
set_option maxRecDepth 100000 in
theorem spec_PictureValid_out (W H : Int) (a : Option Addr) (c n : Nat) (w : World) (hc : n ≤ 9223372036854775807) (hs : ¬ shaped W H n) :
 Calls Tryd.prog 92 #[.agg #[.int .i64 W, .int .i64 H, .slice a n c]] w fun e w' => e = .returned (.bool false) ∧ Ext w w' := by
 have E0 := Ext.alloc w (.cells #[.int .i64 W, .int .i64 H, .slice a n c] 25)
 have p0 := blk_new w (.cells #[.int .i64 W, .int .i64 H, .slice a n c] 25)
 by_cases hw : 8 ≤ W ∧ W ≤ 32
 ·by_cases hh : 8 ≤ H ∧ H ≤ 32
  ·by_cases hw8 : W % 8 = 0
   ·have hdw : (W % 8 != 0) = false := by simp [hw8]
    by_cases hh8 : H % 8 = 0
    ·have hdh : (H % 8 != 0) = false := by simp [hh8]
     have hp := area_le ⟨hw.1, hw.2, hw8⟩ ⟨hh.1, hh.2, hh8⟩
     have hd1 : ((n : Int) != W * H) = true := by
      simp
      intro he
      exact hs ⟨⟨hw.1, hw.2, hw8⟩, ⟨hh.1, hh.2, hh8⟩, he⟩
     clear hw8 hh8 hs
     go_enter Tryd.func92, Tryd.ntmps92
     go_wp2_with fail
     refine (l1In_yes _ _ _ _ hw.1 hw.2).mono ?_
     rintro e w1' ⟨rfl, rfl⟩
     go_wp2_with fail
     refine (l1In_yes _ _ _ _ hh.1 hh.2).mono ?_
     rintro e w1' ⟨rfl, rfl⟩
     go_wp2
     go_ret
     exact ⟨rfl, E0⟩
    ·have hdh : (H % 8 != 0) = true := by simp [hh8]
     clear hw8 hs
     go_enter Tryd.func92, Tryd.ntmps92
     go_wp2_with fail
     refine (l1In_yes _ _ _ _ hw.1 hw.2).mono ?_
     rintro e w1' ⟨rfl, rfl⟩
     go_wp2_with fail
     refine (l1In_yes _ _ _ _ hh.1 hh.2).mono ?_
     rintro e w1' ⟨rfl, rfl⟩
     go_wp2
     go_ret
     exact ⟨rfl, E0⟩
   ·have hdw : (W % 8 != 0) = true := by simp [hw8]
    clear hs
    go_enter Tryd.func92, Tryd.ntmps92
    go_wp2_with fail
    refine (l1In_yes _ _ _ _ hw.1 hw.2).mono ?_
    rintro e w1' ⟨rfl, rfl⟩
    go_wp2_with fail
    refine (l1In_yes _ _ _ _ hh.1 hh.2).mono ?_
    rintro e w1' ⟨rfl, rfl⟩
    go_wp2
    go_ret
    exact ⟨rfl, E0⟩
  ·clear hs
   go_enter Tryd.func92, Tryd.ntmps92
   go_wp2_with fail
   refine (l1In_yes _ _ _ _ hw.1 hw.2).mono ?_
   rintro e w1' ⟨rfl, rfl⟩
   go_wp2_with fail
   refine (l1In_no _ _ _ _ (by omega)).mono ?_
   rintro e w1' ⟨rfl, rfl⟩
   go_wp2
   go_ret
   exact ⟨rfl, E0⟩
 ·clear hs
  go_enter Tryd.func92, Tryd.ntmps92
  go_wp2_with fail
  refine (l1In_no _ _ _ _ (by omega)).mono ?_
  rintro e w1' ⟨rfl, rfl⟩
  go_wp2
  go_ret
  exact ⟨rfl, E0⟩
theorem spec_PictureValid_any (p : Pic) (a : Option Addr) (c n : Nat) (w : World) (hn : n = p.px.length) (hc : n ≤ 9223372036854775807) (r : Sl w a n (p.px.map (Value.int .i64))) :
 Calls Tryd.prog 92 #[.agg #[.int .i64 p.w, .int .i64 p.h, .slice a n c]] w fun e w' => e = .returned (.bool (decide p.valid)) ∧ Ext w w' := by
 subst hn
 by_cases hs : shaped p.w p.h p.px.length
 ·have h := spec_PictureValid_in p.w p.h a c _ p.px w r hs
  rw [show decide (smp p.px) = decide p.valid from decide_eq_decide.2 ⟨fun h => ⟨hs.1, hs.2.1, hs.2.2, h⟩, fun h => h.2.2.2⟩] at h
  exact h
 ·rw [decide_eq_false (fun h => hs ⟨h.1, h.2.1, h.2.2.1⟩)]
  exact spec_PictureValid_out p.w p.h a c _ w hc hs
theorem sideValid_dec (x : Int) (w : World) : Calls Tryd.prog 81 #[.int .i64 x] w fun e w' => e = .returned (.bool (decide (side x))) ∧ w = w' := by
 by_cases h1 : 8 ≤ x
 ·have d1 : decide (8 ≤ x) = true := by simpa using h1
  by_cases h2 : x ≤ 32
  ·have d2 : decide (x ≤ 32) = true := by simpa using h2
   by_cases h3 : x % 8 = 0
   ·have d3 : (x % 8 == 0) = true := by simp [h3]
    have H := Lib.hid (show decide (side x) = true from decide_eq_true ⟨h1, h2, h3⟩)
    clear h3
    go_enter Tryd.func81, Tryd.ntmps81
    go_wp2
    go_ret
    exact ⟨(ret_bool H.out).symm, rfl⟩
   ·have d3 : (x % 8 == 0) = false := by simp [h3]
    have H := Lib.hid (show decide (side x) = false from decide_eq_false (fun h => h3 h.2.2))
    clear h3
    go_enter Tryd.func81, Tryd.ntmps81
    go_wp2
    go_ret
    exact ⟨(ret_bool H.out).symm, rfl⟩
  ·have d2 : decide (x ≤ 32) = false := by simpa using h2
   have H := Lib.hid (show decide (side x) = false from decide_eq_false (fun h => h2 h.2.1))
   go_enter Tryd.func81, Tryd.ntmps81
   go_wp2
   go_ret
   exact ⟨(ret_bool H.out).symm, rfl⟩
 ·have d1 : decide (8 ≤ x) = false := by simpa using h1
  have H := Lib.hid (show decide (side x) = false from decide_eq_false (fun h => h1 h.1))
  go_enter Tryd.func81, Tryd.ntmps81
  go_wp2
  go_ret
  exact ⟨(ret_bool H.out).symm, rfl⟩
theorem sampleValid_no (x : Int) (w : World) (h : x < 0 ∨ 255 < x) : Calls Tryd.prog 97 #[.int .i64 x] w fun e w' => e = .returned (.bool false) ∧ w = w' := by
 by_cases h1 : 0 ≤ x
 ·have d1 : decide (0 ≤ x) = true := by simpa using h1
  have d2 : decide (x ≤ 255) = false := by simp; omega
  go_enter Tryd.func97, Tryd.ntmps97
  go_wp2
  go_ret
  exact ⟨rfl, rfl⟩
 ·have d1 : decide (0 ≤ x) = false := by simpa using h1
  go_enter Tryd.func97, Tryd.ntmps97
  go_wp2
  go_ret
  exact ⟨rfl, rfl⟩
set_option maxRecDepth 100000 in
theorem samplesIn_any (a : Option Addr) (c n : Nat) (zs : List Int) (w : World) (hn : n < 2^47) (r : Sl w a n (zs.map (Value.int .i64))) :
 Calls Tryd.prog 82 #[.slice a n c] w fun e w' => e = .returned (.bool (decide (smp zs))) ∧ w = w' := by
 have Hl := Lib.hid r.int_len
 go_enter Tryd.func82, Tryd.ntmps82
 go_wp2
 go_loop [7] (fun i => ∃ k : Nat, k ≤ n ∧ i = .int .i64 k ∧ Hid (∀ j, j < k → 0 ≤ nth zs j ∧ nth zs j ≤ 255)) (fun i => n - (intOf i).toNat)
 case atStart => exact ⟨0, by omega, rfl, Lib.hid (fun j hj => by omega)⟩
 case round =>
  obtain ⟨k, hk, rfl, hall⟩ := hrel
  by_cases hlt : k < n
  ·obtain ⟨b1, o1, rfl, g1⟩ := r.int hlt
   by_cases hin : 0 ≤ nth zs k ∧ nth zs k ≤ 255
   ·have hall2 := Lib.hid (show ∀ j, j < k + 1 → 0 ≤ nth zs j ∧ nth zs j ≤ 255 from fun j hj => by
     rcases Nat.lt_succ_iff_lt_or_eq.1 hj with h | rfl
     ·exact hall.out j h
     ·exact hin)
    generalize nth zs k = z at *
    go_wp2_with fail
    refine (sampleValid_yes z _ hin.1 hin.2).mono ?_
    rintro e w2' ⟨rfl, rfl⟩
    go_wp2
    go_round
    case rel => exact ⟨k + 1, by omega, by go_num, hall2⟩
    case measure => simp [intOf]; omega
   ·have hno := Lib.hid (smp_no (zs := zs) (k := k) (by rw [Hl.out]; exact hlt) (by omega))
    generalize nth zs k = z at *
    go_wp2_with fail
    refine (sampleValid_no z _ (by omega)).mono ?_
    rintro e w2' ⟨rfl, rfl⟩
    go_wp2
    go_ret
    exact ⟨(ret_bool (decide_eq_false hno.out)).symm, rfl⟩
  ·obtain rfl : k = n := by omega
   go_wp2
   go_ret
   exact ⟨(ret_bool (decide_eq_true (smp_yes (fun j hj => hall.out j (by rw [Hl.out] at hj; exact hj))))).symm, rfl⟩
set_option maxRecDepth 100000 in
theorem impl_PictureValid_any (p : Pic) (a : Option Addr) (c n : Nat) (w : World) (hn : n = p.px.length) (hc : n ≤ 9223372036854775807) (r : Sl w a n (p.px.map (Value.int .i64))) :
 Calls Tryd.prog 29 #[.agg #[.int .i64 p.w, .int .i64 p.h, .slice a n c]] w fun e w' => e = .returned (.bool (decide p.valid)) ∧ Ext w w' := by
 obtain ⟨W, H, zs⟩ := p
 have E0 := Ext.alloc w (.cells #[.int .i64 W, .int .i64 H, .slice a n c] 25)
 have p0 := blk_new w (.cells #[.int .i64 W, .int .i64 H, .slice a n c] 25)
 have HN := Lib.hid hn
 clear hn
 go_enter Tryd.func29, Tryd.ntmps29
 go_wp2_with fail
 refine (sideValid_dec W _).mono ?_
 rintro e w1' ⟨rfl, rfl⟩
 by_cases hw : side W
 ·rw [decide_eq_true hw]
  go_wp2_with fail
  refine (sideValid_dec H _).mono ?_
  rintro e w1' ⟨rfl, rfl⟩
  by_cases hh : side H
  ·rw [decide_eq_true hh]
   have hp := area_le hw hh
   have hw1 := hw.1
   have hw2 := hw.2.1
   have hh1 := hh.1
   have hh2 := hh.2.1
   by_cases hd : (n : Int) = W * H
   ·have hd1 : ((n : Int) != W * H) = false := by simp [hd]
    have hnb : n ≤ 1024 := by omega
    have H2 := Lib.hid (show smp zs ↔ Pic.valid ⟨W, H, zs⟩ from ⟨fun h => ⟨hw, hh, by rw [← hd, HN.out], h⟩, fun h => h.2.2.2⟩)
    clear hw hh hd
    go_wp2_with fail
    refine (samplesIn_any a c n zs _ (by omega) (r.ext E0)).mono ?_
    rintro e w1' ⟨rfl, rfl⟩
    go_wp2
    go_ret
    exact ⟨ret_bool (decide_eq_decide.2 H2.out), E0⟩
   ·have hd1 : ((n : Int) != W * H) = true := by simpa using hd
    have H2 := Lib.hid (show ¬ Pic.valid ⟨W, H, zs⟩ from fun h => hd (by rw [HN.out]; exact h.2.2.1))
    clear hw hh hd
    go_wp2
    go_ret
    exact ⟨(ret_bool (decide_eq_false H2.out)).symm, E0⟩
  ·rw [decide_eq_false hh]
   have H2 := Lib.hid (show ¬ Pic.valid ⟨W, H, zs⟩ from fun h => hh h.2.1)
   clear hw hh
   go_wp2
   go_ret
   exact ⟨(ret_bool (decide_eq_false H2.out)).symm, E0⟩
 ·rw [decide_eq_false hw]
  have H2 := Lib.hid (show ¬ Pic.valid ⟨W, H, zs⟩ from fun h => hw h.1)
  clear hw
  go_wp2
  go_ret
  exact ⟨(ret_bool (decide_eq_false H2.out)).symm, E0⟩
end Go.Proofs.YtbnhaegidfbgbaaDoor
namespace Go.Proofs.YtbnhaegidfbgbaaDoor
open Go.RowKit
set_option maxHeartbeats 1000000
set_option maxRecDepth 100000 in
theorem alike_any (p s : Pic) (a b : Option Addr) (c d n m : Nat) (w : World) (hn : n = p.px.length) (hm : m = s.px.length) (nc : n ≤ 9223372036854775807) (mc : m ≤ 9223372036854775807) (r : Sl w a n (p.px.map (Value.int .i64))) (q : Sl w b m (s.px.map (Value.int .i64))) :
 Calls Tryd.prog 38 #[.agg #[.int .i64 p.w, .int .i64 p.h, .slice a n c], .agg #[.int .i64 s.w, .int .i64 s.h, .slice b m d]] w fun e w' => e = .returned (.bool (decide ((p.valid) ∧ (s.valid) ∧ (p.w = s.w) ∧ (p.h = s.h)))) ∧ Ext w w' := by
 obtain ⟨B, hB⟩ : ∃ B, B = decide ((p.valid) ∧ (s.valid) ∧ (p.w = s.w) ∧ (p.h = s.h)) := ⟨_, rfl⟩
 rw [← hB]
 have HB := Lib.hid hB
 clear hB
 have HN := Lib.hid hn
 have HM := Lib.hid hm
 clear hn hm
 have a0_1 := Ext.alloc (w.alloc (.cells #[.int .i64 p.w, .int .i64 p.h, .slice a n c] 25)) (.cells #[.int .i64 s.w, .int .i64 s.h, .slice b m d] 25)
 have X0_0 := a0_1.blk (blk_new w (.cells #[.int .i64 p.w, .int .i64 p.h, .slice a n c] 25))
 have X1_0 := blk_new (w.alloc (.cells #[.int .i64 p.w, .int .i64 p.h, .slice a n c] 25)) (.cells #[.int .i64 s.w, .int .i64 s.h, .slice b m d] 25)
 have E_0 := (Ext.alloc w (.cells #[.int .i64 p.w, .int .i64 p.h, .slice a n c] 25)).trans (Ext.alloc (w.alloc (.cells #[.int .i64 p.w, .int .i64 p.h, .slice a n c] 25)) (.cells #[.int .i64 s.w, .int .i64 s.h, .slice b m d] 25))
 simp only [World.size_alloc] at X1_0
 clear a0_1
 obtain ⟨-, k0_0, k0_1, k0_2, -⟩ := bx3 X0_0
 obtain ⟨-, k1_0, k1_1, k1_2, -⟩ := bx3 X1_0
 go_enter Tryd.func38, Tryd.ntmps38
 obtain ⟨D0, hD0⟩ : ∃ D0, D0 = decide (p.valid) := ⟨_, rfl⟩
 have HD0 := Lib.hid hD0.symm
 clear hD0
 go_wp2_with fail
 refine (impl_PictureValid_any p a c n _ HN.out nc (r.ext E_0)).mono ?_
 rw [show decide (p.valid) = D0 from HD0.out]
 rintro e w_1 ⟨rfl, e_1⟩
 have X0_1 := e_1.blk X0_0
 have X1_1 := e_1.blk X1_0
 have E_1 := E_0.trans e_1
 clear k0_0 k0_1 k0_2 X0_0 k1_0 k1_1 k1_2 X1_0 E_0 e_1
 obtain ⟨-, k0_0, k0_1, k0_2, -⟩ := bx3 X0_1
 obtain ⟨-, k1_0, k1_1, k1_2, -⟩ := bx3 X1_1
 by_cases h0 : p.valid
 rotate_left
 ·have H0 := Lib.hid (show ¬ (p.valid) by first | exact h0 | omega)
  obtain rfl : D0 = false := by rw [← HD0.out]; exact decide_eq_false h0
  clear h0
  go_wp2
  go_ret
  exact ⟨by rw [HB.out, (decide_eq_false fun hh => by have h9 := H0.out; have h8 := hh.1; first | exact h9 h8 | omega)]; (first | done | rfl), E_1⟩
 obtain rfl : D0 = true := by rw [← HD0.out]; exact decide_eq_true h0
 have H0 := Lib.hid h0
 clear h0
 obtain ⟨D1, hD1⟩ : ∃ D1, D1 = decide (s.valid) := ⟨_, rfl⟩
 have HD1 := Lib.hid hD1.symm
 clear hD1
 go_wp2_with fail
 refine (impl_PictureValid_any s b d m _ HM.out mc (q.ext E_1)).mono ?_
 rw [show decide (s.valid) = D1 from HD1.out]
 rintro e w_2 ⟨rfl, e_2⟩
 have X0_2 := e_2.blk X0_1
 have X1_2 := e_2.blk X1_1
 have E_2 := E_1.trans e_2
 clear k0_0 k0_1 k0_2 X0_1 k1_0 k1_1 k1_2 X1_1 E_1 e_2
 obtain ⟨-, k0_0, k0_1, k0_2, -⟩ := bx3 X0_2
 obtain ⟨-, k1_0, k1_1, k1_2, -⟩ := bx3 X1_2
 by_cases h1 : s.valid
 rotate_left
 ·have H1 := Lib.hid (show ¬ (s.valid) by first | exact h1 | omega)
  obtain rfl : D1 = false := by rw [← HD1.out]; exact decide_eq_false h1
  clear h1
  go_wp2
  go_ret
  exact ⟨by rw [HB.out, (decide_eq_false fun hh => by have h9 := H1.out; have h8 := hh.2.1; first | exact h9 h8 | omega)]; (first | done | rfl), E_2⟩
 obtain rfl : D1 = true := by rw [← HD1.out]; exact decide_eq_true h1
 have H1 := Lib.hid h1
 clear h1
 by_cases h2 : p.w = s.w
 rotate_left
 ·have H2 := Lib.hid (show ¬ (p.w = s.w) by first | exact h2 | omega)
  have dw : (p.w == s.w) = false := by simpa using h2
  clear h2
  go_wp2
  go_ret
  exact ⟨by rw [HB.out, (decide_eq_false fun hh => by have h9 := H2.out; have h8 := hh.2.2.1; first | exact h9 h8 | omega)]; (first | done | rfl), E_2⟩
 have H2 := Lib.hid h2
 have dw : (p.w == s.w) = true := by simpa using h2
 clear h2
 by_cases h3 : p.h = s.h
 rotate_left
 ·have H3 := Lib.hid (show ¬ (p.h = s.h) by first | exact h3 | omega)
  have dh : (p.h == s.h) = false := by simpa using h3
  clear h3
  go_wp2
  go_ret
  exact ⟨by rw [HB.out, (decide_eq_false fun hh => by have h9 := H3.out; have h8 := hh.2.2.2; first | exact h9 h8 | omega)]; (first | done | rfl), E_2⟩
 have H3 := Lib.hid h3
 have dh : (p.h == s.h) = true := by simpa using h3
 clear h3
 go_wp2
 go_ret
 exact ⟨by rw [HB.out, (decide_eq_true ⟨H0.out, H1.out, H2.out, H3.out⟩)]; (first | done | rfl), E_2⟩
set_option maxRecDepth 100000 in
theorem l1Same_any (p s : Pic) (a b : Option Addr) (c d n m : Nat) (w : World) (hn : n = p.px.length) (hm : m = s.px.length) (nc : n ≤ 9223372036854775807) (mc : m ≤ 9223372036854775807) (r : Sl w a n (p.px.map (Value.int .i64))) (q : Sl w b m (s.px.map (Value.int .i64))) :
 Calls Tryd.prog 48 #[.agg #[.int .i64 p.w, .int .i64 p.h, .slice a n c], .agg #[.int .i64 s.w, .int .i64 s.h, .slice b m d]] w fun e w' => e = .returned (.bool (decide ((p.valid) ∧ (s.valid) ∧ (p.w = s.w) ∧ (p.h = s.h)))) ∧ Ext w w' := by
 obtain ⟨B, hB⟩ : ∃ B, B = decide ((p.valid) ∧ (s.valid) ∧ (p.w = s.w) ∧ (p.h = s.h)) := ⟨_, rfl⟩
 rw [← hB]
 have HB := Lib.hid hB
 clear hB
 have HN := Lib.hid hn
 have HM := Lib.hid hm
 clear hn hm
 have a0_1 := Ext.alloc (w.alloc (.cells #[.int .i64 p.w, .int .i64 p.h, .slice a n c] 25)) (.cells #[.int .i64 s.w, .int .i64 s.h, .slice b m d] 25)
 have X0_0 := a0_1.blk (blk_new w (.cells #[.int .i64 p.w, .int .i64 p.h, .slice a n c] 25))
 have X1_0 := blk_new (w.alloc (.cells #[.int .i64 p.w, .int .i64 p.h, .slice a n c] 25)) (.cells #[.int .i64 s.w, .int .i64 s.h, .slice b m d] 25)
 have E_0 := (Ext.alloc w (.cells #[.int .i64 p.w, .int .i64 p.h, .slice a n c] 25)).trans (Ext.alloc (w.alloc (.cells #[.int .i64 p.w, .int .i64 p.h, .slice a n c] 25)) (.cells #[.int .i64 s.w, .int .i64 s.h, .slice b m d] 25))
 simp only [World.size_alloc] at X1_0
 clear a0_1
 obtain ⟨-, k0_0, k0_1, k0_2, -⟩ := bx3 X0_0
 obtain ⟨-, k1_0, k1_1, k1_2, -⟩ := bx3 X1_0
 go_enter Tryd.func48, Tryd.ntmps48
 obtain ⟨D0, hD0⟩ : ∃ D0, D0 = decide (p.valid) := ⟨_, rfl⟩
 have HD0 := Lib.hid hD0.symm
 clear hD0
 go_wp2_with fail
 refine (spec_PictureValid_any p a c n _ HN.out nc (r.ext E_0)).mono ?_
 rw [show decide (p.valid) = D0 from HD0.out]
 rintro e w_1 ⟨rfl, e_1⟩
 have X0_1 := e_1.blk X0_0
 have X1_1 := e_1.blk X1_0
 have E_1 := E_0.trans e_1
 clear k0_0 k0_1 k0_2 X0_0 k1_0 k1_1 k1_2 X1_0 E_0 e_1
 obtain ⟨-, k0_0, k0_1, k0_2, -⟩ := bx3 X0_1
 obtain ⟨-, k1_0, k1_1, k1_2, -⟩ := bx3 X1_1
 by_cases h0 : p.valid
 rotate_left
 ·have H0 := Lib.hid (show ¬ (p.valid) by first | exact h0 | omega)
  obtain rfl : D0 = false := by rw [← HD0.out]; exact decide_eq_false h0
  clear h0
  go_wp2
  go_ret
  exact ⟨by rw [HB.out, (decide_eq_false fun hh => by have h9 := H0.out; have h8 := hh.1; first | exact h9 h8 | omega)]; (first | done | rfl), E_1⟩
 obtain rfl : D0 = true := by rw [← HD0.out]; exact decide_eq_true h0
 have H0 := Lib.hid h0
 clear h0
 obtain ⟨D1, hD1⟩ : ∃ D1, D1 = decide (s.valid) := ⟨_, rfl⟩
 have HD1 := Lib.hid hD1.symm
 clear hD1
 go_wp2_with fail
 refine (spec_PictureValid_any s b d m _ HM.out mc (q.ext E_1)).mono ?_
 rw [show decide (s.valid) = D1 from HD1.out]
 rintro e w_2 ⟨rfl, e_2⟩
 have X0_2 := e_2.blk X0_1
 have X1_2 := e_2.blk X1_1
 have E_2 := E_1.trans e_2
 clear k0_0 k0_1 k0_2 X0_1 k1_0 k1_1 k1_2 X1_1 E_1 e_2
 obtain ⟨-, k0_0, k0_1, k0_2, -⟩ := bx3 X0_2
 obtain ⟨-, k1_0, k1_1, k1_2, -⟩ := bx3 X1_2
 by_cases h1 : s.valid
 rotate_left
 ·have H1 := Lib.hid (show ¬ (s.valid) by first | exact h1 | omega)
  obtain rfl : D1 = false := by rw [← HD1.out]; exact decide_eq_false h1
  clear h1
  go_wp2
  go_ret
  exact ⟨by rw [HB.out, (decide_eq_false fun hh => by have h9 := H1.out; have h8 := hh.2.1; first | exact h9 h8 | omega)]; (first | done | rfl), E_2⟩
 obtain rfl : D1 = true := by rw [← HD1.out]; exact decide_eq_true h1
 have H1 := Lib.hid h1
 clear h1
 by_cases h2 : p.w = s.w
 rotate_left
 ·have H2 := Lib.hid (show ¬ (p.w = s.w) by first | exact h2 | omega)
  have dw : (p.w == s.w) = false := by simpa using h2
  clear h2
  go_wp2
  go_ret
  exact ⟨by rw [HB.out, (decide_eq_false fun hh => by have h9 := H2.out; have h8 := hh.2.2.1; first | exact h9 h8 | omega)]; (first | done | rfl), E_2⟩
 have H2 := Lib.hid h2
 have dw : (p.w == s.w) = true := by simpa using h2
 clear h2
 by_cases h3 : p.h = s.h
 rotate_left
 ·have H3 := Lib.hid (show ¬ (p.h = s.h) by first | exact h3 | omega)
  have dh : (p.h == s.h) = false := by simpa using h3
  clear h3
  go_wp2
  go_ret
  exact ⟨by rw [HB.out, (decide_eq_false fun hh => by have h9 := H3.out; have h8 := hh.2.2.2; first | exact h9 h8 | omega)]; (first | done | rfl), E_2⟩
 have H3 := Lib.hid h3
 have dh : (p.h == s.h) = true := by simpa using h3
 clear h3
 go_wp2
 go_ret
 exact ⟨by rw [HB.out, (decide_eq_true ⟨H0.out, H1.out, H2.out, H3.out⟩)]; (first | done | rfl), E_2⟩
set_option maxRecDepth 100000 in
theorem begins_any (p : Pic) (x y : Int) (a : Option Addr) (c n : Nat) (w : World) :
 Calls Tryd.prog 39 #[.agg #[.int .i64 p.w, .int .i64 p.h, .slice a n c], .int .i64 x, .int .i64 y] w fun e w' => e = .returned (.bool (decide ((0 ≤ x) ∧ (x < p.w) ∧ (x % 8 = 0) ∧ (0 ≤ y) ∧ (y < p.h) ∧ (y % 8 = 0)))) ∧ Ext w w' := by
 obtain ⟨B, hB⟩ : ∃ B, B = decide ((0 ≤ x) ∧ (x < p.w) ∧ (x % 8 = 0) ∧ (0 ≤ y) ∧ (y < p.h) ∧ (y % 8 = 0)) := ⟨_, rfl⟩
 rw [← hB]
 have HB := Lib.hid hB
 clear hB
 have X0_0 := blk_new w (.cells #[.int .i64 p.w, .int .i64 p.h, .slice a n c] 25)
 have E_0 := Ext.alloc w (.cells #[.int .i64 p.w, .int .i64 p.h, .slice a n c] 25)
 obtain ⟨-, k0_0, k0_1, k0_2, -⟩ := bx3 X0_0
 go_enter Tryd.func39, Tryd.ntmps39
 by_cases h0 : 0 ≤ x
 rotate_left
 ·have H0 := Lib.hid (show ¬ (0 ≤ x) by first | exact h0 | omega)
  have f0 : decide (0 ≤ x) = false := by simpa using h0
  go_wp2
  go_ret
  exact ⟨by rw [HB.out, (decide_eq_false fun hh => by have h9 := H0.out; have h8 := hh.1; first | exact h9 h8 | omega)]; (first | done | rfl), E_0⟩
 have H0 := Lib.hid h0
 have f0 : decide (0 ≤ x) = true := by simpa using h0
 by_cases h1 : x < p.w
 rotate_left
 ·have H1 := Lib.hid (show ¬ (x < p.w) by first | exact h1 | omega)
  have f1 : decide (x < p.w) = false := by simpa using h1
  clear h1
  go_wp2
  go_ret
  exact ⟨by rw [HB.out, (decide_eq_false fun hh => by have h9 := H1.out; have h8 := hh.2.1; first | exact h9 h8 | omega)]; (first | done | rfl), E_0⟩
 have H1 := Lib.hid h1
 have f1 : decide (x < p.w) = true := by simpa using h1
 clear h1
 by_cases h2 : x % 8 = 0
 rotate_left
 ·have H2 := Lib.hid (show ¬ (x % 8 = 0) by first | exact h2 | omega)
  have f2 : (x % 8 == 0) = false := by simpa using h2
  clear h2
  go_wp2
  go_ret
  exact ⟨by rw [HB.out, (decide_eq_false fun hh => by have h9 := H2.out; have h8 := hh.2.2.1; first | exact h9 h8 | omega)]; (first | done | rfl), E_0⟩
 have H2 := Lib.hid h2
 have f2 : (x % 8 == 0) = true := by simpa using h2
 clear h2
 by_cases h3 : 0 ≤ y
 rotate_left
 ·have H3 := Lib.hid (show ¬ (0 ≤ y) by first | exact h3 | omega)
  have f3 : decide (0 ≤ y) = false := by simpa using h3
  go_wp2
  go_ret
  exact ⟨by rw [HB.out, (decide_eq_false fun hh => by have h9 := H3.out; have h8 := hh.2.2.2.1; first | exact h9 h8 | omega)]; (first | done | rfl), E_0⟩
 have H3 := Lib.hid h3
 have f3 : decide (0 ≤ y) = true := by simpa using h3
 by_cases h4 : y < p.h
 rotate_left
 ·have H4 := Lib.hid (show ¬ (y < p.h) by first | exact h4 | omega)
  have f4 : decide (y < p.h) = false := by simpa using h4
  clear h4
  go_wp2
  go_ret
  exact ⟨by rw [HB.out, (decide_eq_false fun hh => by have h9 := H4.out; have h8 := hh.2.2.2.2.1; first | exact h9 h8 | omega)]; (first | done | rfl), E_0⟩
 have H4 := Lib.hid h4
 have f4 : decide (y < p.h) = true := by simpa using h4
 clear h4
 by_cases h5 : y % 8 = 0
 rotate_left
 ·have H5 := Lib.hid (show ¬ (y % 8 = 0) by first | exact h5 | omega)
  have f5 : (y % 8 == 0) = false := by simpa using h5
  clear h5
  go_wp2
  go_ret
  exact ⟨by rw [HB.out, (decide_eq_false fun hh => by have h9 := H5.out; have h8 := hh.2.2.2.2.2; first | exact h9 h8 | omega)]; (first | done | rfl), E_0⟩
 have H5 := Lib.hid h5
 have f5 : (y % 8 == 0) = true := by simpa using h5
 clear h5
 go_wp2
 go_ret
 exact ⟨by rw [HB.out, (decide_eq_true ⟨H0.out, H1.out, H2.out, H3.out, H4.out, H5.out⟩)]; (first | done | rfl), E_0⟩
set_option maxRecDepth 100000 in
theorem l7Place_any (p : Pic) (x y : Int) (a : Option Addr) (c n : Nat) (w : World) (hn : n = p.px.length) (nc : n ≤ 9223372036854775807) (r : Sl w a n (p.px.map (Value.int .i64))) :
 Calls Tryd.prog 49 #[.agg #[.int .i64 p.w, .int .i64 p.h, .slice a n c], .int .i64 x, .int .i64 y] w fun e w' => e = .returned (.bool (decide ((p.valid) ∧ (0 ≤ x ∧ x ≤ p.w - 1) ∧ (0 ≤ y ∧ y ≤ p.h - 1) ∧ (x % 8 = 0) ∧ (y % 8 = 0)))) ∧ Ext w w' := by
 obtain ⟨B, hB⟩ : ∃ B, B = decide ((p.valid) ∧ (0 ≤ x ∧ x ≤ p.w - 1) ∧ (0 ≤ y ∧ y ≤ p.h - 1) ∧ (x % 8 = 0) ∧ (y % 8 = 0)) := ⟨_, rfl⟩
 rw [← hB]
 have HB := Lib.hid hB
 clear hB
 have HN := Lib.hid hn
 clear hn
 have X0_0 := blk_new w (.cells #[.int .i64 p.w, .int .i64 p.h, .slice a n c] 25)
 have E_0 := Ext.alloc w (.cells #[.int .i64 p.w, .int .i64 p.h, .slice a n c] 25)
 obtain ⟨-, k0_0, k0_1, k0_2, -⟩ := bx3 X0_0
 go_enter Tryd.func49, Tryd.ntmps49
 obtain ⟨D0, hD0⟩ : ∃ D0, D0 = decide (p.valid) := ⟨_, rfl⟩
 have HD0 := Lib.hid hD0.symm
 clear hD0
 go_wp2_with fail
 refine (spec_PictureValid_any p a c n _ HN.out nc (r.ext E_0)).mono ?_
 rw [show decide (p.valid) = D0 from HD0.out]
 rintro e w_1 ⟨rfl, e_1⟩
 have X0_1 := e_1.blk X0_0
 have E_1 := E_0.trans e_1
 clear k0_0 k0_1 k0_2 X0_0 E_0 e_1
 obtain ⟨-, k0_0, k0_1, k0_2, -⟩ := bx3 X0_1
 by_cases h0 : p.valid
 rotate_left
 ·have H0 := Lib.hid (show ¬ (p.valid) by first | exact h0 | omega)
  obtain rfl : D0 = false := by rw [← HD0.out]; exact decide_eq_false h0
  clear h0
  go_wp2
  go_ret
  exact ⟨by rw [HB.out, (decide_eq_false fun hh => by have h9 := H0.out; have h8 := hh.1; first | exact h9 h8 | omega)]; (first | done | rfl), E_1⟩
 obtain rfl : D0 = true := by rw [← HD0.out]; exact decide_eq_true h0
 have H0 := Lib.hid h0
 have hs1 := h0.1.1
 have hs2 := h0.2.1.1
 have hs3 := h0.1.2.1
 have hs4 := h0.2.1.2.1
 clear h0
 by_cases h1 : 0 ≤ x ∧ x ≤ p.w - 1
 rotate_left
 ·have H1 := Lib.hid (show ¬ (0 ≤ x ∧ x ≤ p.w - 1) by first | exact h1 | omega)
  go_wp2_with fail
  refine (l1In_no _ _ _ _ (by omega)).mono ?_
  rintro e w_s1 ⟨rfl, rfl⟩
  go_wp2
  go_ret
  exact ⟨by rw [HB.out, (decide_eq_false fun hh => by have h9 := H1.out; have h8 := hh.2.1; first | exact h9 h8 | omega)]; (first | done | rfl), E_1⟩
 have H1 := Lib.hid h1
 go_wp2_with fail
 refine (l1In_yes _ _ _ _ h1.1 h1.2).mono ?_
 rintro e w_s1 ⟨rfl, rfl⟩
 by_cases h2 : 0 ≤ y ∧ y ≤ p.h - 1
 rotate_left
 ·have H2 := Lib.hid (show ¬ (0 ≤ y ∧ y ≤ p.h - 1) by first | exact h2 | omega)
  go_wp2_with fail
  refine (l1In_no _ _ _ _ (by omega)).mono ?_
  rintro e w_s2 ⟨rfl, rfl⟩
  go_wp2
  go_ret
  exact ⟨by rw [HB.out, (decide_eq_false fun hh => by have h9 := H2.out; have h8 := hh.2.2.1; first | exact h9 h8 | omega)]; (first | done | rfl), E_1⟩
 have H2 := Lib.hid h2
 go_wp2_with fail
 refine (l1In_yes _ _ _ _ h2.1 h2.2).mono ?_
 rintro e w_s2 ⟨rfl, rfl⟩
 by_cases h3 : x % 8 = 0
 rotate_left
 ·have H3 := Lib.hid (show ¬ (x % 8 = 0) by first | exact h3 | omega)
  have f2 : (x % 8 == 0) = false := by simpa using h3
  clear h3
  go_wp2
  go_ret
  exact ⟨by rw [HB.out, (decide_eq_false fun hh => by have h9 := H3.out; have h8 := hh.2.2.2.1; first | exact h9 h8 | omega)]; (first | done | rfl), E_1⟩
 have H3 := Lib.hid h3
 have f2 : (x % 8 == 0) = true := by simpa using h3
 clear h3
 by_cases h4 : y % 8 = 0
 rotate_left
 ·have H4 := Lib.hid (show ¬ (y % 8 = 0) by first | exact h4 | omega)
  have f5 : (y % 8 == 0) = false := by simpa using h4
  clear h4
  go_wp2
  go_ret
  exact ⟨by rw [HB.out, (decide_eq_false fun hh => by have h9 := H4.out; have h8 := hh.2.2.2.2; first | exact h9 h8 | omega)]; (first | done | rfl), E_1⟩
 have H4 := Lib.hid h4
 have f5 : (y % 8 == 0) = true := by simpa using h4
 clear h4
 go_wp2
 go_ret
 exact ⟨by rw [HB.out, (decide_eq_true ⟨H0.out, H1.out, H2.out, H3.out, H4.out⟩)]; (first | done | rfl), E_1⟩
theorem partAt_any (k : Nat) (w : World) (hk : k < 4) :
 Calls Tryd.prog 43 #[.int .i64 (k : Nat)] w fun e w' => e = .returned (.tuple #[.int .i64 ((k % 2 * 4 : Nat) : Int), .int .i64 ((k / 2 * 4 : Nat) : Int)]) ∧ w = w' := by
 go_enter Tryd.func43, Tryd.ntmps43
 go_wp2
 go_ret2
 exact ⟨by congr 1, rfl⟩
end Go.Proofs.YtbnhaegidfbgbaaDoor
namespace Go.Proofs.YtbnhaegidfbgbaaDoor
open Go.RowKit
set_option maxHeartbeats 400000
set_option maxRecDepth 100000 in
theorem impl_kindOf_0 (m : Mac) (w : World) (h : m.ok) (hk : m.kind = 0) :
 Calls Tryd.prog 57 #[.agg (ic m.zs)] w fun e w' => e = .returned (.iface 115 (.agg (ic m.zs))) ∧ Ext w w' := by
 have H := IB.new w 34 m.zs
 have h0 := H.cell (i := 0) (by rw [Mac.zs_len h]; omega)
 rw [Mac.zs_kind, hk] at h0
 have Hl := Lib.hid (Mac.zs_len h)
 clear hk
 go_enter Tryd.func57, Tryd.ntmps57
 go_wp2_with (refine wpList_iload 34 _ rfl rfl H 0 71 rfl _ Tryd.underlying34 rfl size_Macro (by rw [Hl.out]; omega) _ (by rw [sub_all _ _ Hl.out]) ?_)
 go_ret
 exact ⟨rfl, Ext.alloc _ _⟩
set_option maxRecDepth 100000 in
theorem impl_kindOf_1 (m : Mac) (w : World) (h : m.ok) (hk : m.kind = 1) :
 Calls Tryd.prog 57 #[.agg (ic m.zs)] w fun e w' => e = .returned (.iface 116 (.agg (ic m.zs))) ∧ Ext w w' := by
 have H := IB.new w 34 m.zs
 have h0 := H.cell (i := 0) (by rw [Mac.zs_len h]; omega)
 rw [Mac.zs_kind, hk] at h0
 have Hl := Lib.hid (Mac.zs_len h)
 clear hk
 go_enter Tryd.func57, Tryd.ntmps57
 go_wp2_with (refine wpList_iload 34 _ rfl rfl H 0 71 rfl _ Tryd.underlying34 rfl size_Macro (by rw [Hl.out]; omega) _ (by rw [sub_all _ _ Hl.out]) ?_)
 go_ret
 exact ⟨rfl, Ext.alloc _ _⟩
set_option maxRecDepth 100000 in
theorem impl_kindOf_2 (m : Mac) (w : World) (h : m.ok) (hk : m.kind = 2) :
 Calls Tryd.prog 57 #[.agg (ic m.zs)] w fun e w' => e = .returned (.iface 117 (.agg (ic m.zs))) ∧ Ext w w' := by
 have H := IB.new w 34 m.zs
 have h0 := H.cell (i := 0) (by rw [Mac.zs_len h]; omega)
 rw [Mac.zs_kind, hk] at h0
 have Hl := Lib.hid (Mac.zs_len h)
 clear hk
 go_enter Tryd.func57, Tryd.ntmps57
 go_wp2_with (refine wpList_iload 34 _ rfl rfl H 0 71 rfl _ Tryd.underlying34 rfl size_Macro (by rw [Hl.out]; omega) _ (by rw [sub_all _ _ Hl.out]) ?_)
 go_ret
 exact ⟨rfl, Ext.alloc _ _⟩
set_option maxRecDepth 100000 in
theorem impl_kindOf_no (m : Mac) (w : World) (h : m.ok) (hk : m.kind < 0 ∨ 2 < m.kind) :
 Calls Tryd.prog 57 #[.agg (ic m.zs)] w fun e w' => e = .returned .nilIface ∧ Ext w w' := by
 have H := IB.new w 34 m.zs
 have h0 := H.cell (i := 0) (by rw [Mac.zs_len h]; omega)
 rw [Mac.zs_kind] at h0
 have d0 : (m.kind == 0) = false := by simp; omega
 have d1 : (m.kind == 1) = false := by simp; omega
 have d2 : (m.kind == 2) = false := by simp; omega
 clear hk
 go_enter Tryd.func57, Tryd.ntmps57
 go_wp2
 go_ret
 exact ⟨rfl, Ext.alloc _ _⟩
set_option maxRecDepth 100000 in
theorem skipped_fits_any (m : Mac) (w : World) (h : m.ok) (r : Bool) (hr : decide (m.x = 0 ∧ m.y = 0 ∧ m.modes = zero4 ∧ m.lv = zero64) = r) :
 Calls Tryd.prog 172 #[.agg (ic m.zs)] w fun e w' => e = .returned (.bool r) ∧ Ext w w' := by
 have H := IB.new w 115 m.zs
 have Hl := Lib.hid (Mac.zs_len h)
 have Hm := Lib.hid h
 clear h
 by_cases h1 : m.x = 0 ∧ m.y = 0
 ·have Hv := Lib.hid (vec_eq m.x m.y true (by simpa using h1))
  by_cases h2 : m.modes = zero4
  ·have Hd2 := Lib.hid (show decide (m.modes = List.replicate 4 0) = true by simpa [zero4] using h2)
   by_cases h3 : m.lv = zero64
   ·have Hd3 := Lib.hid (show decide (m.lv = List.replicate 64 0) = true by simpa [zero64] using h3)
    have hr2 : r = true := by rw [← hr]; simp [h1, h2, h3]
    subst hr2
    clear hr h1 h2 h3
    go_enter Tryd.func172, Tryd.ntmps172
    go_wp2_with (first | (refine wpList_iload 27 _ rfl rfl H 1 2 rfl _ Tryd.underlying27 rfl size_Vector (by rw [Hl.out]; omega) _ Mac.zs_mv ?_) | (refine wpList_iload 30 _ rfl rfl H 3 4 rfl _ Tryd.underlying30 rfl size_A4 (by rw [Hl.out]; omega) _ (by rw [Mac.zs_modes Hm.out]) ?_) | (refine wpList_iload 32 _ rfl rfl H 7 64 rfl _ Tryd.underlying32 rfl size_A16A4 (by rw [Hl.out]; omega) _ (by rw [Mac.zs_lv Hm.out]) ?_) | (refine wpList_izero 30 rfl rfl Tryd.underlying30 size_int 4 zero_A4 ?_) | (refine wpList_izero 32 rfl rfl Tryd.underlying32 size_A16 64 zero_A16A4 ?_) | (refine wpList_veql 27 _ _ _ rfl rfl _ _ rfl rfl _ Hv.out guard_Vector ?_) | (refine wpList_ieql 30 _ _ _ rfl rfl _ _ rfl rfl _ _ rfl rfl Tryd.underlying30 size_int eqE_int Hm.out.modes (by simp) guard_A4 _ Hd2.out ?_) | (refine wpList_ieql 32 _ _ _ rfl rfl _ _ rfl rfl _ _ rfl rfl Tryd.underlying32 size_A16 eqE_A16 Hm.out.lv (by simp) guard_A16A4 _ Hd3.out ?_))
    go_ret
    exact ⟨rfl, Ext.alloc _ _⟩
   ·have Hd3 := Lib.hid (show decide (m.lv = List.replicate 64 0) = false by simpa [zero64] using h3)
    have hr2 : r = false := by rw [← hr]; simp [h3]
    subst hr2
    clear hr h1 h2 h3
    go_enter Tryd.func172, Tryd.ntmps172
    go_wp2_with (first | (refine wpList_iload 27 _ rfl rfl H 1 2 rfl _ Tryd.underlying27 rfl size_Vector (by rw [Hl.out]; omega) _ Mac.zs_mv ?_) | (refine wpList_iload 30 _ rfl rfl H 3 4 rfl _ Tryd.underlying30 rfl size_A4 (by rw [Hl.out]; omega) _ (by rw [Mac.zs_modes Hm.out]) ?_) | (refine wpList_iload 32 _ rfl rfl H 7 64 rfl _ Tryd.underlying32 rfl size_A16A4 (by rw [Hl.out]; omega) _ (by rw [Mac.zs_lv Hm.out]) ?_) | (refine wpList_izero 30 rfl rfl Tryd.underlying30 size_int 4 zero_A4 ?_) | (refine wpList_izero 32 rfl rfl Tryd.underlying32 size_A16 64 zero_A16A4 ?_) | (refine wpList_veql 27 _ _ _ rfl rfl _ _ rfl rfl _ Hv.out guard_Vector ?_) | (refine wpList_ieql 30 _ _ _ rfl rfl _ _ rfl rfl _ _ rfl rfl Tryd.underlying30 size_int eqE_int Hm.out.modes (by simp) guard_A4 _ Hd2.out ?_) | (refine wpList_ieql 32 _ _ _ rfl rfl _ _ rfl rfl _ _ rfl rfl Tryd.underlying32 size_A16 eqE_A16 Hm.out.lv (by simp) guard_A16A4 _ Hd3.out ?_))
    go_ret
    exact ⟨rfl, Ext.alloc _ _⟩
  ·have Hd2 := Lib.hid (show decide (m.modes = List.replicate 4 0) = false by simpa [zero4] using h2)
   have hr2 : r = false := by rw [← hr]; simp [h2]
   subst hr2
   clear hr h1 h2
   go_enter Tryd.func172, Tryd.ntmps172
   go_wp2_with (first | (refine wpList_iload 27 _ rfl rfl H 1 2 rfl _ Tryd.underlying27 rfl size_Vector (by rw [Hl.out]; omega) _ Mac.zs_mv ?_) | (refine wpList_iload 30 _ rfl rfl H 3 4 rfl _ Tryd.underlying30 rfl size_A4 (by rw [Hl.out]; omega) _ (by rw [Mac.zs_modes Hm.out]) ?_) | (refine wpList_iload 32 _ rfl rfl H 7 64 rfl _ Tryd.underlying32 rfl size_A16A4 (by rw [Hl.out]; omega) _ (by rw [Mac.zs_lv Hm.out]) ?_) | (refine wpList_izero 30 rfl rfl Tryd.underlying30 size_int 4 zero_A4 ?_) | (refine wpList_izero 32 rfl rfl Tryd.underlying32 size_A16 64 zero_A16A4 ?_) | (refine wpList_veql 27 _ _ _ rfl rfl _ _ rfl rfl _ Hv.out guard_Vector ?_) | (refine wpList_ieql 30 _ _ _ rfl rfl _ _ rfl rfl _ _ rfl rfl Tryd.underlying30 size_int eqE_int Hm.out.modes (by simp) guard_A4 _ Hd2.out ?_))
   go_ret
   exact ⟨rfl, Ext.alloc _ _⟩
 ·have Hv := Lib.hid (vec_eq m.x m.y false (by simpa using h1))
  have hr2 : r = false := by rw [← hr]; simp; intro a b; exact absurd ⟨a, b⟩ h1
  subst hr2
  clear hr h1
  go_enter Tryd.func172, Tryd.ntmps172
  go_wp2_with (first | (refine wpList_iload 27 _ rfl rfl H 1 2 rfl _ Tryd.underlying27 rfl size_Vector (by rw [Hl.out]; omega) _ Mac.zs_mv ?_) | (refine wpList_veql 27 _ _ _ rfl rfl _ _ rfl rfl _ Hv.out guard_Vector ?_))
  go_ret
  exact ⟨rfl, Ext.alloc _ _⟩
set_option maxRecDepth 100000 in
theorem inter_fits_any (m : Mac) (w : World) (h : m.ok) (r : Bool) (hr : decide (m.modes = zero4) = r) :
 Calls Tryd.prog 173 #[.agg (ic m.zs)] w fun e w' => e = .returned (.bool r) ∧ Ext w w' := by
 have H := IB.new w 116 m.zs
 have Hl := Lib.hid (Mac.zs_len h)
 have Hm := Lib.hid h
 have Hd2 := Lib.hid (show decide (m.modes = List.replicate 4 0) = r from hr)
 clear h hr
 go_enter Tryd.func173, Tryd.ntmps173
 go_wp2_with (first | (refine wpList_iload 30 _ rfl rfl H 3 4 rfl _ Tryd.underlying30 rfl size_A4 (by rw [Hl.out]; omega) _ (by rw [Mac.zs_modes Hm.out]) ?_) | (refine wpList_izero 30 rfl rfl Tryd.underlying30 size_int 4 zero_A4 ?_) | (refine wpList_ieql 30 _ _ _ rfl rfl _ _ rfl rfl _ _ rfl rfl Tryd.underlying30 size_int eqE_int Hm.out.modes (by simp) guard_A4 _ Hd2.out ?_))
 go_ret
 exact ⟨rfl, Ext.alloc _ _⟩
set_option maxRecDepth 100000 in
theorem intra_fits_yes (m : Mac) (w : World) (h : m.ok) (hj : ∀ j, j < 4 → 0 ≤ nth m.modes j ∧ nth m.modes j ≤ 4) (r : Bool) (hr : decide (m.x = 0 ∧ m.y = 0) = r) :
 Calls Tryd.prog 174 #[.agg (ic m.zs)] w fun e w' => e = .returned (.bool r) ∧ Ext w w' := by
 have H := IB.new w 117 m.zs
 have Hl := Lib.hid (Mac.zs_len h)
 have Hm := Lib.hid h
 have Hv := Lib.hid (vec_eq m.x m.y r hr)
 have Hj := Lib.hid hj
 clear h hr hj
 go_enter Tryd.func174, Tryd.ntmps174
 go_wp2_with (refine wpList_iload 30 _ rfl rfl H 3 4 rfl _ Tryd.underlying30 rfl size_A4 (by rw [Hl.out]; omega) _ (by rw [Mac.zs_modes Hm.out]) ?_)
 go_loopw [7] (fun i wr => ∃ k : Nat, k ≤ 4 ∧ i = .int .i64 k ∧ wr = w.alloc (.cells (ic m.zs) 117)) (fun i _ => 4 - (intOf i).toNat)
 case atStart => exact ⟨0, by omega, rfl, rfl⟩
 case round =>
  obtain ⟨k, hk, rfl, rfl⟩ := hrel
  by_cases hlt : k < 4
  ·obtain ⟨h1, h2⟩ := Hj.out k hlt
   go_wp2_with (refine wpList_iindex _ _ _ rfl rfl m.modes rfl k 4 _ rfl rfl _ Tryd.underlying30 Tryd.underlying3 size_int hlt Hm.out.modes ?_)
   go_roundw
   case rel => exact ⟨k + 1, by omega, by go_num, by first | trivial | rfl⟩
   case measure => simp [intOf]; omega
  ·obtain rfl : k = 4 := by omega
   go_wp2_with (first | (refine wpList_iload 27 _ rfl rfl H 1 2 rfl _ Tryd.underlying27 rfl size_Vector (by rw [Hl.out]; omega) _ Mac.zs_mv ?_) | (refine wpList_veql 27 _ _ _ rfl rfl _ _ rfl rfl _ Hv.out guard_Vector ?_))
   go_ret
   exact ⟨rfl, Ext.alloc _ _⟩
set_option maxRecDepth 100000 in
theorem intra_fits_no (m : Mac) (w : World) (h : m.ok) (hj : ¬ ∀ j, j < 4 → 0 ≤ nth m.modes j ∧ nth m.modes j ≤ 4) :
 Calls Tryd.prog 174 #[.agg (ic m.zs)] w fun e w' => e = .returned (.bool false) ∧ Ext w w' := by
 have H := IB.new w 117 m.zs
 have Hl := Lib.hid (Mac.zs_len h)
 have Hm := Lib.hid h
 have Hj := Lib.hid hj
 clear h hj
 go_enter Tryd.func174, Tryd.ntmps174
 go_wp2_with (refine wpList_iload 30 _ rfl rfl H 3 4 rfl _ Tryd.underlying30 rfl size_A4 (by rw [Hl.out]; omega) _ (by rw [Mac.zs_modes Hm.out]) ?_)
 go_loopw [7] (fun i wr => ∃ k : Nat, k ≤ 4 ∧ i = .int .i64 k ∧ wr = w.alloc (.cells (ic m.zs) 117) ∧ Hid (∀ j, j < k → 0 ≤ nth m.modes j ∧ nth m.modes j ≤ 4)) (fun i _ => 4 - (intOf i).toNat)
 case atStart => exact ⟨0, by omega, rfl, rfl, Lib.hid (fun j hj => by omega)⟩
 case round =>
  obtain ⟨k, hk, rfl, rfl, hall⟩ := hrel
  by_cases hlt : k < 4
  ·by_cases h1 : nth m.modes k < 0
   ·go_wp2_with (refine wpList_iindex _ _ _ rfl rfl m.modes rfl k 4 _ rfl rfl _ Tryd.underlying30 Tryd.underlying3 size_int hlt Hm.out.modes ?_)
    go_ret
    exact ⟨rfl, Ext.alloc _ _⟩
   ·have hd1 : decide (nth m.modes k < 0) = false := by simpa using h1
    by_cases h2 : 4 < nth m.modes k
    ·go_wp2_with (refine wpList_iindex _ _ _ rfl rfl m.modes rfl k 4 _ rfl rfl _ Tryd.underlying30 Tryd.underlying3 size_int hlt Hm.out.modes ?_)
     go_ret
     exact ⟨rfl, Ext.alloc _ _⟩
    ·have hd2 : decide (4 < nth m.modes k) = false := by simpa using h2
     have hall2 := Lib.hid (show ∀ j, j < k + 1 → 0 ≤ nth m.modes j ∧ nth m.modes j ≤ 4 from fun j hj => by
      by_cases hjk : j = k
      ·subst hjk; omega
      ·exact hall.out j (by omega))
     go_wp2_with (refine wpList_iindex _ _ _ rfl rfl m.modes rfl k 4 _ rfl rfl _ Tryd.underlying30 Tryd.underlying3 size_int hlt Hm.out.modes ?_)
     go_roundw
     case rel => exact ⟨k + 1, by omega, by go_num, by first | trivial | rfl, hall2⟩
     case measure => simp [intOf]; omega
  ·obtain rfl : k = 4 := by omega
   exact absurd hall.out Hj.out
end Go.Proofs.YtbnhaegidfbgbaaDoor
