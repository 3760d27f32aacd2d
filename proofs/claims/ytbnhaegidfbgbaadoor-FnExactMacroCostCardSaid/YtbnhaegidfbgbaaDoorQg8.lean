/- The prediction of a block from the samples around it: both sides. -/
import Derived.Test.YtbnhaegidfbgbaaDoorQg7
import Derived.Laws.EntriesVeiled
namespace Go.Proofs.YtbnhaegidfbgbaaDoor
open Go.RowKit
set_option maxHeartbeats 1000000
theorem bx5m {w : World} {b : Nat} {x0 x1 x2 x3 x4 : Value} {T : TypeId} (h : w.heap[b]? = some (.cells #[x0, x1, x2, x3, x4] T (0, 0))) : w.cell? ⟨b, 0, none⟩ = some x0 ∧ w.cell? ⟨b, 1, none⟩ = some x1 ∧ w.cell? ⟨b, 2, none⟩ = some x2 ∧ w.cell? ⟨b, 3, none⟩ = some x3 ∧ w.cell? ⟨b, 4, none⟩ = some x4 :=
 ⟨by simp [World.cell?, h], by simp [World.cell?, h], by simp [World.cell?, h], by simp [World.cell?, h], by simp [World.cell?, h]⟩
theorem prd_mix (m : Nat) (e : Ed) {k : Nat} (hk : k < 16) : (mixI (prd m e) (List.replicate 16 0) k).set k (prd1 m e (k % 4) (k / 4)) = mixI (prd m e) (List.replicate 16 0) (k + 1) := by
 rw [← nth_prd m e hk, mixI_set _ _ _ 16 (prd_len _ _) lenZ hk]
set_option maxRecDepth 100000 in
theorem predict_0 (e : Ed) (w : World) (ok : e.ok) :
 Calls Tryd.prog 73 #[.agg (edC e), .int .i64 0] w fun r w' => r = .returned (.agg (ic (prd 0 e))) ∧ Ext w w' := by
 have OK := Lib.hid ok
 have HI := Lib.hid (prd_len 0 e)
 have Hm := Lib.hid (fun (k : Nat) (hk : k < 16) => prd_mix 0 e hk)
 have a2 := Ext.alloc (w.alloc (.cells (edC e) 97)) (.cells (ic (List.replicate 16 0)) 31)
 have a3 := Ext.alloc ((w.alloc (.cells (edC e) 97)).alloc (.cells (ic (List.replicate 16 0)) 31)) (.cells #[.func (.func 107) #[] #[], .func (.func 108) #[] #[], .func (.func 109) #[] #[], .func (.func 110) #[] #[], .func (.func 111) #[] #[]] 124)
 have a4 := Ext.alloc (((w.alloc (.cells (edC e) 97)).alloc (.cells (ic (List.replicate 16 0)) 31)).alloc (.cells #[.func (.func 107) #[] #[], .func (.func 108) #[] #[], .func (.func 109) #[] #[], .func (.func 110) #[] #[], .func (.func 111) #[] #[]] 124)) (.cells (ic (List.replicate 16 0)) 31)
 have p0 := (((EB.new w e).ext a2).ext a3).ext a4
 have p1 := ((IB.new (w.alloc (.cells (edC e) 97)) 31 (List.replicate 16 0)).ext a3).ext a4
 have p2 := a4.blk (blk_new ((w.alloc (.cells (edC e) 97)).alloc (.cells (ic (List.replicate 16 0)) 31)) (.cells #[.func (.func 107) #[] #[], .func (.func 108) #[] #[], .func (.func 109) #[] #[], .func (.func 110) #[] #[], .func (.func 111) #[] #[]] 124))
 have p3 := IB.new (((w.alloc (.cells (edC e) 97)).alloc (.cells (ic (List.replicate 16 0)) 31)).alloc (.cells #[.func (.func 107) #[] #[], .func (.func 108) #[] #[], .func (.func 109) #[] #[], .func (.func 110) #[] #[], .func (.func 111) #[] #[]] 124)) 31 (List.replicate 16 0)
 have E1 := (((Ext.alloc w (.cells (edC e) 97)).trans a2).trans a3).trans a4
 simp only [World.size_alloc] at p1 p2 p3
 clear a2 a3 a4 ok
 go_enter Tryd.func73, Tryd.ntmps73
 go_wp2_with fail
 try simp only [World.size_alloc]
 obtain ⟨B, hB⟩ : ∃ B, B = w.heap.size := ⟨_, rfl⟩
 rw [← hB] at p0 p1 p2 p3 ⊢
 have hwB : w.heap.size ≤ B := by omega
 have HB := Lib.hid hB
 clear hB
 go_loopw [9] (fun i wr => ∃ k : Nat, k ≤ 16 ∧ i = .int .i64 k ∧ Ext w wr ∧ EB wr B e ∧ IB wr (B + 1) 31 (List.replicate 16 0) ∧ Hid (wr.heap[B + 1 + 1]? = some (.cells #[.func (.func 107) #[] #[], .func (.func 108) #[] #[], .func (.func 109) #[] #[], .func (.func 110) #[] #[], .func (.func 111) #[] #[]] 124 (0, 0))) ∧ IB wr (B + 1 + 1 + 1) 31 (mixI (prd 0 e) (List.replicate 16 0) k)) (fun i _ => 16 - (intOf i).toNat)
 case atStart => exact ⟨0, by omega, rfl, E1, p0, p1, Lib.hid p2, by rw [mixI_zero]; exact p3⟩
 case round =>
  obtain ⟨k, hk, rfl, E4, r0, r1, X2, r3⟩ := hrel
  clear p0 p1 p2 p3 E1
  by_cases hlt : k < 16
  ·have hd : decide ((k : Int) < 16) = true := by simp; omega
   have HM := Lib.hid (fun (k : Nat) (hk : k ≤ 16) => mixI_len (prd 0 e) (List.replicate 16 0) k 16 HI.out lenZ)
   have Hset := Lib.hid (show (mixI (prd 0 e) (List.replicate 16 0) k).set k (mean e) = mixI (prd 0 e) (List.replicate 16 0) (k + 1) from Hm.out k hlt)
   have G0 : Ext w wr ∧ EB wr B e ∧ IB wr (B + 1) 31 (List.replicate 16 0) ∧ Hid (wr.heap[B + 1 + 1]? = some (.cells #[.func (.func 107) #[] #[], .func (.func 108) #[] #[], .func (.func 109) #[] #[], .func (.func 110) #[] #[], .func (.func 111) #[] #[]] 124 (0, 0))) ∧ IB wr (B + 1 + 1 + 1) 31 (mixI (prd 0 e) (List.replicate 16 0) k) := ⟨E4, r0, r1, X2, r3⟩
   clear E4 r0 r1 X2 r3
   go_wp2_with fail
   refine wp_region_invL (by kernel_rfl) [(12, 0), (13, 1), (14, 2), (15, 3), (16, 4), (17, 5), (18, 6), (19, 7), (20, 8), (21, 9), (22, 10)] [[], [], [1], [1, 2], [], [], [5], [], [7], [1, 2, 3, 4, 5, 6, 7, 8], [0, 1, 2, 3, 4, 5, 6, 7, 8, 9], [0, 1, 2, 3, 4, 5, 6, 7, 8, 9, 10]] (fun i own ys wx => match i with | 0 => own = .int .i64 (k : Nat) | 1 => own = .int .i64 0 | 2 => own = .pointer (some ⟨B + 1 + 1, 0, none⟩) | 3 => own = .func (.func 107) #[] #[] | 4 => own = .agg (edC e) | 5 => own = .int .i64 (k : Nat) | 6 => own = .int .i64 ((k : Int) % 4) | 7 => own = .int .i64 (k : Nat) | 8 => own = .int .i64 ((k : Int) / 4) | 9 => own = .int .i64 (mean e) | 10 => own = .pointer (some ⟨B + 1 + 1 + 1, k, none⟩) | 11 => True | _ => True) (fun Lx wx => Ext w wx ∧ EB wx B e ∧ IB wx (B + 1) 31 (List.replicate 16 0) ∧ Hid (wx.heap[B + 1 + 1]? = some (.cells #[.func (.func 107) #[] #[], .func (.func 108) #[] #[], .func (.func 109) #[] #[], .func (.func 110) #[] #[], .func (.func 111) #[] #[]] 124 (0, 0))) ∧ IB wx (B + 1 + 1 + 1) 31 (if Lx 11 = true then mixI (prd 0 e) (List.replicate 16 0) (k + 1) else mixI (prd 0 e) (List.replicate 16 0) k)) (by kernel_rfl) (by kernel_rfl) (by kernel_rfl) ?g0_r1 ?gop_r1 ?gend_r1
   case g0_r1 => exact ⟨Ext.trans_drewN G0.1 1, G0.2.1.ext (Ext.drewN _ 1), G0.2.2.1.drewN 1, Lib.hid (blk_drewN G0.2.2.2.1.out 1), G0.2.2.2.2.drewN 1⟩
   case gop_r1 =>
    refine ⟨?_, ?_, ?_, ?_, ?_, ?_, ?_, ?_, ?_, ?_, ?_, ?_, trivial⟩
    ·intro Lx xs wx hG hl ha hb hD hI Qo Kx hK hQo
     have l11 : Lx 11 = false := hb 11 rfl
     clear hl ha hb hD hI
     simp only [patchS, Nat.reduceAdd, Nat.reduceEqDiff, ↓reduceIte] at hQo ⊢
     go_wp2
     exact hK.out _ _ ⟨rfl, hG, fun _ _ _ _ _ _ h => h⟩
    ·intro Lx xs wx hG hl ha hb hD hI Qo Kx hK hQo
     have l11 : Lx 11 = false := hb 11 rfl
     clear hl ha hb hD hI
     simp only [patchS, Nat.reduceAdd, Nat.reduceEqDiff, ↓reduceIte] at hQo ⊢
     go_wp2
     exact hK.out _ _ ⟨rfl, hG, fun _ _ _ _ _ _ h => h⟩
    ·intro Lx xs wx hG hl ha hb hD hI Qo Kx hK hQo
     have l11 : Lx 11 = false := hb 11 rfl
     clear hl ha hb
     have d1 : (xs 1) = .int .i64 0 := hD 1 rfl
     clear hD hI
     simp only [patchS, Nat.reduceAdd, Nat.reduceEqDiff, ↓reduceIte] at hQo ⊢
     generalize xs 1 = y1 at *
     subst d1
     go_wp2
     exact hK.out _ _ ⟨rfl, hG, fun _ _ _ _ _ _ h => h⟩
    ·intro Lx xs wx hG hl ha hb hD hI Qo Kx hK hQo
     have l11 : Lx 11 = false := hb 11 rfl
     clear hl ha hb
     have d2 : (xs 2) = .pointer (some ⟨B + 1 + 1, 0, none⟩) := hD 2 rfl
     clear hD hI
     simp only [patchS, Nat.reduceAdd, Nat.reduceEqDiff, ↓reduceIte] at hQo ⊢
     generalize xs 2 = y2 at *
     subst d2
     obtain ⟨f0, f1, f2, f3, f4⟩ := bx5m hG.2.2.2.1.out
     go_wp2
     exact hK.out _ _ ⟨rfl, hG, fun _ _ _ _ _ _ h => h⟩
    ·intro Lx xs wx hG hl ha hb hD hI Qo Kx hK hQo
     have l11 : Lx 11 = false := hb 11 rfl
     clear hl ha hb hD hI
     simp only [patchS, Nat.reduceAdd, Nat.reduceEqDiff, ↓reduceIte] at hQo ⊢
     go_wp2_with (refine wpList_cload 97 _ rfl rfl hG.2.1 rfl _ Tryd.underlying97 rfl 11 size_Edges (edC_size OK.out.ln) ?_)
     exact hK.out _ _ ⟨rfl, hG, fun _ _ _ _ _ _ h => h⟩
    ·intro Lx xs wx hG hl ha hb hD hI Qo Kx hK hQo
     have l11 : Lx 11 = false := hb 11 rfl
     clear hl ha hb hD hI
     simp only [patchS, Nat.reduceAdd, Nat.reduceEqDiff, ↓reduceIte] at hQo ⊢
     go_wp2
     exact hK.out _ _ ⟨rfl, hG, fun _ _ _ _ _ _ h => h⟩
    ·intro Lx xs wx hG hl ha hb hD hI Qo Kx hK hQo
     have l11 : Lx 11 = false := hb 11 rfl
     clear hl ha hb
     have d5 : (xs 5) = .int .i64 (k : Nat) := hD 5 rfl
     clear hD hI
     simp only [patchS, Nat.reduceAdd, Nat.reduceEqDiff, ↓reduceIte] at hQo ⊢
     generalize xs 5 = y5 at *
     subst d5
     go_wp2
     exact hK.out _ _ ⟨rfl, hG, fun _ _ _ _ _ _ h => h⟩
    ·intro Lx xs wx hG hl ha hb hD hI Qo Kx hK hQo
     have l11 : Lx 11 = false := hb 11 rfl
     clear hl ha hb hD hI
     simp only [patchS, Nat.reduceAdd, Nat.reduceEqDiff, ↓reduceIte] at hQo ⊢
     go_wp2
     exact hK.out _ _ ⟨rfl, hG, fun _ _ _ _ _ _ h => h⟩
    ·intro Lx xs wx hG hl ha hb hD hI Qo Kx hK hQo
     have l11 : Lx 11 = false := hb 11 rfl
     clear hl ha hb
     have d7 : (xs 7) = .int .i64 (k : Nat) := hD 7 rfl
     clear hD hI
     simp only [patchS, Nat.reduceAdd, Nat.reduceEqDiff, ↓reduceIte] at hQo ⊢
     generalize xs 7 = y7 at *
     subst d7
     go_wp2
     exact hK.out _ _ ⟨rfl, hG, fun _ _ _ _ _ _ h => h⟩
    ·intro Lx xs wx hG hl ha hb hD hI Qo Kx hK hQo
     have l11 : Lx 11 = false := hb 11 rfl
     clear hl ha hb
     have d3 : (xs 3) = .func (.func 107) #[] #[] := hD 3 rfl
     have d4 : (xs 4) = .agg (edC e) := hD 4 rfl
     have d6 : (xs 6) = .int .i64 ((k : Int) % 4) := hD 6 rfl
     have d8 : (xs 8) = .int .i64 ((k : Int) / 4) := hD 8 rfl
     clear hD hI
     simp only [patchS, Nat.reduceAdd, Nat.reduceEqDiff, ↓reduceIte] at hQo ⊢
     generalize xs 3 = y3 at *
     generalize xs 4 = y4 at *
     generalize xs 6 = y6 at *
     generalize xs 8 = y8 at *
     subst d3 d4 d6 d8
     go_wp2_with fail
     refine (impl_mean_any e _ _ _ OK.out).mono ?_
     rintro r w9 ⟨rfl, e9⟩
     go_wp2
     exact hK.out _ _ ⟨rfl, ⟨hG.1.trans e9, hG.2.1.ext e9, hG.2.2.1.ext e9, Lib.hid (e9.blk hG.2.2.2.1.out), hG.2.2.2.2.ext e9⟩, fun _ _ _ _ _ _ h => h⟩
    ·intro Lx xs wx hG hl ha hb hD hI Qo Kx hK hQo
     have l11 : Lx 11 = false := hb 11 rfl
     clear hl ha hb
     have d0 : (xs 0) = .int .i64 (k : Nat) := hD 0 rfl
     clear hD hI
     simp only [patchS, Nat.reduceAdd, Nat.reduceEqDiff, ↓reduceIte] at hQo ⊢
     generalize xs 0 = y0 at *
     subst d0
     go_wp2
     exact hK.out _ _ ⟨rfl, hG, fun _ _ _ _ _ _ h => h⟩
    ·intro Lx xs wx hG hl ha hb hD hI Qo Kx hK hQo
     have l11 : Lx 11 = false := hl
     clear hl ha hb
     have d9 : (xs 9) = .int .i64 (mean e) := hD 9 rfl
     have d10 : (xs 10) = .pointer (some ⟨B + 1 + 1 + 1, k, none⟩) := hD 10 rfl
     clear hD hI
     simp only [patchS, Nat.reduceAdd, Nat.reduceEqDiff, ↓reduceIte] at hQo ⊢
     generalize xs 9 = y9 at *
     generalize xs 10 = y10 at *
     subst d9 d10
     rw [l11, ifF] at hG
     have cx := hG.2.2.2.2.cell (i := k) (by rw [HM.out k hk]; exact hlt)
     have fx := hG.2.2.2.2.frozen k
     have s2 := hG.2.2.2.2.set k (mean e)
     rw [Hset.out] at s2
     have gE := Ext.grown hG.1 (gr_set _ (B + 1 + 1 + 1) k (.int .i64 (mean e))) (fun q hq => by cases hq; omega)
     have g0' := hG.2.1.set_other (c := B + 1 + 1 + 1) (i := k) (v := .int .i64 (mean e)) (by omega)
     have g1' := hG.2.2.1.set_other (c := B + 1 + 1 + 1) (i := k) (v := .int .i64 (mean e)) (by omega)
     have g2' := blk_set_other (c := B + 1 + 1 + 1) (i := k) (v := .int .i64 (mean e)) hG.2.2.2.1.out (by omega)
     go_wp2
     exact hQo undef _ (hK.out _ _ ⟨trivial, ⟨gE, g0', g1', Lib.hid g2', s2⟩, fun _ _ _ _ _ _ h => h⟩)
   intro xs wx hV hG0
   obtain ⟨Lx, hL, hG⟩ := hG0
   have l11 : Lx 11 = true := hL 11 (by decide)
   clear hL
   have d0 : (xs 0) = .int .i64 (k : Nat) := hV 0 (by decide)
   have d1 : (xs 1) = .int .i64 0 := hV 1 (by decide)
   have d2 : (xs 2) = .pointer (some ⟨B + 1 + 1, 0, none⟩) := hV 2 (by decide)
   have d3 : (xs 3) = .func (.func 107) #[] #[] := hV 3 (by decide)
   have d4 : (xs 4) = .agg (edC e) := hV 4 (by decide)
   have d5 : (xs 5) = .int .i64 (k : Nat) := hV 5 (by decide)
   have d6 : (xs 6) = .int .i64 ((k : Int) % 4) := hV 6 (by decide)
   have d7 : (xs 7) = .int .i64 (k : Nat) := hV 7 (by decide)
   have d8 : (xs 8) = .int .i64 ((k : Int) / 4) := hV 8 (by decide)
   have d9 : (xs 9) = .int .i64 (mean e) := hV 9 (by decide)
   have d10 : (xs 10) = .pointer (some ⟨B + 1 + 1 + 1, k, none⟩) := hV 10 (by decide)
   clear hV
   simp only [patchS, Nat.reduceAdd, Nat.reduceEqDiff, ↓reduceIte]
   generalize xs 0 = y0 at *
   generalize xs 1 = y1 at *
   generalize xs 2 = y2 at *
   generalize xs 3 = y3 at *
   generalize xs 4 = y4 at *
   generalize xs 5 = y5 at *
   generalize xs 6 = y6 at *
   generalize xs 7 = y7 at *
   generalize xs 8 = y8 at *
   generalize xs 9 = y9 at *
   generalize xs 10 = y10 at *
   generalize xs 11 = y11 at *
   replace hG : Ext w wx ∧ EB wx B e ∧ IB wx (B + 1) 31 (List.replicate 16 0) ∧ Hid (wx.heap[B + 1 + 1]? = some (.cells #[.func (.func 107) #[] #[], .func (.func 108) #[] #[], .func (.func 109) #[] #[], .func (.func 110) #[] #[], .func (.func 111) #[] #[]] 124 (0, 0))) ∧ IB wx (B + 1 + 1 + 1) 31 (if Lx 11 = true then mixI (prd 0 e) (List.replicate 16 0) (k + 1) else mixI (prd 0 e) (List.replicate 16 0) k) := hG
   clear d0 d1 d2 d3 d4 d5 d6 d7 d8 d9 d10
   rw [l11, ifT] at hG
   clear G0
   obtain ⟨E5, s0, s1, X5, s3⟩ := hG
   go_wp2
   go_roundw
   case rel => exact ⟨k + 1, by omega, by go_num, E5, s0, s1, X5, s3⟩
   case measure => simp [intOf]; omega
  ·obtain rfl : k = 16 := by omega
   rw [mixI_all _ _ 16 HI.out lenZ] at r3
   go_wp2_with (first | (refine wpList_iload 31 _ rfl rfl r3 0 16 rfl _ Tryd.underlying31 rfl size_A16 (by rw [HI.out]; omega) _ (by rw [sub_all _ _ (HI.out)]) ?_) | (refine wpList_istore 31 _ _ rfl rfl r1 0 16 rfl _ rfl _ rfl size_A16 (HI.out) (by simp) ?_; intro w6 p6 g6; refine Hid.out ?_))
   rw [spl_all (by rw [HI.out]; simp)] at p6
   have E6 : Ext w w6 := Ext.grown E4 g6 (fun q hq => by cases hq; omega)
   refine Lib.hid ?_
   go_wp2
   exact bodyPost_ret (v := .agg (ic (prd 0 e))) (results_cell_row rfl _ _ (B + 1) 31 (ic (prd 0 e)) (0, 0) _ rfl p6 Tryd.underlying31 rfl (by rw [ic_size, prd_len]; exact size_A16)) rfl ⟨rfl, E6⟩
set_option maxRecDepth 100000 in
theorem predict_1 (e : Ed) (w : World) (ok : e.ok) :
 Calls Tryd.prog 73 #[.agg (edC e), .int .i64 1] w fun r w' => r = .returned (.agg (ic (prd 1 e))) ∧ Ext w w' := by
 have OK := Lib.hid ok
 have HI := Lib.hid (prd_len 1 e)
 have Hm := Lib.hid (fun (k : Nat) (hk : k < 16) => prd_mix 1 e hk)
 have a2 := Ext.alloc (w.alloc (.cells (edC e) 97)) (.cells (ic (List.replicate 16 0)) 31)
 have a3 := Ext.alloc ((w.alloc (.cells (edC e) 97)).alloc (.cells (ic (List.replicate 16 0)) 31)) (.cells #[.func (.func 107) #[] #[], .func (.func 108) #[] #[], .func (.func 109) #[] #[], .func (.func 110) #[] #[], .func (.func 111) #[] #[]] 124)
 have a4 := Ext.alloc (((w.alloc (.cells (edC e) 97)).alloc (.cells (ic (List.replicate 16 0)) 31)).alloc (.cells #[.func (.func 107) #[] #[], .func (.func 108) #[] #[], .func (.func 109) #[] #[], .func (.func 110) #[] #[], .func (.func 111) #[] #[]] 124)) (.cells (ic (List.replicate 16 0)) 31)
 have p0 := (((EB.new w e).ext a2).ext a3).ext a4
 have p1 := ((IB.new (w.alloc (.cells (edC e) 97)) 31 (List.replicate 16 0)).ext a3).ext a4
 have p2 := a4.blk (blk_new ((w.alloc (.cells (edC e) 97)).alloc (.cells (ic (List.replicate 16 0)) 31)) (.cells #[.func (.func 107) #[] #[], .func (.func 108) #[] #[], .func (.func 109) #[] #[], .func (.func 110) #[] #[], .func (.func 111) #[] #[]] 124))
 have p3 := IB.new (((w.alloc (.cells (edC e) 97)).alloc (.cells (ic (List.replicate 16 0)) 31)).alloc (.cells #[.func (.func 107) #[] #[], .func (.func 108) #[] #[], .func (.func 109) #[] #[], .func (.func 110) #[] #[], .func (.func 111) #[] #[]] 124)) 31 (List.replicate 16 0)
 have E1 := (((Ext.alloc w (.cells (edC e) 97)).trans a2).trans a3).trans a4
 simp only [World.size_alloc] at p1 p2 p3
 clear a2 a3 a4 ok
 go_enter Tryd.func73, Tryd.ntmps73
 go_wp2_with fail
 try simp only [World.size_alloc]
 obtain ⟨B, hB⟩ : ∃ B, B = w.heap.size := ⟨_, rfl⟩
 rw [← hB] at p0 p1 p2 p3 ⊢
 have hwB : w.heap.size ≤ B := by omega
 have HB := Lib.hid hB
 clear hB
 go_loopw [9] (fun i wr => ∃ k : Nat, k ≤ 16 ∧ i = .int .i64 k ∧ Ext w wr ∧ EB wr B e ∧ IB wr (B + 1) 31 (List.replicate 16 0) ∧ Hid (wr.heap[B + 1 + 1]? = some (.cells #[.func (.func 107) #[] #[], .func (.func 108) #[] #[], .func (.func 109) #[] #[], .func (.func 110) #[] #[], .func (.func 111) #[] #[]] 124 (0, 0))) ∧ IB wr (B + 1 + 1 + 1) 31 (mixI (prd 1 e) (List.replicate 16 0) k)) (fun i _ => 16 - (intOf i).toNat)
 case atStart => exact ⟨0, by omega, rfl, E1, p0, p1, Lib.hid p2, by rw [mixI_zero]; exact p3⟩
 case round =>
  obtain ⟨k, hk, rfl, E4, r0, r1, X2, r3⟩ := hrel
  clear p0 p1 p2 p3 E1
  by_cases hlt : k < 16
  ·have hd : decide ((k : Int) < 16) = true := by simp; omega
   have HM := Lib.hid (fun (k : Nat) (hk : k ≤ 16) => mixI_len (prd 1 e) (List.replicate 16 0) k 16 HI.out lenZ)
   have Hset := Lib.hid (show (mixI (prd 1 e) (List.replicate 16 0) k).set k (prd1 1 e (k % 4) (k / 4)) = mixI (prd 1 e) (List.replicate 16 0) (k + 1) from Hm.out k hlt)
   have G0 : Ext w wr ∧ EB wr B e ∧ IB wr (B + 1) 31 (List.replicate 16 0) ∧ Hid (wr.heap[B + 1 + 1]? = some (.cells #[.func (.func 107) #[] #[], .func (.func 108) #[] #[], .func (.func 109) #[] #[], .func (.func 110) #[] #[], .func (.func 111) #[] #[]] 124 (0, 0))) ∧ IB wr (B + 1 + 1 + 1) 31 (mixI (prd 1 e) (List.replicate 16 0) k) := ⟨E4, r0, r1, X2, r3⟩
   clear E4 r0 r1 X2 r3
   go_wp2_with fail
   refine wp_region_invL (by kernel_rfl) [(12, 0), (13, 1), (14, 2), (15, 3), (16, 4), (17, 5), (18, 6), (19, 7), (20, 8), (21, 9), (22, 10)] [[], [], [1], [1, 2], [], [], [5], [], [7], [1, 2, 3, 4, 5, 6, 7, 8], [0, 1, 2, 3, 4, 5, 6, 7, 8, 9], [0, 1, 2, 3, 4, 5, 6, 7, 8, 9, 10]] (fun i own ys wx => match i with | 0 => own = .int .i64 (k : Nat) | 1 => own = .int .i64 1 | 2 => own = .pointer (some ⟨B + 1 + 1, 1, none⟩) | 3 => own = .func (.func 108) #[] #[] | 4 => own = .agg (edC e) | 5 => own = .int .i64 (k : Nat) | 6 => own = .int .i64 ((k : Int) % 4) | 7 => own = .int .i64 (k : Nat) | 8 => own = .int .i64 ((k : Int) / 4) | 9 => own = .int .i64 (prd1 1 e (k % 4) (k / 4)) | 10 => own = .pointer (some ⟨B + 1 + 1 + 1, k, none⟩) | 11 => True | _ => True) (fun Lx wx => Ext w wx ∧ EB wx B e ∧ IB wx (B + 1) 31 (List.replicate 16 0) ∧ Hid (wx.heap[B + 1 + 1]? = some (.cells #[.func (.func 107) #[] #[], .func (.func 108) #[] #[], .func (.func 109) #[] #[], .func (.func 110) #[] #[], .func (.func 111) #[] #[]] 124 (0, 0))) ∧ IB wx (B + 1 + 1 + 1) 31 (if Lx 11 = true then mixI (prd 1 e) (List.replicate 16 0) (k + 1) else mixI (prd 1 e) (List.replicate 16 0) k)) (by kernel_rfl) (by kernel_rfl) (by kernel_rfl) ?g0_r2 ?gop_r2 ?gend_r2
   case g0_r2 => exact ⟨Ext.trans_drewN G0.1 1, G0.2.1.ext (Ext.drewN _ 1), G0.2.2.1.drewN 1, Lib.hid (blk_drewN G0.2.2.2.1.out 1), G0.2.2.2.2.drewN 1⟩
   case gop_r2 =>
    refine ⟨?_, ?_, ?_, ?_, ?_, ?_, ?_, ?_, ?_, ?_, ?_, ?_, trivial⟩
    ·intro Lx xs wx hG hl ha hb hD hI Qo Kx hK hQo
     have l11 : Lx 11 = false := hb 11 rfl
     clear hl ha hb hD hI
     simp only [patchS, Nat.reduceAdd, Nat.reduceEqDiff, ↓reduceIte] at hQo ⊢
     go_wp2
     exact hK.out _ _ ⟨rfl, hG, fun _ _ _ _ _ _ h => h⟩
    ·intro Lx xs wx hG hl ha hb hD hI Qo Kx hK hQo
     have l11 : Lx 11 = false := hb 11 rfl
     clear hl ha hb hD hI
     simp only [patchS, Nat.reduceAdd, Nat.reduceEqDiff, ↓reduceIte] at hQo ⊢
     go_wp2
     exact hK.out _ _ ⟨rfl, hG, fun _ _ _ _ _ _ h => h⟩
    ·intro Lx xs wx hG hl ha hb hD hI Qo Kx hK hQo
     have l11 : Lx 11 = false := hb 11 rfl
     clear hl ha hb
     have d1 : (xs 1) = .int .i64 1 := hD 1 rfl
     clear hD hI
     simp only [patchS, Nat.reduceAdd, Nat.reduceEqDiff, ↓reduceIte] at hQo ⊢
     generalize xs 1 = y1 at *
     subst d1
     go_wp2
     exact hK.out _ _ ⟨rfl, hG, fun _ _ _ _ _ _ h => h⟩
    ·intro Lx xs wx hG hl ha hb hD hI Qo Kx hK hQo
     have l11 : Lx 11 = false := hb 11 rfl
     clear hl ha hb
     have d2 : (xs 2) = .pointer (some ⟨B + 1 + 1, 1, none⟩) := hD 2 rfl
     clear hD hI
     simp only [patchS, Nat.reduceAdd, Nat.reduceEqDiff, ↓reduceIte] at hQo ⊢
     generalize xs 2 = y2 at *
     subst d2
     obtain ⟨f0, f1, f2, f3, f4⟩ := bx5m hG.2.2.2.1.out
     go_wp2
     exact hK.out _ _ ⟨rfl, hG, fun _ _ _ _ _ _ h => h⟩
    ·intro Lx xs wx hG hl ha hb hD hI Qo Kx hK hQo
     have l11 : Lx 11 = false := hb 11 rfl
     clear hl ha hb hD hI
     simp only [patchS, Nat.reduceAdd, Nat.reduceEqDiff, ↓reduceIte] at hQo ⊢
     go_wp2_with (refine wpList_cload 97 _ rfl rfl hG.2.1 rfl _ Tryd.underlying97 rfl 11 size_Edges (edC_size OK.out.ln) ?_)
     exact hK.out _ _ ⟨rfl, hG, fun _ _ _ _ _ _ h => h⟩
    ·intro Lx xs wx hG hl ha hb hD hI Qo Kx hK hQo
     have l11 : Lx 11 = false := hb 11 rfl
     clear hl ha hb hD hI
     simp only [patchS, Nat.reduceAdd, Nat.reduceEqDiff, ↓reduceIte] at hQo ⊢
     go_wp2
     exact hK.out _ _ ⟨rfl, hG, fun _ _ _ _ _ _ h => h⟩
    ·intro Lx xs wx hG hl ha hb hD hI Qo Kx hK hQo
     have l11 : Lx 11 = false := hb 11 rfl
     clear hl ha hb
     have d5 : (xs 5) = .int .i64 (k : Nat) := hD 5 rfl
     clear hD hI
     simp only [patchS, Nat.reduceAdd, Nat.reduceEqDiff, ↓reduceIte] at hQo ⊢
     generalize xs 5 = y5 at *
     subst d5
     go_wp2
     exact hK.out _ _ ⟨rfl, hG, fun _ _ _ _ _ _ h => h⟩
    ·intro Lx xs wx hG hl ha hb hD hI Qo Kx hK hQo
     have l11 : Lx 11 = false := hb 11 rfl
     clear hl ha hb hD hI
     simp only [patchS, Nat.reduceAdd, Nat.reduceEqDiff, ↓reduceIte] at hQo ⊢
     go_wp2
     exact hK.out _ _ ⟨rfl, hG, fun _ _ _ _ _ _ h => h⟩
    ·intro Lx xs wx hG hl ha hb hD hI Qo Kx hK hQo
     have l11 : Lx 11 = false := hb 11 rfl
     clear hl ha hb
     have d7 : (xs 7) = .int .i64 (k : Nat) := hD 7 rfl
     clear hD hI
     simp only [patchS, Nat.reduceAdd, Nat.reduceEqDiff, ↓reduceIte] at hQo ⊢
     generalize xs 7 = y7 at *
     subst d7
     go_wp2
     exact hK.out _ _ ⟨rfl, hG, fun _ _ _ _ _ _ h => h⟩
    ·intro Lx xs wx hG hl ha hb hD hI Qo Kx hK hQo
     have l11 : Lx 11 = false := hb 11 rfl
     clear hl ha hb
     have d3 : (xs 3) = .func (.func 108) #[] #[] := hD 3 rfl
     have d4 : (xs 4) = .agg (edC e) := hD 4 rfl
     have d6 : (xs 6) = .int .i64 ((k : Int) % 4) := hD 6 rfl
     have d8 : (xs 8) = .int .i64 ((k : Int) / 4) := hD 8 rfl
     clear hD hI
     simp only [patchS, Nat.reduceAdd, Nat.reduceEqDiff, ↓reduceIte] at hQo ⊢
     generalize xs 3 = y3 at *
     generalize xs 4 = y4 at *
     generalize xs 6 = y6 at *
     generalize xs 8 = y8 at *
     subst d3 d4 d6 d8
     go_wp2_with fail
     refine (vertical_any e (k % 4) (k / 4) _ OK.out (by omega) (by omega)).mono ?_
     rintro r w9 ⟨rfl, e9⟩
     go_wp2
     exact hK.out _ _ ⟨rfl, ⟨hG.1.trans e9, hG.2.1.ext e9, hG.2.2.1.ext e9, Lib.hid (e9.blk hG.2.2.2.1.out), hG.2.2.2.2.ext e9⟩, fun _ _ _ _ _ _ h => h⟩
    ·intro Lx xs wx hG hl ha hb hD hI Qo Kx hK hQo
     have l11 : Lx 11 = false := hb 11 rfl
     clear hl ha hb
     have d0 : (xs 0) = .int .i64 (k : Nat) := hD 0 rfl
     clear hD hI
     simp only [patchS, Nat.reduceAdd, Nat.reduceEqDiff, ↓reduceIte] at hQo ⊢
     generalize xs 0 = y0 at *
     subst d0
     go_wp2
     exact hK.out _ _ ⟨rfl, hG, fun _ _ _ _ _ _ h => h⟩
    ·intro Lx xs wx hG hl ha hb hD hI Qo Kx hK hQo
     have l11 : Lx 11 = false := hl
     clear hl ha hb
     have d9 : (xs 9) = .int .i64 (prd1 1 e (k % 4) (k / 4)) := hD 9 rfl
     have d10 : (xs 10) = .pointer (some ⟨B + 1 + 1 + 1, k, none⟩) := hD 10 rfl
     clear hD hI
     simp only [patchS, Nat.reduceAdd, Nat.reduceEqDiff, ↓reduceIte] at hQo ⊢
     generalize xs 9 = y9 at *
     generalize xs 10 = y10 at *
     subst d9 d10
     rw [l11, ifF] at hG
     have cx := hG.2.2.2.2.cell (i := k) (by rw [HM.out k hk]; exact hlt)
     have fx := hG.2.2.2.2.frozen k
     have s2 := hG.2.2.2.2.set k (prd1 1 e (k % 4) (k / 4))
     rw [Hset.out] at s2
     have gE := Ext.grown hG.1 (gr_set _ (B + 1 + 1 + 1) k (.int .i64 (prd1 1 e (k % 4) (k / 4)))) (fun q hq => by cases hq; omega)
     have g0' := hG.2.1.set_other (c := B + 1 + 1 + 1) (i := k) (v := .int .i64 (prd1 1 e (k % 4) (k / 4))) (by omega)
     have g1' := hG.2.2.1.set_other (c := B + 1 + 1 + 1) (i := k) (v := .int .i64 (prd1 1 e (k % 4) (k / 4))) (by omega)
     have g2' := blk_set_other (c := B + 1 + 1 + 1) (i := k) (v := .int .i64 (prd1 1 e (k % 4) (k / 4))) hG.2.2.2.1.out (by omega)
     go_wp2
     exact hQo undef _ (hK.out _ _ ⟨trivial, ⟨gE, g0', g1', Lib.hid g2', s2⟩, fun _ _ _ _ _ _ h => h⟩)
   intro xs wx hV hG0
   obtain ⟨Lx, hL, hG⟩ := hG0
   have l11 : Lx 11 = true := hL 11 (by decide)
   clear hL
   have d0 : (xs 0) = .int .i64 (k : Nat) := hV 0 (by decide)
   have d1 : (xs 1) = .int .i64 1 := hV 1 (by decide)
   have d2 : (xs 2) = .pointer (some ⟨B + 1 + 1, 1, none⟩) := hV 2 (by decide)
   have d3 : (xs 3) = .func (.func 108) #[] #[] := hV 3 (by decide)
   have d4 : (xs 4) = .agg (edC e) := hV 4 (by decide)
   have d5 : (xs 5) = .int .i64 (k : Nat) := hV 5 (by decide)
   have d6 : (xs 6) = .int .i64 ((k : Int) % 4) := hV 6 (by decide)
   have d7 : (xs 7) = .int .i64 (k : Nat) := hV 7 (by decide)
   have d8 : (xs 8) = .int .i64 ((k : Int) / 4) := hV 8 (by decide)
   have d9 : (xs 9) = .int .i64 (prd1 1 e (k % 4) (k / 4)) := hV 9 (by decide)
   have d10 : (xs 10) = .pointer (some ⟨B + 1 + 1 + 1, k, none⟩) := hV 10 (by decide)
   clear hV
   simp only [patchS, Nat.reduceAdd, Nat.reduceEqDiff, ↓reduceIte]
   generalize xs 0 = y0 at *
   generalize xs 1 = y1 at *
   generalize xs 2 = y2 at *
   generalize xs 3 = y3 at *
   generalize xs 4 = y4 at *
   generalize xs 5 = y5 at *
   generalize xs 6 = y6 at *
   generalize xs 7 = y7 at *
   generalize xs 8 = y8 at *
   generalize xs 9 = y9 at *
   generalize xs 10 = y10 at *
   generalize xs 11 = y11 at *
   replace hG : Ext w wx ∧ EB wx B e ∧ IB wx (B + 1) 31 (List.replicate 16 0) ∧ Hid (wx.heap[B + 1 + 1]? = some (.cells #[.func (.func 107) #[] #[], .func (.func 108) #[] #[], .func (.func 109) #[] #[], .func (.func 110) #[] #[], .func (.func 111) #[] #[]] 124 (0, 0))) ∧ IB wx (B + 1 + 1 + 1) 31 (if Lx 11 = true then mixI (prd 1 e) (List.replicate 16 0) (k + 1) else mixI (prd 1 e) (List.replicate 16 0) k) := hG
   clear d0 d1 d2 d3 d4 d5 d6 d7 d8 d9 d10
   rw [l11, ifT] at hG
   clear G0
   obtain ⟨E5, s0, s1, X5, s3⟩ := hG
   go_wp2
   go_roundw
   case rel => exact ⟨k + 1, by omega, by go_num, E5, s0, s1, X5, s3⟩
   case measure => simp [intOf]; omega
  ·obtain rfl : k = 16 := by omega
   rw [mixI_all _ _ 16 HI.out lenZ] at r3
   go_wp2_with (first | (refine wpList_iload 31 _ rfl rfl r3 0 16 rfl _ Tryd.underlying31 rfl size_A16 (by rw [HI.out]; omega) _ (by rw [sub_all _ _ (HI.out)]) ?_) | (refine wpList_istore 31 _ _ rfl rfl r1 0 16 rfl _ rfl _ rfl size_A16 (HI.out) (by simp) ?_; intro w6 p6 g6; refine Hid.out ?_))
   rw [spl_all (by rw [HI.out]; simp)] at p6
   have E6 : Ext w w6 := Ext.grown E4 g6 (fun q hq => by cases hq; omega)
   refine Lib.hid ?_
   go_wp2
   exact bodyPost_ret (v := .agg (ic (prd 1 e))) (results_cell_row rfl _ _ (B + 1) 31 (ic (prd 1 e)) (0, 0) _ rfl p6 Tryd.underlying31 rfl (by rw [ic_size, prd_len]; exact size_A16)) rfl ⟨rfl, E6⟩
set_option maxRecDepth 100000 in
theorem predict_2 (e : Ed) (w : World) (ok : e.ok) :
 Calls Tryd.prog 73 #[.agg (edC e), .int .i64 2] w fun r w' => r = .returned (.agg (ic (prd 2 e))) ∧ Ext w w' := by
 have OK := Lib.hid ok
 have HI := Lib.hid (prd_len 2 e)
 have Hm := Lib.hid (fun (k : Nat) (hk : k < 16) => prd_mix 2 e hk)
 have a2 := Ext.alloc (w.alloc (.cells (edC e) 97)) (.cells (ic (List.replicate 16 0)) 31)
 have a3 := Ext.alloc ((w.alloc (.cells (edC e) 97)).alloc (.cells (ic (List.replicate 16 0)) 31)) (.cells #[.func (.func 107) #[] #[], .func (.func 108) #[] #[], .func (.func 109) #[] #[], .func (.func 110) #[] #[], .func (.func 111) #[] #[]] 124)
 have a4 := Ext.alloc (((w.alloc (.cells (edC e) 97)).alloc (.cells (ic (List.replicate 16 0)) 31)).alloc (.cells #[.func (.func 107) #[] #[], .func (.func 108) #[] #[], .func (.func 109) #[] #[], .func (.func 110) #[] #[], .func (.func 111) #[] #[]] 124)) (.cells (ic (List.replicate 16 0)) 31)
 have p0 := (((EB.new w e).ext a2).ext a3).ext a4
 have p1 := ((IB.new (w.alloc (.cells (edC e) 97)) 31 (List.replicate 16 0)).ext a3).ext a4
 have p2 := a4.blk (blk_new ((w.alloc (.cells (edC e) 97)).alloc (.cells (ic (List.replicate 16 0)) 31)) (.cells #[.func (.func 107) #[] #[], .func (.func 108) #[] #[], .func (.func 109) #[] #[], .func (.func 110) #[] #[], .func (.func 111) #[] #[]] 124))
 have p3 := IB.new (((w.alloc (.cells (edC e) 97)).alloc (.cells (ic (List.replicate 16 0)) 31)).alloc (.cells #[.func (.func 107) #[] #[], .func (.func 108) #[] #[], .func (.func 109) #[] #[], .func (.func 110) #[] #[], .func (.func 111) #[] #[]] 124)) 31 (List.replicate 16 0)
 have E1 := (((Ext.alloc w (.cells (edC e) 97)).trans a2).trans a3).trans a4
 simp only [World.size_alloc] at p1 p2 p3
 clear a2 a3 a4 ok
 go_enter Tryd.func73, Tryd.ntmps73
 go_wp2_with fail
 try simp only [World.size_alloc]
 obtain ⟨B, hB⟩ : ∃ B, B = w.heap.size := ⟨_, rfl⟩
 rw [← hB] at p0 p1 p2 p3 ⊢
 have hwB : w.heap.size ≤ B := by omega
 have HB := Lib.hid hB
 clear hB
 go_loopw [9] (fun i wr => ∃ k : Nat, k ≤ 16 ∧ i = .int .i64 k ∧ Ext w wr ∧ EB wr B e ∧ IB wr (B + 1) 31 (List.replicate 16 0) ∧ Hid (wr.heap[B + 1 + 1]? = some (.cells #[.func (.func 107) #[] #[], .func (.func 108) #[] #[], .func (.func 109) #[] #[], .func (.func 110) #[] #[], .func (.func 111) #[] #[]] 124 (0, 0))) ∧ IB wr (B + 1 + 1 + 1) 31 (mixI (prd 2 e) (List.replicate 16 0) k)) (fun i _ => 16 - (intOf i).toNat)
 case atStart => exact ⟨0, by omega, rfl, E1, p0, p1, Lib.hid p2, by rw [mixI_zero]; exact p3⟩
 case round =>
  obtain ⟨k, hk, rfl, E4, r0, r1, X2, r3⟩ := hrel
  clear p0 p1 p2 p3 E1
  by_cases hlt : k < 16
  ·have hd : decide ((k : Int) < 16) = true := by simp; omega
   have HM := Lib.hid (fun (k : Nat) (hk : k ≤ 16) => mixI_len (prd 2 e) (List.replicate 16 0) k 16 HI.out lenZ)
   have Hset := Lib.hid (show (mixI (prd 2 e) (List.replicate 16 0) k).set k (prd1 2 e (k % 4) (k / 4)) = mixI (prd 2 e) (List.replicate 16 0) (k + 1) from Hm.out k hlt)
   have G0 : Ext w wr ∧ EB wr B e ∧ IB wr (B + 1) 31 (List.replicate 16 0) ∧ Hid (wr.heap[B + 1 + 1]? = some (.cells #[.func (.func 107) #[] #[], .func (.func 108) #[] #[], .func (.func 109) #[] #[], .func (.func 110) #[] #[], .func (.func 111) #[] #[]] 124 (0, 0))) ∧ IB wr (B + 1 + 1 + 1) 31 (mixI (prd 2 e) (List.replicate 16 0) k) := ⟨E4, r0, r1, X2, r3⟩
   clear E4 r0 r1 X2 r3
   go_wp2_with fail
   refine wp_region_invL (by kernel_rfl) [(12, 0), (13, 1), (14, 2), (15, 3), (16, 4), (17, 5), (18, 6), (19, 7), (20, 8), (21, 9), (22, 10)] [[], [], [1], [1, 2], [], [], [5], [], [7], [1, 2, 3, 4, 5, 6, 7, 8], [0, 1, 2, 3, 4, 5, 6, 7, 8, 9], [0, 1, 2, 3, 4, 5, 6, 7, 8, 9, 10]] (fun i own ys wx => match i with | 0 => own = .int .i64 (k : Nat) | 1 => own = .int .i64 2 | 2 => own = .pointer (some ⟨B + 1 + 1, 2, none⟩) | 3 => own = .func (.func 109) #[] #[] | 4 => own = .agg (edC e) | 5 => own = .int .i64 (k : Nat) | 6 => own = .int .i64 ((k : Int) % 4) | 7 => own = .int .i64 (k : Nat) | 8 => own = .int .i64 ((k : Int) / 4) | 9 => own = .int .i64 (prd1 2 e (k % 4) (k / 4)) | 10 => own = .pointer (some ⟨B + 1 + 1 + 1, k, none⟩) | 11 => True | _ => True) (fun Lx wx => Ext w wx ∧ EB wx B e ∧ IB wx (B + 1) 31 (List.replicate 16 0) ∧ Hid (wx.heap[B + 1 + 1]? = some (.cells #[.func (.func 107) #[] #[], .func (.func 108) #[] #[], .func (.func 109) #[] #[], .func (.func 110) #[] #[], .func (.func 111) #[] #[]] 124 (0, 0))) ∧ IB wx (B + 1 + 1 + 1) 31 (if Lx 11 = true then mixI (prd 2 e) (List.replicate 16 0) (k + 1) else mixI (prd 2 e) (List.replicate 16 0) k)) (by kernel_rfl) (by kernel_rfl) (by kernel_rfl) ?g0_r3 ?gop_r3 ?gend_r3
   case g0_r3 => exact ⟨Ext.trans_drewN G0.1 1, G0.2.1.ext (Ext.drewN _ 1), G0.2.2.1.drewN 1, Lib.hid (blk_drewN G0.2.2.2.1.out 1), G0.2.2.2.2.drewN 1⟩
   case gop_r3 =>
    refine ⟨?_, ?_, ?_, ?_, ?_, ?_, ?_, ?_, ?_, ?_, ?_, ?_, trivial⟩
    ·intro Lx xs wx hG hl ha hb hD hI Qo Kx hK hQo
     have l11 : Lx 11 = false := hb 11 rfl
     clear hl ha hb hD hI
     simp only [patchS, Nat.reduceAdd, Nat.reduceEqDiff, ↓reduceIte] at hQo ⊢
     go_wp2
     exact hK.out _ _ ⟨rfl, hG, fun _ _ _ _ _ _ h => h⟩
    ·intro Lx xs wx hG hl ha hb hD hI Qo Kx hK hQo
     have l11 : Lx 11 = false := hb 11 rfl
     clear hl ha hb hD hI
     simp only [patchS, Nat.reduceAdd, Nat.reduceEqDiff, ↓reduceIte] at hQo ⊢
     go_wp2
     exact hK.out _ _ ⟨rfl, hG, fun _ _ _ _ _ _ h => h⟩
    ·intro Lx xs wx hG hl ha hb hD hI Qo Kx hK hQo
     have l11 : Lx 11 = false := hb 11 rfl
     clear hl ha hb
     have d1 : (xs 1) = .int .i64 2 := hD 1 rfl
     clear hD hI
     simp only [patchS, Nat.reduceAdd, Nat.reduceEqDiff, ↓reduceIte] at hQo ⊢
     generalize xs 1 = y1 at *
     subst d1
     go_wp2
     exact hK.out _ _ ⟨rfl, hG, fun _ _ _ _ _ _ h => h⟩
    ·intro Lx xs wx hG hl ha hb hD hI Qo Kx hK hQo
     have l11 : Lx 11 = false := hb 11 rfl
     clear hl ha hb
     have d2 : (xs 2) = .pointer (some ⟨B + 1 + 1, 2, none⟩) := hD 2 rfl
     clear hD hI
     simp only [patchS, Nat.reduceAdd, Nat.reduceEqDiff, ↓reduceIte] at hQo ⊢
     generalize xs 2 = y2 at *
     subst d2
     obtain ⟨f0, f1, f2, f3, f4⟩ := bx5m hG.2.2.2.1.out
     go_wp2
     exact hK.out _ _ ⟨rfl, hG, fun _ _ _ _ _ _ h => h⟩
    ·intro Lx xs wx hG hl ha hb hD hI Qo Kx hK hQo
     have l11 : Lx 11 = false := hb 11 rfl
     clear hl ha hb hD hI
     simp only [patchS, Nat.reduceAdd, Nat.reduceEqDiff, ↓reduceIte] at hQo ⊢
     go_wp2_with (refine wpList_cload 97 _ rfl rfl hG.2.1 rfl _ Tryd.underlying97 rfl 11 size_Edges (edC_size OK.out.ln) ?_)
     exact hK.out _ _ ⟨rfl, hG, fun _ _ _ _ _ _ h => h⟩
    ·intro Lx xs wx hG hl ha hb hD hI Qo Kx hK hQo
     have l11 : Lx 11 = false := hb 11 rfl
     clear hl ha hb hD hI
     simp only [patchS, Nat.reduceAdd, Nat.reduceEqDiff, ↓reduceIte] at hQo ⊢
     go_wp2
     exact hK.out _ _ ⟨rfl, hG, fun _ _ _ _ _ _ h => h⟩
    ·intro Lx xs wx hG hl ha hb hD hI Qo Kx hK hQo
     have l11 : Lx 11 = false := hb 11 rfl
     clear hl ha hb
     have d5 : (xs 5) = .int .i64 (k : Nat) := hD 5 rfl
     clear hD hI
     simp only [patchS, Nat.reduceAdd, Nat.reduceEqDiff, ↓reduceIte] at hQo ⊢
     generalize xs 5 = y5 at *
     subst d5
     go_wp2
     exact hK.out _ _ ⟨rfl, hG, fun _ _ _ _ _ _ h => h⟩
    ·intro Lx xs wx hG hl ha hb hD hI Qo Kx hK hQo
     have l11 : Lx 11 = false := hb 11 rfl
     clear hl ha hb hD hI
     simp only [patchS, Nat.reduceAdd, Nat.reduceEqDiff, ↓reduceIte] at hQo ⊢
     go_wp2
     exact hK.out _ _ ⟨rfl, hG, fun _ _ _ _ _ _ h => h⟩
    ·intro Lx xs wx hG hl ha hb hD hI Qo Kx hK hQo
     have l11 : Lx 11 = false := hb 11 rfl
     clear hl ha hb
     have d7 : (xs 7) = .int .i64 (k : Nat) := hD 7 rfl
     clear hD hI
     simp only [patchS, Nat.reduceAdd, Nat.reduceEqDiff, ↓reduceIte] at hQo ⊢
     generalize xs 7 = y7 at *
     subst d7
     go_wp2
     exact hK.out _ _ ⟨rfl, hG, fun _ _ _ _ _ _ h => h⟩
    ·intro Lx xs wx hG hl ha hb hD hI Qo Kx hK hQo
     have l11 : Lx 11 = false := hb 11 rfl
     clear hl ha hb
     have d3 : (xs 3) = .func (.func 109) #[] #[] := hD 3 rfl
     have d4 : (xs 4) = .agg (edC e) := hD 4 rfl
     have d6 : (xs 6) = .int .i64 ((k : Int) % 4) := hD 6 rfl
     have d8 : (xs 8) = .int .i64 ((k : Int) / 4) := hD 8 rfl
     clear hD hI
     simp only [patchS, Nat.reduceAdd, Nat.reduceEqDiff, ↓reduceIte] at hQo ⊢
     generalize xs 3 = y3 at *
     generalize xs 4 = y4 at *
     generalize xs 6 = y6 at *
     generalize xs 8 = y8 at *
     subst d3 d4 d6 d8
     go_wp2_with fail
     refine (horizontal_any e (k % 4) (k / 4) _ OK.out (by omega) (by omega)).mono ?_
     rintro r w9 ⟨rfl, e9⟩
     go_wp2
     exact hK.out _ _ ⟨rfl, ⟨hG.1.trans e9, hG.2.1.ext e9, hG.2.2.1.ext e9, Lib.hid (e9.blk hG.2.2.2.1.out), hG.2.2.2.2.ext e9⟩, fun _ _ _ _ _ _ h => h⟩
    ·intro Lx xs wx hG hl ha hb hD hI Qo Kx hK hQo
     have l11 : Lx 11 = false := hb 11 rfl
     clear hl ha hb
     have d0 : (xs 0) = .int .i64 (k : Nat) := hD 0 rfl
     clear hD hI
     simp only [patchS, Nat.reduceAdd, Nat.reduceEqDiff, ↓reduceIte] at hQo ⊢
     generalize xs 0 = y0 at *
     subst d0
     go_wp2
     exact hK.out _ _ ⟨rfl, hG, fun _ _ _ _ _ _ h => h⟩
    ·intro Lx xs wx hG hl ha hb hD hI Qo Kx hK hQo
     have l11 : Lx 11 = false := hl
     clear hl ha hb
     have d9 : (xs 9) = .int .i64 (prd1 2 e (k % 4) (k / 4)) := hD 9 rfl
     have d10 : (xs 10) = .pointer (some ⟨B + 1 + 1 + 1, k, none⟩) := hD 10 rfl
     clear hD hI
     simp only [patchS, Nat.reduceAdd, Nat.reduceEqDiff, ↓reduceIte] at hQo ⊢
     generalize xs 9 = y9 at *
     generalize xs 10 = y10 at *
     subst d9 d10
     rw [l11, ifF] at hG
     have cx := hG.2.2.2.2.cell (i := k) (by rw [HM.out k hk]; exact hlt)
     have fx := hG.2.2.2.2.frozen k
     have s2 := hG.2.2.2.2.set k (prd1 2 e (k % 4) (k / 4))
     rw [Hset.out] at s2
     have gE := Ext.grown hG.1 (gr_set _ (B + 1 + 1 + 1) k (.int .i64 (prd1 2 e (k % 4) (k / 4)))) (fun q hq => by cases hq; omega)
     have g0' := hG.2.1.set_other (c := B + 1 + 1 + 1) (i := k) (v := .int .i64 (prd1 2 e (k % 4) (k / 4))) (by omega)
     have g1' := hG.2.2.1.set_other (c := B + 1 + 1 + 1) (i := k) (v := .int .i64 (prd1 2 e (k % 4) (k / 4))) (by omega)
     have g2' := blk_set_other (c := B + 1 + 1 + 1) (i := k) (v := .int .i64 (prd1 2 e (k % 4) (k / 4))) hG.2.2.2.1.out (by omega)
     go_wp2
     exact hQo undef _ (hK.out _ _ ⟨trivial, ⟨gE, g0', g1', Lib.hid g2', s2⟩, fun _ _ _ _ _ _ h => h⟩)
   intro xs wx hV hG0
   obtain ⟨Lx, hL, hG⟩ := hG0
   have l11 : Lx 11 = true := hL 11 (by decide)
   clear hL
   have d0 : (xs 0) = .int .i64 (k : Nat) := hV 0 (by decide)
   have d1 : (xs 1) = .int .i64 2 := hV 1 (by decide)
   have d2 : (xs 2) = .pointer (some ⟨B + 1 + 1, 2, none⟩) := hV 2 (by decide)
   have d3 : (xs 3) = .func (.func 109) #[] #[] := hV 3 (by decide)
   have d4 : (xs 4) = .agg (edC e) := hV 4 (by decide)
   have d5 : (xs 5) = .int .i64 (k : Nat) := hV 5 (by decide)
   have d6 : (xs 6) = .int .i64 ((k : Int) % 4) := hV 6 (by decide)
   have d7 : (xs 7) = .int .i64 (k : Nat) := hV 7 (by decide)
   have d8 : (xs 8) = .int .i64 ((k : Int) / 4) := hV 8 (by decide)
   have d9 : (xs 9) = .int .i64 (prd1 2 e (k % 4) (k / 4)) := hV 9 (by decide)
   have d10 : (xs 10) = .pointer (some ⟨B + 1 + 1 + 1, k, none⟩) := hV 10 (by decide)
   clear hV
   simp only [patchS, Nat.reduceAdd, Nat.reduceEqDiff, ↓reduceIte]
   generalize xs 0 = y0 at *
   generalize xs 1 = y1 at *
   generalize xs 2 = y2 at *
   generalize xs 3 = y3 at *
   generalize xs 4 = y4 at *
   generalize xs 5 = y5 at *
   generalize xs 6 = y6 at *
   generalize xs 7 = y7 at *
   generalize xs 8 = y8 at *
   generalize xs 9 = y9 at *
   generalize xs 10 = y10 at *
   generalize xs 11 = y11 at *
   replace hG : Ext w wx ∧ EB wx B e ∧ IB wx (B + 1) 31 (List.replicate 16 0) ∧ Hid (wx.heap[B + 1 + 1]? = some (.cells #[.func (.func 107) #[] #[], .func (.func 108) #[] #[], .func (.func 109) #[] #[], .func (.func 110) #[] #[], .func (.func 111) #[] #[]] 124 (0, 0))) ∧ IB wx (B + 1 + 1 + 1) 31 (if Lx 11 = true then mixI (prd 2 e) (List.replicate 16 0) (k + 1) else mixI (prd 2 e) (List.replicate 16 0) k) := hG
   clear d0 d1 d2 d3 d4 d5 d6 d7 d8 d9 d10
   rw [l11, ifT] at hG
   clear G0
   obtain ⟨E5, s0, s1, X5, s3⟩ := hG
   go_wp2
   go_roundw
   case rel => exact ⟨k + 1, by omega, by go_num, E5, s0, s1, X5, s3⟩
   case measure => simp [intOf]; omega
  ·obtain rfl : k = 16 := by omega
   rw [mixI_all _ _ 16 HI.out lenZ] at r3
   go_wp2_with (first | (refine wpList_iload 31 _ rfl rfl r3 0 16 rfl _ Tryd.underlying31 rfl size_A16 (by rw [HI.out]; omega) _ (by rw [sub_all _ _ (HI.out)]) ?_) | (refine wpList_istore 31 _ _ rfl rfl r1 0 16 rfl _ rfl _ rfl size_A16 (HI.out) (by simp) ?_; intro w6 p6 g6; refine Hid.out ?_))
   rw [spl_all (by rw [HI.out]; simp)] at p6
   have E6 : Ext w w6 := Ext.grown E4 g6 (fun q hq => by cases hq; omega)
   refine Lib.hid ?_
   go_wp2
   exact bodyPost_ret (v := .agg (ic (prd 2 e))) (results_cell_row rfl _ _ (B + 1) 31 (ic (prd 2 e)) (0, 0) _ rfl p6 Tryd.underlying31 rfl (by rw [ic_size, prd_len]; exact size_A16)) rfl ⟨rfl, E6⟩
set_option maxRecDepth 100000 in
theorem predict_3 (e : Ed) (w : World) (ok : e.ok) :
 Calls Tryd.prog 73 #[.agg (edC e), .int .i64 3] w fun r w' => r = .returned (.agg (ic (prd 3 e))) ∧ Ext w w' := by
 have OK := Lib.hid ok
 have HI := Lib.hid (prd_len 3 e)
 have Hm := Lib.hid (fun (k : Nat) (hk : k < 16) => prd_mix 3 e hk)
 have a2 := Ext.alloc (w.alloc (.cells (edC e) 97)) (.cells (ic (List.replicate 16 0)) 31)
 have a3 := Ext.alloc ((w.alloc (.cells (edC e) 97)).alloc (.cells (ic (List.replicate 16 0)) 31)) (.cells #[.func (.func 107) #[] #[], .func (.func 108) #[] #[], .func (.func 109) #[] #[], .func (.func 110) #[] #[], .func (.func 111) #[] #[]] 124)
 have a4 := Ext.alloc (((w.alloc (.cells (edC e) 97)).alloc (.cells (ic (List.replicate 16 0)) 31)).alloc (.cells #[.func (.func 107) #[] #[], .func (.func 108) #[] #[], .func (.func 109) #[] #[], .func (.func 110) #[] #[], .func (.func 111) #[] #[]] 124)) (.cells (ic (List.replicate 16 0)) 31)
 have p0 := (((EB.new w e).ext a2).ext a3).ext a4
 have p1 := ((IB.new (w.alloc (.cells (edC e) 97)) 31 (List.replicate 16 0)).ext a3).ext a4
 have p2 := a4.blk (blk_new ((w.alloc (.cells (edC e) 97)).alloc (.cells (ic (List.replicate 16 0)) 31)) (.cells #[.func (.func 107) #[] #[], .func (.func 108) #[] #[], .func (.func 109) #[] #[], .func (.func 110) #[] #[], .func (.func 111) #[] #[]] 124))
 have p3 := IB.new (((w.alloc (.cells (edC e) 97)).alloc (.cells (ic (List.replicate 16 0)) 31)).alloc (.cells #[.func (.func 107) #[] #[], .func (.func 108) #[] #[], .func (.func 109) #[] #[], .func (.func 110) #[] #[], .func (.func 111) #[] #[]] 124)) 31 (List.replicate 16 0)
 have E1 := (((Ext.alloc w (.cells (edC e) 97)).trans a2).trans a3).trans a4
 simp only [World.size_alloc] at p1 p2 p3
 clear a2 a3 a4 ok
 go_enter Tryd.func73, Tryd.ntmps73
 go_wp2_with fail
 try simp only [World.size_alloc]
 obtain ⟨B, hB⟩ : ∃ B, B = w.heap.size := ⟨_, rfl⟩
 rw [← hB] at p0 p1 p2 p3 ⊢
 have hwB : w.heap.size ≤ B := by omega
 have HB := Lib.hid hB
 clear hB
 go_loopw [9] (fun i wr => ∃ k : Nat, k ≤ 16 ∧ i = .int .i64 k ∧ Ext w wr ∧ EB wr B e ∧ IB wr (B + 1) 31 (List.replicate 16 0) ∧ Hid (wr.heap[B + 1 + 1]? = some (.cells #[.func (.func 107) #[] #[], .func (.func 108) #[] #[], .func (.func 109) #[] #[], .func (.func 110) #[] #[], .func (.func 111) #[] #[]] 124 (0, 0))) ∧ IB wr (B + 1 + 1 + 1) 31 (mixI (prd 3 e) (List.replicate 16 0) k)) (fun i _ => 16 - (intOf i).toNat)
 case atStart => exact ⟨0, by omega, rfl, E1, p0, p1, Lib.hid p2, by rw [mixI_zero]; exact p3⟩
 case round =>
  obtain ⟨k, hk, rfl, E4, r0, r1, X2, r3⟩ := hrel
  clear p0 p1 p2 p3 E1
  by_cases hlt : k < 16
  ·have hd : decide ((k : Int) < 16) = true := by simp; omega
   have HM := Lib.hid (fun (k : Nat) (hk : k ≤ 16) => mixI_len (prd 3 e) (List.replicate 16 0) k 16 HI.out lenZ)
   have Hset := Lib.hid (show (mixI (prd 3 e) (List.replicate 16 0) k).set k (prd1 3 e (k % 4) (k / 4)) = mixI (prd 3 e) (List.replicate 16 0) (k + 1) from Hm.out k hlt)
   have G0 : Ext w wr ∧ EB wr B e ∧ IB wr (B + 1) 31 (List.replicate 16 0) ∧ Hid (wr.heap[B + 1 + 1]? = some (.cells #[.func (.func 107) #[] #[], .func (.func 108) #[] #[], .func (.func 109) #[] #[], .func (.func 110) #[] #[], .func (.func 111) #[] #[]] 124 (0, 0))) ∧ IB wr (B + 1 + 1 + 1) 31 (mixI (prd 3 e) (List.replicate 16 0) k) := ⟨E4, r0, r1, X2, r3⟩
   clear E4 r0 r1 X2 r3
   go_wp2_with fail
   refine wp_region_invL (by kernel_rfl) [(12, 0), (13, 1), (14, 2), (15, 3), (16, 4), (17, 5), (18, 6), (19, 7), (20, 8), (21, 9), (22, 10)] [[], [], [1], [1, 2], [], [], [5], [], [7], [1, 2, 3, 4, 5, 6, 7, 8], [0, 1, 2, 3, 4, 5, 6, 7, 8, 9], [0, 1, 2, 3, 4, 5, 6, 7, 8, 9, 10]] (fun i own ys wx => match i with | 0 => own = .int .i64 (k : Nat) | 1 => own = .int .i64 3 | 2 => own = .pointer (some ⟨B + 1 + 1, 3, none⟩) | 3 => own = .func (.func 110) #[] #[] | 4 => own = .agg (edC e) | 5 => own = .int .i64 (k : Nat) | 6 => own = .int .i64 ((k : Int) % 4) | 7 => own = .int .i64 (k : Nat) | 8 => own = .int .i64 ((k : Int) / 4) | 9 => own = .int .i64 (prd1 3 e (k % 4) (k / 4)) | 10 => own = .pointer (some ⟨B + 1 + 1 + 1, k, none⟩) | 11 => True | _ => True) (fun Lx wx => Ext w wx ∧ EB wx B e ∧ IB wx (B + 1) 31 (List.replicate 16 0) ∧ Hid (wx.heap[B + 1 + 1]? = some (.cells #[.func (.func 107) #[] #[], .func (.func 108) #[] #[], .func (.func 109) #[] #[], .func (.func 110) #[] #[], .func (.func 111) #[] #[]] 124 (0, 0))) ∧ IB wx (B + 1 + 1 + 1) 31 (if Lx 11 = true then mixI (prd 3 e) (List.replicate 16 0) (k + 1) else mixI (prd 3 e) (List.replicate 16 0) k)) (by kernel_rfl) (by kernel_rfl) (by kernel_rfl) ?g0_r4 ?gop_r4 ?gend_r4
   case g0_r4 => exact ⟨Ext.trans_drewN G0.1 1, G0.2.1.ext (Ext.drewN _ 1), G0.2.2.1.drewN 1, Lib.hid (blk_drewN G0.2.2.2.1.out 1), G0.2.2.2.2.drewN 1⟩
   case gop_r4 =>
    refine ⟨?_, ?_, ?_, ?_, ?_, ?_, ?_, ?_, ?_, ?_, ?_, ?_, trivial⟩
    ·intro Lx xs wx hG hl ha hb hD hI Qo Kx hK hQo
     have l11 : Lx 11 = false := hb 11 rfl
     clear hl ha hb hD hI
     simp only [patchS, Nat.reduceAdd, Nat.reduceEqDiff, ↓reduceIte] at hQo ⊢
     go_wp2
     exact hK.out _ _ ⟨rfl, hG, fun _ _ _ _ _ _ h => h⟩
    ·intro Lx xs wx hG hl ha hb hD hI Qo Kx hK hQo
     have l11 : Lx 11 = false := hb 11 rfl
     clear hl ha hb hD hI
     simp only [patchS, Nat.reduceAdd, Nat.reduceEqDiff, ↓reduceIte] at hQo ⊢
     go_wp2
     exact hK.out _ _ ⟨rfl, hG, fun _ _ _ _ _ _ h => h⟩
    ·intro Lx xs wx hG hl ha hb hD hI Qo Kx hK hQo
     have l11 : Lx 11 = false := hb 11 rfl
     clear hl ha hb
     have d1 : (xs 1) = .int .i64 3 := hD 1 rfl
     clear hD hI
     simp only [patchS, Nat.reduceAdd, Nat.reduceEqDiff, ↓reduceIte] at hQo ⊢
     generalize xs 1 = y1 at *
     subst d1
     go_wp2
     exact hK.out _ _ ⟨rfl, hG, fun _ _ _ _ _ _ h => h⟩
    ·intro Lx xs wx hG hl ha hb hD hI Qo Kx hK hQo
     have l11 : Lx 11 = false := hb 11 rfl
     clear hl ha hb
     have d2 : (xs 2) = .pointer (some ⟨B + 1 + 1, 3, none⟩) := hD 2 rfl
     clear hD hI
     simp only [patchS, Nat.reduceAdd, Nat.reduceEqDiff, ↓reduceIte] at hQo ⊢
     generalize xs 2 = y2 at *
     subst d2
     obtain ⟨f0, f1, f2, f3, f4⟩ := bx5m hG.2.2.2.1.out
     go_wp2
     exact hK.out _ _ ⟨rfl, hG, fun _ _ _ _ _ _ h => h⟩
    ·intro Lx xs wx hG hl ha hb hD hI Qo Kx hK hQo
     have l11 : Lx 11 = false := hb 11 rfl
     clear hl ha hb hD hI
     simp only [patchS, Nat.reduceAdd, Nat.reduceEqDiff, ↓reduceIte] at hQo ⊢
     go_wp2_with (refine wpList_cload 97 _ rfl rfl hG.2.1 rfl _ Tryd.underlying97 rfl 11 size_Edges (edC_size OK.out.ln) ?_)
     exact hK.out _ _ ⟨rfl, hG, fun _ _ _ _ _ _ h => h⟩
    ·intro Lx xs wx hG hl ha hb hD hI Qo Kx hK hQo
     have l11 : Lx 11 = false := hb 11 rfl
     clear hl ha hb hD hI
     simp only [patchS, Nat.reduceAdd, Nat.reduceEqDiff, ↓reduceIte] at hQo ⊢
     go_wp2
     exact hK.out _ _ ⟨rfl, hG, fun _ _ _ _ _ _ h => h⟩
    ·intro Lx xs wx hG hl ha hb hD hI Qo Kx hK hQo
     have l11 : Lx 11 = false := hb 11 rfl
     clear hl ha hb
     have d5 : (xs 5) = .int .i64 (k : Nat) := hD 5 rfl
     clear hD hI
     simp only [patchS, Nat.reduceAdd, Nat.reduceEqDiff, ↓reduceIte] at hQo ⊢
     generalize xs 5 = y5 at *
     subst d5
     go_wp2
     exact hK.out _ _ ⟨rfl, hG, fun _ _ _ _ _ _ h => h⟩
    ·intro Lx xs wx hG hl ha hb hD hI Qo Kx hK hQo
     have l11 : Lx 11 = false := hb 11 rfl
     clear hl ha hb hD hI
     simp only [patchS, Nat.reduceAdd, Nat.reduceEqDiff, ↓reduceIte] at hQo ⊢
     go_wp2
     exact hK.out _ _ ⟨rfl, hG, fun _ _ _ _ _ _ h => h⟩
    ·intro Lx xs wx hG hl ha hb hD hI Qo Kx hK hQo
     have l11 : Lx 11 = false := hb 11 rfl
     clear hl ha hb
     have d7 : (xs 7) = .int .i64 (k : Nat) := hD 7 rfl
     clear hD hI
     simp only [patchS, Nat.reduceAdd, Nat.reduceEqDiff, ↓reduceIte] at hQo ⊢
     generalize xs 7 = y7 at *
     subst d7
     go_wp2
     exact hK.out _ _ ⟨rfl, hG, fun _ _ _ _ _ _ h => h⟩
    ·intro Lx xs wx hG hl ha hb hD hI Qo Kx hK hQo
     have l11 : Lx 11 = false := hb 11 rfl
     clear hl ha hb
     have d3 : (xs 3) = .func (.func 110) #[] #[] := hD 3 rfl
     have d4 : (xs 4) = .agg (edC e) := hD 4 rfl
     have d6 : (xs 6) = .int .i64 ((k : Int) % 4) := hD 6 rfl
     have d8 : (xs 8) = .int .i64 ((k : Int) / 4) := hD 8 rfl
     clear hD hI
     simp only [patchS, Nat.reduceAdd, Nat.reduceEqDiff, ↓reduceIte] at hQo ⊢
     generalize xs 3 = y3 at *
     generalize xs 4 = y4 at *
     generalize xs 6 = y6 at *
     generalize xs 8 = y8 at *
     subst d3 d4 d6 d8
     go_wp2_with fail
     refine (diagonal_any e (k % 4) (k / 4) _ OK.out (by omega) (by omega)).mono ?_
     rintro r w9 ⟨rfl, e9⟩
     go_wp2
     exact hK.out _ _ ⟨rfl, ⟨hG.1.trans e9, hG.2.1.ext e9, hG.2.2.1.ext e9, Lib.hid (e9.blk hG.2.2.2.1.out), hG.2.2.2.2.ext e9⟩, fun _ _ _ _ _ _ h => h⟩
    ·intro Lx xs wx hG hl ha hb hD hI Qo Kx hK hQo
     have l11 : Lx 11 = false := hb 11 rfl
     clear hl ha hb
     have d0 : (xs 0) = .int .i64 (k : Nat) := hD 0 rfl
     clear hD hI
     simp only [patchS, Nat.reduceAdd, Nat.reduceEqDiff, ↓reduceIte] at hQo ⊢
     generalize xs 0 = y0 at *
     subst d0
     go_wp2
     exact hK.out _ _ ⟨rfl, hG, fun _ _ _ _ _ _ h => h⟩
    ·intro Lx xs wx hG hl ha hb hD hI Qo Kx hK hQo
     have l11 : Lx 11 = false := hl
     clear hl ha hb
     have d9 : (xs 9) = .int .i64 (prd1 3 e (k % 4) (k / 4)) := hD 9 rfl
     have d10 : (xs 10) = .pointer (some ⟨B + 1 + 1 + 1, k, none⟩) := hD 10 rfl
     clear hD hI
     simp only [patchS, Nat.reduceAdd, Nat.reduceEqDiff, ↓reduceIte] at hQo ⊢
     generalize xs 9 = y9 at *
     generalize xs 10 = y10 at *
     subst d9 d10
     rw [l11, ifF] at hG
     have cx := hG.2.2.2.2.cell (i := k) (by rw [HM.out k hk]; exact hlt)
     have fx := hG.2.2.2.2.frozen k
     have s2 := hG.2.2.2.2.set k (prd1 3 e (k % 4) (k / 4))
     rw [Hset.out] at s2
     have gE := Ext.grown hG.1 (gr_set _ (B + 1 + 1 + 1) k (.int .i64 (prd1 3 e (k % 4) (k / 4)))) (fun q hq => by cases hq; omega)
     have g0' := hG.2.1.set_other (c := B + 1 + 1 + 1) (i := k) (v := .int .i64 (prd1 3 e (k % 4) (k / 4))) (by omega)
     have g1' := hG.2.2.1.set_other (c := B + 1 + 1 + 1) (i := k) (v := .int .i64 (prd1 3 e (k % 4) (k / 4))) (by omega)
     have g2' := blk_set_other (c := B + 1 + 1 + 1) (i := k) (v := .int .i64 (prd1 3 e (k % 4) (k / 4))) hG.2.2.2.1.out (by omega)
     go_wp2
     exact hQo undef _ (hK.out _ _ ⟨trivial, ⟨gE, g0', g1', Lib.hid g2', s2⟩, fun _ _ _ _ _ _ h => h⟩)
   intro xs wx hV hG0
   obtain ⟨Lx, hL, hG⟩ := hG0
   have l11 : Lx 11 = true := hL 11 (by decide)
   clear hL
   have d0 : (xs 0) = .int .i64 (k : Nat) := hV 0 (by decide)
   have d1 : (xs 1) = .int .i64 3 := hV 1 (by decide)
   have d2 : (xs 2) = .pointer (some ⟨B + 1 + 1, 3, none⟩) := hV 2 (by decide)
   have d3 : (xs 3) = .func (.func 110) #[] #[] := hV 3 (by decide)
   have d4 : (xs 4) = .agg (edC e) := hV 4 (by decide)
   have d5 : (xs 5) = .int .i64 (k : Nat) := hV 5 (by decide)
   have d6 : (xs 6) = .int .i64 ((k : Int) % 4) := hV 6 (by decide)
   have d7 : (xs 7) = .int .i64 (k : Nat) := hV 7 (by decide)
   have d8 : (xs 8) = .int .i64 ((k : Int) / 4) := hV 8 (by decide)
   have d9 : (xs 9) = .int .i64 (prd1 3 e (k % 4) (k / 4)) := hV 9 (by decide)
   have d10 : (xs 10) = .pointer (some ⟨B + 1 + 1 + 1, k, none⟩) := hV 10 (by decide)
   clear hV
   simp only [patchS, Nat.reduceAdd, Nat.reduceEqDiff, ↓reduceIte]
   generalize xs 0 = y0 at *
   generalize xs 1 = y1 at *
   generalize xs 2 = y2 at *
   generalize xs 3 = y3 at *
   generalize xs 4 = y4 at *
   generalize xs 5 = y5 at *
   generalize xs 6 = y6 at *
   generalize xs 7 = y7 at *
   generalize xs 8 = y8 at *
   generalize xs 9 = y9 at *
   generalize xs 10 = y10 at *
   generalize xs 11 = y11 at *
   replace hG : Ext w wx ∧ EB wx B e ∧ IB wx (B + 1) 31 (List.replicate 16 0) ∧ Hid (wx.heap[B + 1 + 1]? = some (.cells #[.func (.func 107) #[] #[], .func (.func 108) #[] #[], .func (.func 109) #[] #[], .func (.func 110) #[] #[], .func (.func 111) #[] #[]] 124 (0, 0))) ∧ IB wx (B + 1 + 1 + 1) 31 (if Lx 11 = true then mixI (prd 3 e) (List.replicate 16 0) (k + 1) else mixI (prd 3 e) (List.replicate 16 0) k) := hG
   clear d0 d1 d2 d3 d4 d5 d6 d7 d8 d9 d10
   rw [l11, ifT] at hG
   clear G0
   obtain ⟨E5, s0, s1, X5, s3⟩ := hG
   go_wp2
   go_roundw
   case rel => exact ⟨k + 1, by omega, by go_num, E5, s0, s1, X5, s3⟩
   case measure => simp [intOf]; omega
  ·obtain rfl : k = 16 := by omega
   rw [mixI_all _ _ 16 HI.out lenZ] at r3
   go_wp2_with (first | (refine wpList_iload 31 _ rfl rfl r3 0 16 rfl _ Tryd.underlying31 rfl size_A16 (by rw [HI.out]; omega) _ (by rw [sub_all _ _ (HI.out)]) ?_) | (refine wpList_istore 31 _ _ rfl rfl r1 0 16 rfl _ rfl _ rfl size_A16 (HI.out) (by simp) ?_; intro w6 p6 g6; refine Hid.out ?_))
   rw [spl_all (by rw [HI.out]; simp)] at p6
   have E6 : Ext w w6 := Ext.grown E4 g6 (fun q hq => by cases hq; omega)
   refine Lib.hid ?_
   go_wp2
   exact bodyPost_ret (v := .agg (ic (prd 3 e))) (results_cell_row rfl _ _ (B + 1) 31 (ic (prd 3 e)) (0, 0) _ rfl p6 Tryd.underlying31 rfl (by rw [ic_size, prd_len]; exact size_A16)) rfl ⟨rfl, E6⟩
set_option maxRecDepth 100000 in
theorem predict_4 (e : Ed) (w : World) (ok : e.ok) :
 Calls Tryd.prog 73 #[.agg (edC e), .int .i64 4] w fun r w' => r = .returned (.agg (ic (prd 4 e))) ∧ Ext w w' := by
 have OK := Lib.hid ok
 have HI := Lib.hid (prd_len 4 e)
 have Hm := Lib.hid (fun (k : Nat) (hk : k < 16) => prd_mix 4 e hk)
 have a2 := Ext.alloc (w.alloc (.cells (edC e) 97)) (.cells (ic (List.replicate 16 0)) 31)
 have a3 := Ext.alloc ((w.alloc (.cells (edC e) 97)).alloc (.cells (ic (List.replicate 16 0)) 31)) (.cells #[.func (.func 107) #[] #[], .func (.func 108) #[] #[], .func (.func 109) #[] #[], .func (.func 110) #[] #[], .func (.func 111) #[] #[]] 124)
 have a4 := Ext.alloc (((w.alloc (.cells (edC e) 97)).alloc (.cells (ic (List.replicate 16 0)) 31)).alloc (.cells #[.func (.func 107) #[] #[], .func (.func 108) #[] #[], .func (.func 109) #[] #[], .func (.func 110) #[] #[], .func (.func 111) #[] #[]] 124)) (.cells (ic (List.replicate 16 0)) 31)
 have p0 := (((EB.new w e).ext a2).ext a3).ext a4
 have p1 := ((IB.new (w.alloc (.cells (edC e) 97)) 31 (List.replicate 16 0)).ext a3).ext a4
 have p2 := a4.blk (blk_new ((w.alloc (.cells (edC e) 97)).alloc (.cells (ic (List.replicate 16 0)) 31)) (.cells #[.func (.func 107) #[] #[], .func (.func 108) #[] #[], .func (.func 109) #[] #[], .func (.func 110) #[] #[], .func (.func 111) #[] #[]] 124))
 have p3 := IB.new (((w.alloc (.cells (edC e) 97)).alloc (.cells (ic (List.replicate 16 0)) 31)).alloc (.cells #[.func (.func 107) #[] #[], .func (.func 108) #[] #[], .func (.func 109) #[] #[], .func (.func 110) #[] #[], .func (.func 111) #[] #[]] 124)) 31 (List.replicate 16 0)
 have E1 := (((Ext.alloc w (.cells (edC e) 97)).trans a2).trans a3).trans a4
 simp only [World.size_alloc] at p1 p2 p3
 clear a2 a3 a4 ok
 go_enter Tryd.func73, Tryd.ntmps73
 go_wp2_with fail
 try simp only [World.size_alloc]
 obtain ⟨B, hB⟩ : ∃ B, B = w.heap.size := ⟨_, rfl⟩
 rw [← hB] at p0 p1 p2 p3 ⊢
 have hwB : w.heap.size ≤ B := by omega
 have HB := Lib.hid hB
 clear hB
 go_loopw [9] (fun i wr => ∃ k : Nat, k ≤ 16 ∧ i = .int .i64 k ∧ Ext w wr ∧ EB wr B e ∧ IB wr (B + 1) 31 (List.replicate 16 0) ∧ Hid (wr.heap[B + 1 + 1]? = some (.cells #[.func (.func 107) #[] #[], .func (.func 108) #[] #[], .func (.func 109) #[] #[], .func (.func 110) #[] #[], .func (.func 111) #[] #[]] 124 (0, 0))) ∧ IB wr (B + 1 + 1 + 1) 31 (mixI (prd 4 e) (List.replicate 16 0) k)) (fun i _ => 16 - (intOf i).toNat)
 case atStart => exact ⟨0, by omega, rfl, E1, p0, p1, Lib.hid p2, by rw [mixI_zero]; exact p3⟩
 case round =>
  obtain ⟨k, hk, rfl, E4, r0, r1, X2, r3⟩ := hrel
  clear p0 p1 p2 p3 E1
  by_cases hlt : k < 16
  ·have hd : decide ((k : Int) < 16) = true := by simp; omega
   have HM := Lib.hid (fun (k : Nat) (hk : k ≤ 16) => mixI_len (prd 4 e) (List.replicate 16 0) k 16 HI.out lenZ)
   have Hset := Lib.hid (show (mixI (prd 4 e) (List.replicate 16 0) k).set k (prd1 4 e (k % 4) (k / 4)) = mixI (prd 4 e) (List.replicate 16 0) (k + 1) from Hm.out k hlt)
   have G0 : Ext w wr ∧ EB wr B e ∧ IB wr (B + 1) 31 (List.replicate 16 0) ∧ Hid (wr.heap[B + 1 + 1]? = some (.cells #[.func (.func 107) #[] #[], .func (.func 108) #[] #[], .func (.func 109) #[] #[], .func (.func 110) #[] #[], .func (.func 111) #[] #[]] 124 (0, 0))) ∧ IB wr (B + 1 + 1 + 1) 31 (mixI (prd 4 e) (List.replicate 16 0) k) := ⟨E4, r0, r1, X2, r3⟩
   clear E4 r0 r1 X2 r3
   go_wp2_with fail
   refine wp_region_invL (by kernel_rfl) [(12, 0), (13, 1), (14, 2), (15, 3), (16, 4), (17, 5), (18, 6), (19, 7), (20, 8), (21, 9), (22, 10)] [[], [], [1], [1, 2], [], [], [5], [], [7], [1, 2, 3, 4, 5, 6, 7, 8], [0, 1, 2, 3, 4, 5, 6, 7, 8, 9], [0, 1, 2, 3, 4, 5, 6, 7, 8, 9, 10]] (fun i own ys wx => match i with | 0 => own = .int .i64 (k : Nat) | 1 => own = .int .i64 4 | 2 => own = .pointer (some ⟨B + 1 + 1, 4, none⟩) | 3 => own = .func (.func 111) #[] #[] | 4 => own = .agg (edC e) | 5 => own = .int .i64 (k : Nat) | 6 => own = .int .i64 ((k : Int) % 4) | 7 => own = .int .i64 (k : Nat) | 8 => own = .int .i64 ((k : Int) / 4) | 9 => own = .int .i64 (prd1 4 e (k % 4) (k / 4)) | 10 => own = .pointer (some ⟨B + 1 + 1 + 1, k, none⟩) | 11 => True | _ => True) (fun Lx wx => Ext w wx ∧ EB wx B e ∧ IB wx (B + 1) 31 (List.replicate 16 0) ∧ Hid (wx.heap[B + 1 + 1]? = some (.cells #[.func (.func 107) #[] #[], .func (.func 108) #[] #[], .func (.func 109) #[] #[], .func (.func 110) #[] #[], .func (.func 111) #[] #[]] 124 (0, 0))) ∧ IB wx (B + 1 + 1 + 1) 31 (if Lx 11 = true then mixI (prd 4 e) (List.replicate 16 0) (k + 1) else mixI (prd 4 e) (List.replicate 16 0) k)) (by kernel_rfl) (by kernel_rfl) (by kernel_rfl) ?g0_r5 ?gop_r5 ?gend_r5
   case g0_r5 => exact ⟨Ext.trans_drewN G0.1 1, G0.2.1.ext (Ext.drewN _ 1), G0.2.2.1.drewN 1, Lib.hid (blk_drewN G0.2.2.2.1.out 1), G0.2.2.2.2.drewN 1⟩
   case gop_r5 =>
    refine ⟨?_, ?_, ?_, ?_, ?_, ?_, ?_, ?_, ?_, ?_, ?_, ?_, trivial⟩
    ·intro Lx xs wx hG hl ha hb hD hI Qo Kx hK hQo
     have l11 : Lx 11 = false := hb 11 rfl
     clear hl ha hb hD hI
     simp only [patchS, Nat.reduceAdd, Nat.reduceEqDiff, ↓reduceIte] at hQo ⊢
     go_wp2
     exact hK.out _ _ ⟨rfl, hG, fun _ _ _ _ _ _ h => h⟩
    ·intro Lx xs wx hG hl ha hb hD hI Qo Kx hK hQo
     have l11 : Lx 11 = false := hb 11 rfl
     clear hl ha hb hD hI
     simp only [patchS, Nat.reduceAdd, Nat.reduceEqDiff, ↓reduceIte] at hQo ⊢
     go_wp2
     exact hK.out _ _ ⟨rfl, hG, fun _ _ _ _ _ _ h => h⟩
    ·intro Lx xs wx hG hl ha hb hD hI Qo Kx hK hQo
     have l11 : Lx 11 = false := hb 11 rfl
     clear hl ha hb
     have d1 : (xs 1) = .int .i64 4 := hD 1 rfl
     clear hD hI
     simp only [patchS, Nat.reduceAdd, Nat.reduceEqDiff, ↓reduceIte] at hQo ⊢
     generalize xs 1 = y1 at *
     subst d1
     go_wp2
     exact hK.out _ _ ⟨rfl, hG, fun _ _ _ _ _ _ h => h⟩
    ·intro Lx xs wx hG hl ha hb hD hI Qo Kx hK hQo
     have l11 : Lx 11 = false := hb 11 rfl
     clear hl ha hb
     have d2 : (xs 2) = .pointer (some ⟨B + 1 + 1, 4, none⟩) := hD 2 rfl
     clear hD hI
     simp only [patchS, Nat.reduceAdd, Nat.reduceEqDiff, ↓reduceIte] at hQo ⊢
     generalize xs 2 = y2 at *
     subst d2
     obtain ⟨f0, f1, f2, f3, f4⟩ := bx5m hG.2.2.2.1.out
     go_wp2
     exact hK.out _ _ ⟨rfl, hG, fun _ _ _ _ _ _ h => h⟩
    ·intro Lx xs wx hG hl ha hb hD hI Qo Kx hK hQo
     have l11 : Lx 11 = false := hb 11 rfl
     clear hl ha hb hD hI
     simp only [patchS, Nat.reduceAdd, Nat.reduceEqDiff, ↓reduceIte] at hQo ⊢
     go_wp2_with (refine wpList_cload 97 _ rfl rfl hG.2.1 rfl _ Tryd.underlying97 rfl 11 size_Edges (edC_size OK.out.ln) ?_)
     exact hK.out _ _ ⟨rfl, hG, fun _ _ _ _ _ _ h => h⟩
    ·intro Lx xs wx hG hl ha hb hD hI Qo Kx hK hQo
     have l11 : Lx 11 = false := hb 11 rfl
     clear hl ha hb hD hI
     simp only [patchS, Nat.reduceAdd, Nat.reduceEqDiff, ↓reduceIte] at hQo ⊢
     go_wp2
     exact hK.out _ _ ⟨rfl, hG, fun _ _ _ _ _ _ h => h⟩
    ·intro Lx xs wx hG hl ha hb hD hI Qo Kx hK hQo
     have l11 : Lx 11 = false := hb 11 rfl
     clear hl ha hb
     have d5 : (xs 5) = .int .i64 (k : Nat) := hD 5 rfl
     clear hD hI
     simp only [patchS, Nat.reduceAdd, Nat.reduceEqDiff, ↓reduceIte] at hQo ⊢
     generalize xs 5 = y5 at *
     subst d5
     go_wp2
     exact hK.out _ _ ⟨rfl, hG, fun _ _ _ _ _ _ h => h⟩
    ·intro Lx xs wx hG hl ha hb hD hI Qo Kx hK hQo
     have l11 : Lx 11 = false := hb 11 rfl
     clear hl ha hb hD hI
     simp only [patchS, Nat.reduceAdd, Nat.reduceEqDiff, ↓reduceIte] at hQo ⊢
     go_wp2
     exact hK.out _ _ ⟨rfl, hG, fun _ _ _ _ _ _ h => h⟩
    ·intro Lx xs wx hG hl ha hb hD hI Qo Kx hK hQo
     have l11 : Lx 11 = false := hb 11 rfl
     clear hl ha hb
     have d7 : (xs 7) = .int .i64 (k : Nat) := hD 7 rfl
     clear hD hI
     simp only [patchS, Nat.reduceAdd, Nat.reduceEqDiff, ↓reduceIte] at hQo ⊢
     generalize xs 7 = y7 at *
     subst d7
     go_wp2
     exact hK.out _ _ ⟨rfl, hG, fun _ _ _ _ _ _ h => h⟩
    ·intro Lx xs wx hG hl ha hb hD hI Qo Kx hK hQo
     have l11 : Lx 11 = false := hb 11 rfl
     clear hl ha hb
     have d3 : (xs 3) = .func (.func 111) #[] #[] := hD 3 rfl
     have d4 : (xs 4) = .agg (edC e) := hD 4 rfl
     have d6 : (xs 6) = .int .i64 ((k : Int) % 4) := hD 6 rfl
     have d8 : (xs 8) = .int .i64 ((k : Int) / 4) := hD 8 rfl
     clear hD hI
     simp only [patchS, Nat.reduceAdd, Nat.reduceEqDiff, ↓reduceIte] at hQo ⊢
     generalize xs 3 = y3 at *
     generalize xs 4 = y4 at *
     generalize xs 6 = y6 at *
     generalize xs 8 = y8 at *
     subst d3 d4 d6 d8
     go_wp2_with fail
     refine (plane_any e (k % 4) (k / 4) _ OK.out (by omega) (by omega)).mono ?_
     rintro r w9 ⟨rfl, e9⟩
     go_wp2
     exact hK.out _ _ ⟨rfl, ⟨hG.1.trans e9, hG.2.1.ext e9, hG.2.2.1.ext e9, Lib.hid (e9.blk hG.2.2.2.1.out), hG.2.2.2.2.ext e9⟩, fun _ _ _ _ _ _ h => h⟩
    ·intro Lx xs wx hG hl ha hb hD hI Qo Kx hK hQo
     have l11 : Lx 11 = false := hb 11 rfl
     clear hl ha hb
     have d0 : (xs 0) = .int .i64 (k : Nat) := hD 0 rfl
     clear hD hI
     simp only [patchS, Nat.reduceAdd, Nat.reduceEqDiff, ↓reduceIte] at hQo ⊢
     generalize xs 0 = y0 at *
     subst d0
     go_wp2
     exact hK.out _ _ ⟨rfl, hG, fun _ _ _ _ _ _ h => h⟩
    ·intro Lx xs wx hG hl ha hb hD hI Qo Kx hK hQo
     have l11 : Lx 11 = false := hl
     clear hl ha hb
     have d9 : (xs 9) = .int .i64 (prd1 4 e (k % 4) (k / 4)) := hD 9 rfl
     have d10 : (xs 10) = .pointer (some ⟨B + 1 + 1 + 1, k, none⟩) := hD 10 rfl
     clear hD hI
     simp only [patchS, Nat.reduceAdd, Nat.reduceEqDiff, ↓reduceIte] at hQo ⊢
     generalize xs 9 = y9 at *
     generalize xs 10 = y10 at *
     subst d9 d10
     rw [l11, ifF] at hG
     have cx := hG.2.2.2.2.cell (i := k) (by rw [HM.out k hk]; exact hlt)
     have fx := hG.2.2.2.2.frozen k
     have s2 := hG.2.2.2.2.set k (prd1 4 e (k % 4) (k / 4))
     rw [Hset.out] at s2
     have gE := Ext.grown hG.1 (gr_set _ (B + 1 + 1 + 1) k (.int .i64 (prd1 4 e (k % 4) (k / 4)))) (fun q hq => by cases hq; omega)
     have g0' := hG.2.1.set_other (c := B + 1 + 1 + 1) (i := k) (v := .int .i64 (prd1 4 e (k % 4) (k / 4))) (by omega)
     have g1' := hG.2.2.1.set_other (c := B + 1 + 1 + 1) (i := k) (v := .int .i64 (prd1 4 e (k % 4) (k / 4))) (by omega)
     have g2' := blk_set_other (c := B + 1 + 1 + 1) (i := k) (v := .int .i64 (prd1 4 e (k % 4) (k / 4))) hG.2.2.2.1.out (by omega)
     go_wp2
     exact hQo undef _ (hK.out _ _ ⟨trivial, ⟨gE, g0', g1', Lib.hid g2', s2⟩, fun _ _ _ _ _ _ h => h⟩)
   intro xs wx hV hG0
   obtain ⟨Lx, hL, hG⟩ := hG0
   have l11 : Lx 11 = true := hL 11 (by decide)
   clear hL
   have d0 : (xs 0) = .int .i64 (k : Nat) := hV 0 (by decide)
   have d1 : (xs 1) = .int .i64 4 := hV 1 (by decide)
   have d2 : (xs 2) = .pointer (some ⟨B + 1 + 1, 4, none⟩) := hV 2 (by decide)
   have d3 : (xs 3) = .func (.func 111) #[] #[] := hV 3 (by decide)
   have d4 : (xs 4) = .agg (edC e) := hV 4 (by decide)
   have d5 : (xs 5) = .int .i64 (k : Nat) := hV 5 (by decide)
   have d6 : (xs 6) = .int .i64 ((k : Int) % 4) := hV 6 (by decide)
   have d7 : (xs 7) = .int .i64 (k : Nat) := hV 7 (by decide)
   have d8 : (xs 8) = .int .i64 ((k : Int) / 4) := hV 8 (by decide)
   have d9 : (xs 9) = .int .i64 (prd1 4 e (k % 4) (k / 4)) := hV 9 (by decide)
   have d10 : (xs 10) = .pointer (some ⟨B + 1 + 1 + 1, k, none⟩) := hV 10 (by decide)
   clear hV
   simp only [patchS, Nat.reduceAdd, Nat.reduceEqDiff, ↓reduceIte]
   generalize xs 0 = y0 at *
   generalize xs 1 = y1 at *
   generalize xs 2 = y2 at *
   generalize xs 3 = y3 at *
   generalize xs 4 = y4 at *
   generalize xs 5 = y5 at *
   generalize xs 6 = y6 at *
   generalize xs 7 = y7 at *
   generalize xs 8 = y8 at *
   generalize xs 9 = y9 at *
   generalize xs 10 = y10 at *
   generalize xs 11 = y11 at *
   replace hG : Ext w wx ∧ EB wx B e ∧ IB wx (B + 1) 31 (List.replicate 16 0) ∧ Hid (wx.heap[B + 1 + 1]? = some (.cells #[.func (.func 107) #[] #[], .func (.func 108) #[] #[], .func (.func 109) #[] #[], .func (.func 110) #[] #[], .func (.func 111) #[] #[]] 124 (0, 0))) ∧ IB wx (B + 1 + 1 + 1) 31 (if Lx 11 = true then mixI (prd 4 e) (List.replicate 16 0) (k + 1) else mixI (prd 4 e) (List.replicate 16 0) k) := hG
   clear d0 d1 d2 d3 d4 d5 d6 d7 d8 d9 d10
   rw [l11, ifT] at hG
   clear G0
   obtain ⟨E5, s0, s1, X5, s3⟩ := hG
   go_wp2
   go_roundw
   case rel => exact ⟨k + 1, by omega, by go_num, E5, s0, s1, X5, s3⟩
   case measure => simp [intOf]; omega
  ·obtain rfl : k = 16 := by omega
   rw [mixI_all _ _ 16 HI.out lenZ] at r3
   go_wp2_with (first | (refine wpList_iload 31 _ rfl rfl r3 0 16 rfl _ Tryd.underlying31 rfl size_A16 (by rw [HI.out]; omega) _ (by rw [sub_all _ _ (HI.out)]) ?_) | (refine wpList_istore 31 _ _ rfl rfl r1 0 16 rfl _ rfl _ rfl size_A16 (HI.out) (by simp) ?_; intro w6 p6 g6; refine Hid.out ?_))
   rw [spl_all (by rw [HI.out]; simp)] at p6
   have E6 : Ext w w6 := Ext.grown E4 g6 (fun q hq => by cases hq; omega)
   refine Lib.hid ?_
   go_wp2
   exact bodyPost_ret (v := .agg (ic (prd 4 e))) (results_cell_row rfl _ _ (B + 1) 31 (ic (prd 4 e)) (0, 0) _ rfl p6 Tryd.underlying31 rfl (by rw [ic_size, prd_len]; exact size_A16)) rfl ⟨rfl, E6⟩
theorem predict_any (e : Ed) (m : Nat) (w : World) (ok : e.ok) (hm : m ≤ 4) :
 Calls Tryd.prog 73 #[.agg (edC e), .int .i64 (m : Nat)] w fun r w' => r = .returned (.agg (ic (prd m e))) ∧ Ext w w' := by
 match m, hm with
 | 0, _ => exact predict_0 e w ok
 | 1, _ => exact predict_1 e w ok
 | 2, _ => exact predict_2 e w ok
 | 3, _ => exact predict_3 e w ok
 | 4, _ => exact predict_4 e w ok
end Go.Proofs.YtbnhaegidfbgbaaDoor
