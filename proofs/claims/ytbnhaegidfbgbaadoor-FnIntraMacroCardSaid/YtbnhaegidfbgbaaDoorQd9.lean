/- The inverse transform, coding and decoding of a block of residuals: both sides. | Decoding of a block, the reference's coding, differences of blocks. | Blocks out of pictures and of macroblocks; blocks put into pictures: both sides. -/
import Derived.Test.YtbnhaegidfbgbaaDoorQd8
namespace Go.Proofs.YtbnhaegidfbgbaaDoor
open Go.RowKit
set_option maxHeartbeats 1000000
theorem nth_mixR {xs ys : List Int} {n k j : Nat} (h1 : xs.length = n) (h2 : ys.length = n) (hj : k ≤ j) (hk : j < n) : nth (mixI xs ys k) j = nth ys j := by
 unfold nth mixI
 have hl : (xs.take k).length = k := by simp; omega
 rw [List.getD_eq_getElem?_getD, List.getElem?_append_right (by omega), List.getElem?_drop, hl, show k + (j - k) = j by omega, ← List.getD_eq_getElem?_getD]
theorem nth_ihad (b : List Int) {k : Nat} (h : k < 16) : nth (ihad b) k = (nth (had b) k + 8) / 16 := by
 have h1 : k < (had b).length := by rw [had_len]; exact h
 rw [nth_eq _ _ h1, nth_eq _ _ (by rw [ihad_len]; exact h)]
 simp [ihad]
theorem had_bdA {b : List Int} (h : bdA 1048576 b) : bdA 16777216 (had b) := bdA_of (by omega) fun j hj => by
 rw [had_len] at hj
 have := had_rng (b := b) (B := 1048576) (fun t _ => h t) hj
 omega
theorem inB_bdA {b : List Int} {B M : Int} (hB : 0 ≤ M) (h : inB B b = true) (hm : B ≤ M) : bdA M b := bdA_of hB fun j hj => by
 have := inB_iff.1 h j hj
 omega
theorem nth_map_dq (zs : List Int) (q : Nat) {k : Nat} (h : k < zs.length) : nth (zs.map (fun x => dq x q)) k = dq (nth zs k) q := by simp [nth, h]
theorem dqs_rng (zs : List Int) (q : Nat) : inB 4080 (zs.map (fun x => dq x q)) = true := inB_yes fun j hj => by
 rw [nth_map_dq _ _ (by simpa using hj)]
 exact dq_rng _ _
theorem ne_blk {a b : Nat} (h : a < b) : (some b : Option Nat) ≠ some a := by simp; omega
theorem l3Round_any (n : Int) (w : World) (h1 : -1099511627776 ≤ n) (h2 : n ≤ 1099511627776) :
 Calls Tryd.prog 144 #[.int .i64 n, .int .i64 16] w fun e w' => e = .returned (.int .i64 ((n + 8) / 16)) ∧ w = w' := by
 by_cases h0 : 0 ≤ n + 8
 ·have hd0 : decide ((n + 8) % 16 < 0) = false := by
   have := Int.emod_nonneg (n + 8) (show (16 : Int) ≠ 0 by omega)
   simp; omega
  go_enter Tryd.func144, Tryd.ntmps144
  go_wp2
  go_ret
  exact ⟨rfl, rfl⟩
 ·obtain ⟨t1, t2, t3, t4⟩ := tdiv_floor (by omega : n + 8 < 0) (show (1 : Int) ≤ 16 by omega)
  have T3 := Lib.hid t3
  have T4 := Lib.hid t4
  clear t3 t4
  by_cases hm : (n + 8).tmod 16 < 0
  ·have hd0 : decide ((n + 8).tmod 16 < 0) = true := by simpa using hm
   go_enter Tryd.func144, Tryd.ntmps144
   go_wp2
   go_ret
   exact ⟨ret_int (T3.out hm), rfl⟩
  ·have hd0 : decide ((n + 8).tmod 16 < 0) = false := by simpa using hm
   go_enter Tryd.func144, Tryd.ntmps144
   go_wp2
   go_ret
   exact ⟨ret_int (T4.out hm), rfl⟩
set_option maxRecDepth 100000 in
theorem l3Inverse_any (zs : List Int) (w : World) (hl : zs.length = 16) (hb : bdA 1048576 zs) :
 Calls Tryd.prog 135 #[.agg (ic zs)] w fun e w' => e = .returned (.agg (ic (ihad zs))) ∧ Ext w w' := by
 have Hl := Lib.hid hl
 have HB := Lib.hid hb
 have HH := Lib.hid (had_len zs)
 have HI := Lib.hid (ihad_len zs)
 have Hbd := Lib.hid (had_bdA hb)
 clear hl hb
 have a2 := Ext.alloc (w.alloc (.cells (ic zs) 31)) (.cells (ic (List.replicate 16 0)) 31)
 have p0 := (IB.new w 31 zs).ext a2
 have p1 := IB.new (w.alloc (.cells (ic zs) 31)) 31 (List.replicate 16 0)
 have E1 := (Ext.alloc w (.cells (ic zs) 31)).trans a2
 simp only [World.size_alloc] at p1
 clear a2
 go_enter Tryd.func135, Tryd.ntmps135
 go_wp2_with (refine wpList_iload 31 _ rfl rfl p0 0 16 rfl _ Tryd.underlying31 rfl size_A16 (by rw [Hl.out]; omega) _ (by rw [sub_all _ _ (Hl.out)]) ?_)
 obtain ⟨B, hB⟩ : ∃ B, B = w.heap.size := ⟨_, rfl⟩
 rw [← hB] at p0 p1 ⊢
 have hwB : w.heap.size ≤ B := by omega
 have HB0 := Lib.hid hB
 clear hB
 refine (l3Apply_any zs _ Hl.out HB.out).mono ?_
 rintro e w1 ⟨rfl, e1⟩
 have q0 := p0.ext e1
 have q1 := p1.ext e1
 have E2 := E1.trans e1
 have q2 := IB.new w1 31 (List.replicate 16 0)
 have l1 := q1.lt
 have q1a := q1.alloc (.cells (ic (List.replicate 16 0)) 31)
 have q0a := q0.alloc (.cells (ic (List.replicate 16 0)) 31)
 have E2a := E2.trans (Ext.alloc w1 (.cells (ic (List.replicate 16 0)) 31))
 have hs2 := E2.size
 clear p0 p1 E1 e1 q0 q1 E2
 go_wp2_with (refine wpList_istore 31 _ _ rfl rfl q2 0 16 rfl _ rfl _ rfl size_A16 (HH.out) (by simp) ?_; intro w2 i2 g2; refine Hid.out ?_)
 rw [spl_all (by rw [HH.out]; simp)] at i2
 have E3 : Ext w w2 := Ext.grown E2a g2 (fun k e => by cases e; omega)
 have q0 := q0a.gr g2 (ne_blk (by omega))
 have q1 := q1a.gr g2 (ne_blk (by omega))
 obtain ⟨O, hO⟩ : ∃ O, O = w1.heap.size := ⟨_, rfl⟩
 rw [← hO] at i2 l1 ⊢
 have hwO : w.heap.size ≤ O := by omega
 have HO := Lib.hid hO
 clear hO hs2 q0a q1a E2a q2 g2
 refine Lib.hid ?_
 go_wp2_with fail
 go_loopw [4] (fun i wr => ∃ k : Nat, k ≤ 16 ∧ i = .int .i64 k ∧ Ext w wr ∧ IB wr (B + 1) 31 (List.replicate 16 0) ∧ IB wr O 31 (mixI (ihad zs) (had zs) k)) (fun i _ => 16 - (intOf i).toNat)
 case atStart => exact ⟨0, by omega, rfl, E3, q1, by rw [mixI_zero]; exact i2⟩
 case round =>
  obtain ⟨k, hk, rfl, E4, r1, r2⟩ := hrel
  clear q0 q1 i2 E3
  by_cases hlt : k < 16
  ·have hd : decide ((k : Int) < 16) = true := by simp; omega
   have c0 := r2.cell (i := k) (by rw [mixI_len _ _ _ 16 HI.out HH.out]; exact hlt)
   rw [nth_mixR HI.out HH.out (Nat.le_refl _) hlt] at c0
   have f0 := r2.frozen k
   have hbk := Hbd.out k
   have hset := mixI_set (ihad zs) (had zs) k 16 HI.out HH.out hlt
   rw [nth_ihad _ hlt] at hset
   have Hset := Lib.hid hset
   clear hset
   generalize nth (had zs) k = z at *
   go_wp2_with fail
   refine (l3Round_any z _ (by omega) (by omega)).mono ?_
   rintro e w3 ⟨rfl, rfl⟩
   go_wp2
   go_roundw
   case rel => exact ⟨k + 1, by omega, by go_num, Ext.grown E4 (gr_set _ _ _ _) (fun q hq => by cases hq; omega), r1.set_other (by omega), by rw [← Hset.out]; exact r2.set k _⟩
   case measure => simp [intOf]; omega
  ·obtain rfl : k = 16 := by omega
   rw [mixI_all _ _ 16 HI.out HH.out] at r2
   go_wp2_with (first | (refine wpList_iload 31 _ rfl rfl r2 0 16 rfl _ Tryd.underlying31 rfl size_A16 (by rw [HI.out]; omega) _ (by rw [sub_all _ _ (HI.out)]) ?_) | (refine wpList_istore 31 _ _ rfl rfl r1 0 16 rfl _ rfl _ rfl size_A16 (HI.out) (by simp) ?_; intro w6 p6 g6; refine Hid.out ?_))
   rw [spl_all (by rw [HI.out]; simp)] at p6
   have E6 : Ext w w6 := Ext.grown E4 g6 (fun q hq => by cases hq; omega)
   refine Lib.hid ?_
   go_wp2
   exact bodyPost_ret (v := .agg (ic (ihad zs))) (results_cell_row rfl _ _ (B + 1) 31 (ic (ihad zs)) (0, 0) _ rfl p6 Tryd.underlying31 rfl (by rw [ic_size, ihad_len]; exact size_A16)) rfl ⟨rfl, E6⟩
set_option maxRecDepth 100000 in
theorem InverseTransform_any (zs : List Int) (w : World) (hl : zs.length = 16) (hb : inB 4080 zs = true) :
 Calls Tryd.prog 114 #[.agg (ic zs)] w fun e w' => e = .returned (.agg (ic (ihad zs))) ∧ Ext w w' := by
 have hbA := inB_bdA (M := 1048576) (by omega) hb (by omega)
 have Hl := Lib.hid hl
 have HB := Lib.hid hbA
 have HW := Lib.hid hb
 have HH := Lib.hid (had_len zs)
 have HI := Lib.hid (ihad_len zs)
 have Hbd := Lib.hid (had_bdA hbA)
 clear hl hb hbA
 have a2 := Ext.alloc (w.alloc (.cells (ic zs) 31)) (.cells (ic (List.replicate 16 0)) 31)
 have p0 := (IB.new w 31 zs).ext a2
 have p1 := IB.new (w.alloc (.cells (ic zs) 31)) 31 (List.replicate 16 0)
 have E1 := (Ext.alloc w (.cells (ic zs) 31)).trans a2
 simp only [World.size_alloc] at p1
 clear a2
 go_enter Tryd.func114, Tryd.ntmps114
 go_wp2_with (refine wpList_iload 31 _ rfl rfl p0 0 16 rfl _ Tryd.underlying31 rfl size_A16 (by rw [Hl.out]; omega) _ (by rw [sub_all _ _ (Hl.out)]) ?_)
 obtain ⟨B, hB⟩ : ∃ B, B = w.heap.size := ⟨_, rfl⟩
 rw [← hB] at p0 p1 ⊢
 have hwB : w.heap.size ≤ B := by omega
 have HB0 := Lib.hid hB
 clear hB
 refine (impl_blockWithin_any zs 4080 _ Hl.out (by omega) (by omega)).mono ?_
 rw [HW.out]
 rintro e w0 ⟨rfl, e0⟩
 have p0a := p0.ext e0
 have p1a := p1.ext e0
 have E0a := E1.trans e0
 clear p0 p1 E1 e0
 have p0 := p0a
 have p1 := p1a
 have E1 := E0a
 clear p0a p1a E0a
 go_wp2_with (refine wpList_iload 31 _ rfl rfl p0 0 16 rfl _ Tryd.underlying31 rfl size_A16 (by rw [Hl.out]; omega) _ (by rw [sub_all _ _ (Hl.out)]) ?_)
 refine (hadamard_any zs _ Hl.out HB.out).mono ?_
 rintro e w1 ⟨rfl, e1⟩
 have q0 := p0.ext e1
 have q1 := p1.ext e1
 have E2 := E1.trans e1
 have q2 := IB.new w1 31 (List.replicate 16 0)
 have l1 := q1.lt
 have q1a := q1.alloc (.cells (ic (List.replicate 16 0)) 31)
 have q0a := q0.alloc (.cells (ic (List.replicate 16 0)) 31)
 have E2a := E2.trans (Ext.alloc w1 (.cells (ic (List.replicate 16 0)) 31))
 have hs2 := E2.size
 clear p0 p1 E1 e1 q0 q1 E2
 go_wp2_with (refine wpList_istore 31 _ _ rfl rfl q2 0 16 rfl _ rfl _ rfl size_A16 (HH.out) (by simp) ?_; intro w2 i2 g2; refine Hid.out ?_)
 rw [spl_all (by rw [HH.out]; simp)] at i2
 have E3 : Ext w w2 := Ext.grown E2a g2 (fun k e => by cases e; omega)
 have q0 := q0a.gr g2 (ne_blk (by omega))
 have q1 := q1a.gr g2 (ne_blk (by omega))
 obtain ⟨O, hO⟩ : ∃ O, O = w1.heap.size := ⟨_, rfl⟩
 rw [← hO] at i2 l1 ⊢
 have hwO : w.heap.size ≤ O := by omega
 have HO := Lib.hid hO
 clear hO hs2 q0a q1a E2a q2 g2
 refine Lib.hid ?_
 go_wp2_with (refine wpList_iload 31 _ rfl rfl i2 0 16 rfl _ Tryd.underlying31 rfl size_A16 (by rw [HH.out]; omega) _ (by rw [sub_all _ _ (HH.out)]) ?_)
 go_loopw [13] (fun i wr => ∃ k : Nat, k ≤ 16 ∧ i = .int .i64 k ∧ Ext w wr ∧ IB wr (B + 1) 31 (List.replicate 16 0) ∧ IB wr O 31 (mixI (ihad zs) (had zs) k)) (fun i _ => 16 - (intOf i).toNat)
 case atStart => exact ⟨0, by omega, rfl, E3, q1, by rw [mixI_zero]; exact i2⟩
 case round =>
  obtain ⟨k, hk, rfl, E4, r1, r2⟩ := hrel
  clear q0 q1 i2 E3
  by_cases hlt : k < 16
  ·have hd : decide ((k : Int) < 16) = true := by simp; omega
   have c0 := r2.cell (i := k) (by rw [mixI_len _ _ _ 16 HI.out HH.out]; exact hlt)
   have f0 := r2.frozen k
   have hbk := Hbd.out k
   have hset := mixI_set (ihad zs) (had zs) k 16 HI.out HH.out hlt
   rw [nth_ihad _ hlt] at hset
   have Hset := Lib.hid hset
   clear hset
   go_wp2_with (refine wpList_iindex _ _ _ rfl rfl (had zs) rfl k 16 _ rfl rfl _ Tryd.underlying31 Tryd.underlying3 size_int hlt HH.out ?_)
   go_roundw
   case rel => exact ⟨k + 1, by omega, by go_num, Ext.grown E4 (gr_set _ _ _ _) (fun q hq => by cases hq; omega), r1.set_other (by omega), by rw [← Hset.out]; exact r2.set k _⟩
   case measure => simp [intOf]; omega
  ·obtain rfl : k = 16 := by omega
   rw [mixI_all _ _ 16 HI.out HH.out] at r2
   go_wp2_with (first | (refine wpList_iload 31 _ rfl rfl r2 0 16 rfl _ Tryd.underlying31 rfl size_A16 (by rw [HI.out]; omega) _ (by rw [sub_all _ _ (HI.out)]) ?_) | (refine wpList_istore 31 _ _ rfl rfl r1 0 16 rfl _ rfl _ rfl size_A16 (HI.out) (by simp) ?_; intro w6 p6 g6; refine Hid.out ?_))
   rw [spl_all (by rw [HI.out]; simp)] at p6
   have E6 : Ext w w6 := Ext.grown E4 g6 (fun q hq => by cases hq; omega)
   refine Lib.hid ?_
   go_wp2
   exact bodyPost_ret (v := .agg (ic (ihad zs))) (results_cell_row rfl _ _ (B + 1) 31 (ic (ihad zs)) (0, 0) _ rfl p6 Tryd.underlying31 rfl (by rw [ic_size, ihad_len]; exact size_A16)) rfl ⟨rfl, E6⟩
set_option maxRecDepth 100000 in
theorem impl_CodeBlock_any (zs : List Int) (q : Nat) (w : World) (hT : TabQ w) (hl : zs.length = 16) (hb : inB 255 zs = true) (hq : q < 16) :
 Calls Tryd.prog 44 #[.agg (ic zs), .int .i64 q] w fun e w' => e = .returned (.agg (ic (cod zs q))) ∧ Ext w w' := by
 have hbA := inB_bdA (M := 1048576) (by omega) hb (by omega)
 have Hbd := Lib.hid (fun k (hk : k < 16) => had_255 hl hb hk)
 have Hl := Lib.hid hl
 have HB := Lib.hid hbA
 have HW := Lib.hid hb
 have HT := Lib.hid hT
 have HH := Lib.hid (had_len zs)
 have HI := Lib.hid (cod_len zs q)
 clear hl hb hbA hT
 have a2 := Ext.alloc (w.alloc (.cells (ic zs) 31)) (.cells (ic (List.replicate 16 0)) 31)
 have p0 := (IB.new w 31 zs).ext a2
 have p1 := IB.new (w.alloc (.cells (ic zs) 31)) 31 (List.replicate 16 0)
 have E1 := (Ext.alloc w (.cells (ic zs) 31)).trans a2
 simp only [World.size_alloc] at p1
 clear a2
 go_enter Tryd.func44, Tryd.ntmps44
 go_wp2_with fail
 obtain ⟨B, hB⟩ : ∃ B, B = w.heap.size := ⟨_, rfl⟩
 rw [← hB] at p0 p1 ⊢
 have hwB : w.heap.size ≤ B := by omega
 have HB0 := Lib.hid hB
 clear hB
 refine (qualityValid_in _ _ (by omega) (by omega)).mono ?_
 rintro e w0 ⟨rfl, rfl⟩
 go_wp2_with (refine wpList_iload 31 _ rfl rfl p0 0 16 rfl _ Tryd.underlying31 rfl size_A16 (by rw [Hl.out]; omega) _ (by rw [sub_all _ _ (Hl.out)]) ?_)
 refine (impl_blockWithin_any zs 255 _ Hl.out (by omega) (by omega)).mono ?_
 rw [HW.out]
 rintro e w0 ⟨rfl, e0⟩
 have p0a := p0.ext e0
 have p1a := p1.ext e0
 have E0a := E1.trans e0
 clear p0 p1 E1 e0
 have p0 := p0a
 have p1 := p1a
 have E1 := E0a
 clear p0a p1a E0a
 go_wp2_with (refine wpList_iload 31 _ rfl rfl p0 0 16 rfl _ Tryd.underlying31 rfl size_A16 (by rw [Hl.out]; omega) _ (by rw [sub_all _ _ (Hl.out)]) ?_)
 refine (hadamard_any zs _ Hl.out HB.out).mono ?_
 rintro e w1 ⟨rfl, e1⟩
 have q0 := p0.ext e1
 have q1 := p1.ext e1
 have E2 := E1.trans e1
 have q2 := IB.new w1 31 (List.replicate 16 0)
 have l1 := q1.lt
 have q1a := q1.alloc (.cells (ic (List.replicate 16 0)) 31)
 have q0a := q0.alloc (.cells (ic (List.replicate 16 0)) 31)
 have E2a := E2.trans (Ext.alloc w1 (.cells (ic (List.replicate 16 0)) 31))
 have hs2 := E2.size
 clear p0 p1 E1 e1 q0 q1 E2
 go_wp2_with (refine wpList_istore 31 _ _ rfl rfl q2 0 16 rfl _ rfl _ rfl size_A16 (HH.out) (by simp) ?_; intro w2 i2 g2; refine Hid.out ?_)
 rw [spl_all (by rw [HH.out]; simp)] at i2
 have E3 : Ext w w2 := Ext.grown E2a g2 (fun k e => by cases e; omega)
 have q0 := q0a.gr g2 (ne_blk (by omega))
 have q1 := q1a.gr g2 (ne_blk (by omega))
 obtain ⟨O, hO⟩ : ∃ O, O = w1.heap.size := ⟨_, rfl⟩
 rw [← hO] at i2 l1 ⊢
 have hwO : w.heap.size ≤ O := by omega
 have HO := Lib.hid hO
 clear hO hs2 q0a q1a E2a q2 g2
 refine Lib.hid ?_
 go_wp2_with (refine wpList_iload 31 _ rfl rfl i2 0 16 rfl _ Tryd.underlying31 rfl size_A16 (by rw [HH.out]; omega) _ (by rw [sub_all _ _ (HH.out)]) ?_)
 go_loopw [20] (fun i wr => ∃ k : Nat, k ≤ 16 ∧ i = .int .i64 k ∧ Ext w wr ∧ IB wr (B + 1) 31 (List.replicate 16 0) ∧ IB wr O 31 (mixI (cod zs q) (had zs) k)) (fun i _ => 16 - (intOf i).toNat)
 case atStart => exact ⟨0, by omega, rfl, E3, q1, by rw [mixI_zero]; exact i2⟩
 case round =>
  obtain ⟨k, hk, rfl, E4, r1, r2⟩ := hrel
  clear q0 q1 i2 E3
  by_cases hlt : k < 16
  ·have hd : decide ((k : Int) < 16) = true := by simp; omega
   have hbk := Hbd.out k hlt
   have hset := mixI_set (cod zs q) (had zs) k 16 HI.out HH.out hlt
   rw [nth_cod _ _ hlt] at hset
   have Hset := Lib.hid hset
   clear hset
   go_wp2_with (refine wpList_iindex _ _ _ rfl rfl (had zs) rfl k 16 _ rfl rfl _ Tryd.underlying31 Tryd.underlying3 size_int hlt HH.out ?_)
   refine (impl_Quantize_in (nth (had zs) k) q _ (HT.out.ext E4) hbk.1 hbk.2 hq).mono ?_
   rintro e w3 ⟨rfl, m3, rfl⟩
   have E5 := Ext.trans_drewN E4 m3
   have s1 := r1.drewN m3
   have s2 := r2.drewN m3
   have c0 := s2.cell (i := k) (by rw [mixI_len _ _ _ 16 HI.out HH.out]; exact hlt)
   have f0 := s2.frozen k
   clear r1 r2 E4
   generalize wr.drewN m3 = w4 at *
   go_wp2
   go_roundw
   case rel => exact ⟨k + 1, by omega, by go_num, Ext.grown E5 (gr_set _ _ _ _) (fun q hq => by cases hq; omega), s1.set_other (by omega), by rw [← Hset.out]; exact s2.set k _⟩
   case measure => simp [intOf]; omega
  ·obtain rfl : k = 16 := by omega
   rw [mixI_all _ _ 16 HI.out HH.out] at r2
   go_wp2_with (first | (refine wpList_iload 31 _ rfl rfl r2 0 16 rfl _ Tryd.underlying31 rfl size_A16 (by rw [HI.out]; omega) _ (by rw [sub_all _ _ (HI.out)]) ?_) | (refine wpList_istore 31 _ _ rfl rfl r1 0 16 rfl _ rfl _ rfl size_A16 (HI.out) (by simp) ?_; intro w6 p6 g6; refine Hid.out ?_))
   rw [spl_all (by rw [HI.out]; simp)] at p6
   have E6 : Ext w w6 := Ext.grown E4 g6 (fun q hq => by cases hq; omega)
   refine Lib.hid ?_
   go_wp2
   exact bodyPost_ret (v := .agg (ic (cod zs q))) (results_cell_row rfl _ _ (B + 1) 31 (ic (cod zs q)) (0, 0) _ rfl p6 Tryd.underlying31 rfl (by rw [ic_size, cod_len]; exact size_A16)) rfl ⟨rfl, E6⟩
end Go.Proofs.YtbnhaegidfbgbaaDoor
namespace Go.Proofs.YtbnhaegidfbgbaaDoor
open Go.RowKit
set_option maxHeartbeats 1000000
theorem ifT {α : Type} (x y : α) : (if true = true then x else y) = x := rfl
theorem ifF {α : Type} (x y : α) : (if false = true then x else y) = y := rfl
set_option maxRecDepth 100000 in
theorem DecodeBlock_any (zs : List Int) (q : Nat) (w : World) (hT : TabQ w) (hl : zs.length = 16) (hb : inB 4080 zs = true) (hq : q < 16) :
 Calls Tryd.prog 75 #[.agg (ic zs), .int .i64 q] w fun e w' => e = .returned (.agg (ic (dec zs q))) ∧ Ext w w' := by
 have Hbd := Lib.hid (fun k (hk : k < 16) => inB_iff.1 hb k (by omega))
 have Hnd := Lib.hid (fun k (hk : k < 16) => nth_map_dq zs q (k := k) (by omega))
 have HD := Lib.hid (show (zs.map (fun x => dq x q)).length = 16 by simp [hl])
 have HDr := Lib.hid (dqs_rng zs q)
 have Hde := Lib.hid (show dec zs q = ihad (zs.map (fun x => dq x q)) from rfl)
 obtain ⟨D, hD⟩ : ∃ D, D = zs.map (fun x => dq x q) := ⟨_, rfl⟩
 rw [← hD] at Hnd HD HDr Hde
 have Hl := Lib.hid hl
 have HW := Lib.hid hb
 have HT := Lib.hid hT
 clear hl hb hT hD
 have a2 := Ext.alloc (w.alloc (.cells (ic zs) 31)) (.cells (ic (List.replicate 16 0)) 31)
 have p0 := (IB.new w 31 zs).ext a2
 have p1 := IB.new (w.alloc (.cells (ic zs) 31)) 31 (List.replicate 16 0)
 have E1 := (Ext.alloc w (.cells (ic zs) 31)).trans a2
 simp only [World.size_alloc] at p1
 clear a2
 go_enter Tryd.func75, Tryd.ntmps75
 go_wp2_with fail
 obtain ⟨B, hB⟩ : ∃ B, B = w.heap.size := ⟨_, rfl⟩
 rw [← hB] at p0 p1 ⊢
 have hwB : w.heap.size ≤ B := by omega
 have HB0 := Lib.hid hB
 clear hB
 refine (qualityValid_in _ _ (by omega) (by omega)).mono ?_
 rintro e w0 ⟨rfl, rfl⟩
 go_wp2_with (refine wpList_iload 31 _ rfl rfl p0 0 16 rfl _ Tryd.underlying31 rfl size_A16 (by rw [Hl.out]; omega) _ (by rw [sub_all _ _ (Hl.out)]) ?_)
 refine (impl_blockWithin_any zs 4080 _ Hl.out (by omega) (by omega)).mono ?_
 rw [HW.out]
 rintro e w0 ⟨rfl, e0⟩
 have q0 := p0.ext e0
 have q1 := p1.ext e0
 have E3 := E1.trans e0
 clear p0 p1 E1 e0
 go_wp2_with (refine wpList_iload 31 _ rfl rfl q0 0 16 rfl _ Tryd.underlying31 rfl size_A16 (by rw [Hl.out]; omega) _ (by rw [sub_all _ _ (Hl.out)]) ?_)
 go_loopw [17] (fun i wr => ∃ k : Nat, k ≤ 16 ∧ i = .int .i64 k ∧ Ext w wr ∧ IB wr B 31 (mixI D zs k) ∧ IB wr (B + 1) 31 (List.replicate 16 0)) (fun i _ => 16 - (intOf i).toNat)
 case atStart => exact ⟨0, by omega, rfl, E3, by rw [mixI_zero]; exact q0, q1⟩
 case round =>
  obtain ⟨k, hk, rfl, E4, r0, r1⟩ := hrel
  clear q0 q1 E3
  by_cases hlt : k < 16
  ·have hd : decide ((k : Int) < 16) = true := by simp; omega
   have hbk := Hbd.out k hlt
   have hset := mixI_set D zs k 16 HD.out Hl.out hlt
   rw [Hnd.out k hlt] at hset
   have Hset := Lib.hid hset
   have c0 := r0.cell (i := k) (by rw [mixI_len _ _ _ 16 HD.out Hl.out]; exact hlt)
   have f0 := r0.frozen k
   clear hset
   go_wp2_with (refine wpList_iindex _ _ _ rfl rfl zs rfl k 16 _ rfl rfl _ Tryd.underlying31 Tryd.underlying3 size_int hlt Hl.out ?_)
   refine (impl_Dequantize_in (nth zs k) q _ (HT.out.ext E4) hbk.1 hbk.2 hq).mono ?_
   rintro e w3 ⟨rfl, rfl⟩
   go_wp2
   go_roundw
   case rel => exact ⟨k + 1, by omega, by go_num, Ext.grown E4 (gr_set _ _ _ _) (fun q hq => by cases hq; omega), by rw [← Hset.out]; exact r0.set k _, r1.set_other (by omega)⟩
   case measure => simp [intOf]; omega
  ·obtain rfl : k = 16 := by omega
   rw [mixI_all _ _ 16 HD.out Hl.out] at r0
   go_wp2_with (refine wpList_iload 31 _ rfl rfl r0 0 16 rfl _ Tryd.underlying31 rfl size_A16 (by rw [HD.out]; omega) _ (by rw [sub_all _ _ (HD.out)]) ?_)
   refine (InverseTransform_any D _ HD.out HDr.out).mono ?_
   rintro e w5 ⟨rfl, e5⟩
   have s1 := r1.ext e5
   have E5 := E4.trans e5
   have HI := Lib.hid (ihad_len D)
   clear r0 r1 E4 e5
   go_wp2_with (refine wpList_istore 31 _ _ rfl rfl s1 0 16 rfl _ rfl _ rfl size_A16 (HI.out) (by simp) ?_; intro w6 p6 g6; refine Hid.out ?_)
   rw [spl_all (by rw [HI.out]; simp)] at p6
   have E6 : Ext w w6 := Ext.grown E5 g6 (fun q hq => by cases hq; omega)
   refine Lib.hid ?_
   go_wp2
   exact bodyPost_ret (v := .agg (ic (dec zs q))) (results_cell_row rfl _ _ (B + 1) 31 (ic (dec zs q)) (0, 0) _ rfl (by rw [Hde.out]; exact p6) Tryd.underlying31 rfl (by rw [ic_size, dec_len]; exact size_A16)) rfl ⟨rfl, E6⟩
set_option maxRecDepth 100000 in
theorem l4Decode_any (zs : List Int) (q : Nat) (w : World) (hl : zs.length = 16) (hb : inB 4080 zs = true) (hq : q < 16) :
 Calls Tryd.prog 102 #[.agg (ic zs), .int .i64 q] w fun e w' => e = .returned (.agg (ic (dec zs q))) ∧ Ext w w' := by
 have Hbd := Lib.hid (fun k (hk : k < 16) => inB_iff.1 hb k (by omega))
 have Hnd := Lib.hid (fun k (hk : k < 16) => nth_map_dq zs q (k := k) (by omega))
 have HD := Lib.hid (show (zs.map (fun x => dq x q)).length = 16 by simp [hl])
 have HDr := Lib.hid (inB_bdA (M := 1048576) (by omega) (dqs_rng zs q) (by omega))
 have Hde := Lib.hid (show dec zs q = ihad (zs.map (fun x => dq x q)) from rfl)
 obtain ⟨D, hD⟩ : ∃ D, D = zs.map (fun x => dq x q) := ⟨_, rfl⟩
 rw [← hD] at Hnd HD HDr Hde
 have Hl := Lib.hid hl
 have Hz := Lib.hid (show (List.replicate 16 (0 : Int)).length = 16 by simp)
 have hs := stp_rng hq
 have HQ := Lib.hid (fun w => spec_QuantStep_in q w hq)
 have Hdq := Lib.hid (fun l => show dq l q = clipI (l * stp q) (-4080) 4080 from rfl)
 generalize stp q = s at *
 clear hl hb hD
 have a2 := Ext.alloc (w.alloc (.cells (ic zs) 31)) (.cells (ic (List.replicate 16 0)) 31)
 have a3 := Ext.alloc ((w.alloc (.cells (ic zs) 31)).alloc (.cells (ic (List.replicate 16 0)) 31)) (.cells (ic (List.replicate 16 0)) 31)
 have p0 := ((IB.new w 31 zs).ext a2).ext a3
 have p1 := (IB.new (w.alloc (.cells (ic zs) 31)) 31 (List.replicate 16 0)).ext a3
 have p2 := IB.new ((w.alloc (.cells (ic zs) 31)).alloc (.cells (ic (List.replicate 16 0)) 31)) 31 (List.replicate 16 0)
 have E1 := ((Ext.alloc w (.cells (ic zs) 31)).trans a2).trans a3
 simp only [World.size_alloc] at p1 p2
 clear a2 a3
 go_enter Tryd.func102, Tryd.ntmps102
 go_wp2_with fail
 try simp only [World.size_alloc]
 obtain ⟨B, hB⟩ : ∃ B, B = w.heap.size := ⟨_, rfl⟩
 rw [← hB] at p0 p1 p2 ⊢
 have hwB : w.heap.size ≤ B := by omega
 have HB0 := Lib.hid hB
 clear hB
 go_loopw [6] (fun i wr => ∃ k : Nat, k ≤ 16 ∧ i = .int .i64 k ∧ Ext w wr ∧ IB wr B 31 zs ∧ IB wr (B + 1) 31 (List.replicate 16 0) ∧ IB wr (B + 1 + 1) 31 (mixI D (List.replicate 16 0) k)) (fun i _ => 16 - (intOf i).toNat)
 case atStart => exact ⟨0, by omega, rfl, E1, p0, p1, by rw [mixI_zero]; exact p2⟩
 case round =>
  obtain ⟨k, hk, rfl, E4, r0, r1, r2⟩ := hrel
  clear p0 p1 p2 E1
  by_cases hlt : k < 16
  ·have hd : decide ((k : Int) < 16) = true := by simp; omega
   have hbk := Hbd.out k hlt
   have hset := mixI_set D (List.replicate 16 0) k 16 HD.out Hz.out hlt
   rw [Hnd.out k hlt, Hdq.out] at hset
   have Hset := Lib.hid hset
   have c0 := Lib.hid (fun (wx : World) (h : IB wx B 31 zs) => h.cell (i := k) (by rw [Hl.out]; exact hlt))
   clear hset
   generalize nth zs k = z at *
   have hm := mul_bnd hbk.1 hbk.2 hs.1 hs.2
   obtain ⟨v, hv⟩ : ∃ v, v = clipI (z * s) (-4080) 4080 := ⟨_, rfl⟩
   rw [← hv] at Hset
   have HV := Lib.hid hv
   clear hv
   have HM := Lib.hid (fun (k : Nat) (hk : k ≤ 16) => mixI_len D (List.replicate 16 0) k 16 HD.out Hz.out)
   have G0 : Ext w wr ∧ IB wr B 31 zs ∧ IB wr (B + 1) 31 (List.replicate 16 0) ∧ IB wr (B + 1 + 1) 31 (mixI D (List.replicate 16 0) k) := ⟨E4, r0, r1, r2⟩
   clear E4 r0 r1 r2
   go_wp2_with fail
   refine wp_region_invL (by kernel_rfl) [(12, 0), (13, 1), (14, 2), (15, 3), (16, 4), (17, 5), (18, 6), (19, 7), (20, 8)] [[], [], [1], [1, 2], [], [4], [1, 2, 3, 4, 5], [1, 2, 3, 4, 5, 6], [0, 1, 2, 3, 4, 5, 6, 7], [0, 1, 2, 3, 4, 5, 6, 7, 8]] (fun i own ys wx => match i with | 0 => own = .int .i64 (k : Nat) | 1 => own = .int .i64 (k : Nat) | 2 => own = .pointer (some ⟨B, k, none⟩) | 3 => own = .int .i64 z | 4 => own = .int .i64 (q : Nat) | 5 => own = .int .i64 s | 6 => own = .int .i64 (z * s) | 7 => own = .int .i64 v | 8 => own = .pointer (some ⟨B + 1 + 1, k, none⟩) | 9 => True | _ => True) (fun Lx wx => Ext w wx ∧ IB wx B 31 zs ∧ IB wx (B + 1) 31 (List.replicate 16 0) ∧ IB wx (B + 1 + 1) 31 (if Lx 9 = true then mixI D (List.replicate 16 0) (k + 1) else mixI D (List.replicate 16 0) k)) (by kernel_rfl) (by kernel_rfl) (by kernel_rfl) ?g0_r1 ?gop_r1 ?gend_r1
   case g0_r1 => exact ⟨Ext.trans_drewN G0.1 1, G0.2.1.drewN 1, G0.2.2.1.drewN 1, G0.2.2.2.drewN 1⟩
   case gop_r1 =>
    refine ⟨?_, ?_, ?_, ?_, ?_, ?_, ?_, ?_, ?_, ?_, trivial⟩
    ·intro Lx xs wx hG hl ha hb hD hI Qo Kx hK hQo
     have l9 : Lx 9 = false := hb 9 rfl
     clear hl ha hb hD hI
     simp only [patchS, Nat.reduceAdd, Nat.reduceEqDiff, ↓reduceIte] at hQo ⊢
     go_wp2
     exact hK.out _ _ ⟨rfl, hG, fun _ _ _ _ _ _ h => h⟩
    ·intro Lx xs wx hG hl ha hb hD hI Qo Kx hK hQo
     have l9 : Lx 9 = false := hb 9 rfl
     clear hl ha hb hD hI
     simp only [patchS, Nat.reduceAdd, Nat.reduceEqDiff, ↓reduceIte] at hQo ⊢
     go_wp2
     exact hK.out _ _ ⟨rfl, hG, fun _ _ _ _ _ _ h => h⟩
    ·intro Lx xs wx hG hl ha hb hD hI Qo Kx hK hQo
     have l9 : Lx 9 = false := hb 9 rfl
     clear hl ha hb
     have d1 : (xs 1) = .int .i64 (k : Nat) := hD 1 rfl
     clear hD hI
     simp only [patchS, Nat.reduceAdd, Nat.reduceEqDiff, ↓reduceIte] at hQo ⊢
     generalize xs 1 = y1 at *
     subst d1
     go_wp2
     exact hK.out _ _ ⟨rfl, hG, fun _ _ _ _ _ _ h => h⟩
    ·intro Lx xs wx hG hl ha hb hD hI Qo Kx hK hQo
     have l9 : Lx 9 = false := hb 9 rfl
     clear hl ha hb
     have d2 : (xs 2) = .pointer (some ⟨B, k, none⟩) := hD 2 rfl
     clear hD hI
     simp only [patchS, Nat.reduceAdd, Nat.reduceEqDiff, ↓reduceIte] at hQo ⊢
     generalize xs 2 = y2 at *
     subst d2
     have cx := c0.out wx hG.2.1
     go_wp2
     exact hK.out _ _ ⟨rfl, hG, fun _ _ _ _ _ _ h => h⟩
    ·intro Lx xs wx hG hl ha hb hD hI Qo Kx hK hQo
     have l9 : Lx 9 = false := hb 9 rfl
     clear hl ha hb hD hI
     simp only [patchS, Nat.reduceAdd, Nat.reduceEqDiff, ↓reduceIte] at hQo ⊢
     go_wp2
     exact hK.out _ _ ⟨rfl, hG, fun _ _ _ _ _ _ h => h⟩
    ·intro Lx xs wx hG hl ha hb hD hI Qo Kx hK hQo
     have l9 : Lx 9 = false := hb 9 rfl
     clear hl ha hb
     have d4 : (xs 4) = .int .i64 (q : Nat) := hD 4 rfl
     clear hD hI
     simp only [patchS, Nat.reduceAdd, Nat.reduceEqDiff, ↓reduceIte] at hQo ⊢
     generalize xs 4 = y4 at *
     subst d4
     go_wp2_with fail
     refine (HQ.out _).mono ?_
     rintro e w9 ⟨rfl, e9⟩
     go_wp2
     exact hK.out _ _ ⟨rfl, ⟨hG.1.trans e9, hG.2.1.ext e9, hG.2.2.1.ext e9, hG.2.2.2.ext e9⟩, fun _ _ _ _ _ _ h => h⟩
    ·intro Lx xs wx hG hl ha hb hD hI Qo Kx hK hQo
     have l9 : Lx 9 = false := hb 9 rfl
     clear hl ha hb
     have d3 : (xs 3) = .int .i64 z := hD 3 rfl
     have d5 : (xs 5) = .int .i64 s := hD 5 rfl
     clear hD hI
     simp only [patchS, Nat.reduceAdd, Nat.reduceEqDiff, ↓reduceIte] at hQo ⊢
     generalize xs 3 = y3 at *
     generalize xs 5 = y5 at *
     subst d3 d5
     go_wp2
     exact hK.out _ _ ⟨rfl, hG, fun _ _ _ _ _ _ h => h⟩
    ·intro Lx xs wx hG hl ha hb hD hI Qo Kx hK hQo
     have l9 : Lx 9 = false := hb 9 rfl
     clear hl ha hb
     have d6 : (xs 6) = .int .i64 (z * s) := hD 6 rfl
     clear hD hI
     simp only [patchS, Nat.reduceAdd, Nat.reduceEqDiff, ↓reduceIte] at hQo ⊢
     generalize xs 6 = y6 at *
     subst d6
     go_wp2_with fail
     refine (l1Clip_any _ _ _ _).mono ?_
     rintro e w9 ⟨rfl, rfl⟩
     rw [← HV.out]
     go_wp2
     exact hK.out _ _ ⟨rfl, hG, fun _ _ _ _ _ _ h => h⟩
    ·intro Lx xs wx hG hl ha hb hD hI Qo Kx hK hQo
     have l9 : Lx 9 = false := hb 9 rfl
     clear hl ha hb
     have d0 : (xs 0) = .int .i64 (k : Nat) := hD 0 rfl
     clear hD hI
     simp only [patchS, Nat.reduceAdd, Nat.reduceEqDiff, ↓reduceIte] at hQo ⊢
     generalize xs 0 = y0 at *
     subst d0
     go_wp2
     exact hK.out _ _ ⟨rfl, hG, fun _ _ _ _ _ _ h => h⟩
    ·intro Lx xs wx hG hl ha hb hD hI Qo Kx hK hQo
     have l9 : Lx 9 = false := hl
     clear hl ha hb
     have d7 : (xs 7) = .int .i64 v := hD 7 rfl
     have d8 : (xs 8) = .pointer (some ⟨B + 1 + 1, k, none⟩) := hD 8 rfl
     clear hD hI
     simp only [patchS, Nat.reduceAdd, Nat.reduceEqDiff, ↓reduceIte] at hQo ⊢
     generalize xs 7 = y7 at *
     generalize xs 8 = y8 at *
     subst d7 d8
     rw [l9, ifF] at hG
     have cx := hG.2.2.2.cell (i := k) (by rw [HM.out k hk]; exact hlt)
     have fx := hG.2.2.2.frozen k
     have s2 := hG.2.2.2.set k v
     rw [Hset.out] at s2
     have gE := Ext.grown hG.1 (gr_set _ (B + 1 + 1) k (.int .i64 v)) (fun q hq => by cases hq; omega)
     have g0' := hG.2.1.set_other (c := B + 1 + 1) (i := k) (v := .int .i64 v) (by omega)
     have g1' := hG.2.2.1.set_other (c := B + 1 + 1) (i := k) (v := .int .i64 v) (by omega)
     go_wp2
     exact hQo undef _ (hK.out _ _ ⟨trivial, ⟨gE, g0', g1', s2⟩, fun _ _ _ _ _ _ h => h⟩)
   intro xs wx hV hG0
   obtain ⟨Lx, hL, hG⟩ := hG0
   have l9 : Lx 9 = true := hL 9 (by decide)
   clear hL
   have d0 : (xs 0) = .int .i64 (k : Nat) := hV 0 (by decide)
   have d1 : (xs 1) = .int .i64 (k : Nat) := hV 1 (by decide)
   have d2 : (xs 2) = .pointer (some ⟨B, k, none⟩) := hV 2 (by decide)
   have d3 : (xs 3) = .int .i64 z := hV 3 (by decide)
   have d4 : (xs 4) = .int .i64 (q : Nat) := hV 4 (by decide)
   have d5 : (xs 5) = .int .i64 s := hV 5 (by decide)
   have d6 : (xs 6) = .int .i64 (z * s) := hV 6 (by decide)
   have d7 : (xs 7) = .int .i64 v := hV 7 (by decide)
   have d8 : (xs 8) = .pointer (some ⟨B + 1 + 1, k, none⟩) := hV 8 (by decide)
   clear hV
   simp only [patchS, Nat.reduceAdd, Nat.reduceEqDiff, ↓reduceIte]
   generalize xs 0 = y0 at *
   generalize xs 1 = y1 at *
   generalize xs 2 = y2 at *
   generalize xs 3 = y3 at *
   generalize xs 4 = y4 at *
   generalize xs 5 = y5 at *
   generalize xs 6 = y6 at *
   generalize xs 7 = y7 at *
   generalize xs 8 = y8 at *
   generalize xs 9 = y9 at *
   replace hG : Ext w wx ∧ IB wx B 31 zs ∧ IB wx (B + 1) 31 (List.replicate 16 0) ∧ IB wx (B + 1 + 1) 31 (if Lx 9 = true then mixI D (List.replicate 16 0) (k + 1) else mixI D (List.replicate 16 0) k) := hG
   clear d0 d1 d2 d3 d4 d5 d6 d7 d8
   rw [l9, ifT] at hG
   clear G0 c0
   obtain ⟨E5, s0, s1, s2⟩ := hG
   go_wp2
   go_roundw
   case rel => exact ⟨k + 1, by omega, by go_num, E5, s0, s1, s2⟩
   case measure => simp [intOf]; omega
  ·obtain rfl : k = 16 := by omega
   rw [mixI_all _ _ 16 HD.out Hz.out] at r2
   go_wp2_with (refine wpList_iload 31 _ rfl rfl r2 0 16 rfl _ Tryd.underlying31 rfl size_A16 (by rw [HD.out]; omega) _ (by rw [sub_all _ _ (HD.out)]) ?_)
   refine (l3Inverse_any D _ HD.out HDr.out).mono ?_
   rintro e w5 ⟨rfl, e5⟩
   have s1 := r1.ext e5
   have E5 := E4.trans e5
   have HI := Lib.hid (ihad_len D)
   clear r0 r1 r2 E4 e5
   go_wp2_with (refine wpList_istore 31 _ _ rfl rfl s1 0 16 rfl _ rfl _ rfl size_A16 (HI.out) (by simp) ?_; intro w6 p6 g6; refine Hid.out ?_)
   rw [spl_all (by rw [HI.out]; simp)] at p6
   have E6 : Ext w w6 := Ext.grown E5 g6 (fun q hq => by cases hq; omega)
   refine Lib.hid ?_
   go_wp2
   exact bodyPost_ret (v := .agg (ic (dec zs q))) (results_cell_row rfl _ _ (B + 1) 31 (ic (dec zs q)) (0, 0) _ rfl (by rw [Hde.out]; exact p6) Tryd.underlying31 rfl (by rw [ic_size, dec_len]; exact size_A16)) rfl ⟨rfl, E6⟩
set_option maxRecDepth 100000 in
theorem spec_CodeBlock_any (zs : List Int) (q : Nat) (w : World) (hl : zs.length = 16) (hb : inB 255 zs = true) (hq : q < 16) :
 Calls Tryd.prog 94 #[.agg (ic zs), .int .i64 q] w fun e w' => e = .returned (.agg (ic (cod zs q))) ∧ Ext w w' := by
 have hbA := inB_bdA (M := 1048576) (by omega) hb (by omega)
 have Hbd := Lib.hid (fun k (hk : k < 16) => had_255 hl hb hk)
 have Hl := Lib.hid hl
 have HB := Lib.hid hbA
 have HW := Lib.hid hb
 have HH := Lib.hid (had_len zs)
 have HI := Lib.hid (cod_len zs q)
 have Hz := Lib.hid (show (List.replicate 16 (0 : Int)).length = 16 by simp)
 clear hl hb hbA
 have a2 := Ext.alloc (w.alloc (.cells (ic zs) 31)) (.cells (ic (List.replicate 16 0)) 31)
 have a3 := Ext.alloc ((w.alloc (.cells (ic zs) 31)).alloc (.cells (ic (List.replicate 16 0)) 31)) (.cells (ic (List.replicate 16 0)) 31)
 have p0 := ((IB.new w 31 zs).ext a2).ext a3
 have p1 := (IB.new (w.alloc (.cells (ic zs) 31)) 31 (List.replicate 16 0)).ext a3
 have p2 := IB.new ((w.alloc (.cells (ic zs) 31)).alloc (.cells (ic (List.replicate 16 0)) 31)) 31 (List.replicate 16 0)
 have E1 := ((Ext.alloc w (.cells (ic zs) 31)).trans a2).trans a3
 simp only [World.size_alloc] at p1 p2
 clear a2 a3
 go_enter Tryd.func94, Tryd.ntmps94
 go_wp2_with (refine wpList_iload 31 _ rfl rfl p0 0 16 rfl _ Tryd.underlying31 rfl size_A16 (by rw [Hl.out]; omega) _ (by rw [sub_all _ _ (Hl.out)]) ?_)
 try simp only [World.size_alloc]
 obtain ⟨B, hB⟩ : ∃ B, B = w.heap.size := ⟨_, rfl⟩
 rw [← hB] at p0 p1 p2 ⊢
 have hwB : w.heap.size ≤ B := by omega
 have HB0 := Lib.hid hB
 clear hB
 refine (spec_l3Ok_any zs 255 _ Hl.out (by omega) (by omega)).mono ?_
 rw [HW.out]
 rintro e w0 ⟨rfl, e0⟩
 have p0a := p0.ext e0
 have p1a := p1.ext e0
 have p2a := p2.ext e0
 have E0a := E1.trans e0
 clear p0 p1 p2 E1 e0
 go_wp2_with fail
 refine (l1In_yes _ _ _ _ (by omega) (by omega)).mono ?_
 rintro e w1 ⟨rfl, rfl⟩
 go_wp2_with (refine wpList_iload 31 _ rfl rfl p0a 0 16 rfl _ Tryd.underlying31 rfl size_A16 (by rw [Hl.out]; omega) _ (by rw [sub_all _ _ (Hl.out)]) ?_)
 refine (l3Apply_any zs _ Hl.out HB.out).mono ?_
 rintro e w1 ⟨rfl, e1⟩
 have q1 := p1a.ext e1
 have q2 := p2a.ext e1
 have E2 := E0a.trans e1
 have q3 := IB.new w1 31 (List.replicate 16 0)
 have l1 := q2.lt
 have q1a := q1.alloc (.cells (ic (List.replicate 16 0)) 31)
 have q2a := q2.alloc (.cells (ic (List.replicate 16 0)) 31)
 have E2a := E2.trans (Ext.alloc w1 (.cells (ic (List.replicate 16 0)) 31))
 have hs2 := E2.size
 clear p0a p1a p2a E0a e1 q1 q2 E2
 go_wp2_with (refine wpList_istore 31 _ _ rfl rfl q3 0 16 rfl _ rfl _ rfl size_A16 (HH.out) (by simp) ?_; intro w2 i2 g2; refine Hid.out ?_)
 rw [spl_all (by rw [HH.out]; simp)] at i2
 have E3 : Ext w w2 := Ext.grown E2a g2 (fun k e => by cases e; omega)
 have q1 := q1a.gr g2 (ne_blk (by omega))
 have q2 := q2a.gr g2 (ne_blk (by omega))
 obtain ⟨O, hO⟩ : ∃ O, O = w1.heap.size := ⟨_, rfl⟩
 rw [← hO] at i2 l1 ⊢
 have HO := Lib.hid hO
 clear hO hs2 q1a q2a E2a q3 g2
 refine Lib.hid ?_
 go_wp2_with fail
 go_loopw [7] (fun i wr => ∃ k : Nat, k ≤ 16 ∧ i = .int .i64 k ∧ Ext w wr ∧ IB wr (B + 1) 31 (List.replicate 16 0) ∧ IB wr O 31 (had zs) ∧ IB wr (B + 1 + 1) 31 (mixI (cod zs q) (List.replicate 16 0) k)) (fun i _ => 16 - (intOf i).toNat)
 case atStart => exact ⟨0, by omega, rfl, E3, q1, i2, by rw [mixI_zero]; exact q2⟩
 case round =>
  obtain ⟨k, hk, rfl, E4, r1, r3, r2⟩ := hrel
  clear q1 q2 i2 E3
  by_cases hlt : k < 16
  ·have hd : decide ((k : Int) < 16) = true := by simp; omega
   have hbk := Hbd.out k hlt
   have hset := mixI_set (cod zs q) (List.replicate 16 0) k 16 HI.out Hz.out hlt
   rw [nth_cod _ _ hlt] at hset
   have Hset := Lib.hid hset
   have c3 := r3.cell (i := k) (by rw [HH.out]; exact hlt)
   clear hset
   go_wp2_with fail
   refine (l4Quant_in (nth (had zs) k) q _ hbk.1 hbk.2 hq).mono ?_
   rintro e w3 ⟨rfl, e3⟩
   have E5 := E4.trans e3
   have s1 := r1.ext e3
   have s2 := r2.ext e3
   have s3 := r3.ext e3
   have c0 := s2.cell (i := k) (by rw [mixI_len _ _ _ 16 HI.out Hz.out]; exact hlt)
   have f0 := s2.frozen k
   clear r1 r2 r3 E4 c3 e3
   go_wp2
   go_roundw
   case rel => exact ⟨k + 1, by omega, by go_num, Ext.grown E5 (gr_set _ _ _ _) (fun q hq => by cases hq; omega), s1.set_other (by omega), s3.set_other (by omega), by rw [← Hset.out]; exact s2.set k _⟩
   case measure => simp [intOf]; omega
  ·obtain rfl : k = 16 := by omega
   rw [mixI_all _ _ 16 HI.out Hz.out] at r2
   go_wp2_with (first | (refine wpList_iload 31 _ rfl rfl r2 0 16 rfl _ Tryd.underlying31 rfl size_A16 (by rw [HI.out]; omega) _ (by rw [sub_all _ _ (HI.out)]) ?_) | (refine wpList_istore 31 _ _ rfl rfl r1 0 16 rfl _ rfl _ rfl size_A16 (HI.out) (by simp) ?_; intro w6 p6 g6; refine Hid.out ?_))
   rw [spl_all (by rw [HI.out]; simp)] at p6
   have E6 : Ext w w6 := Ext.grown E4 g6 (fun q hq => by cases hq; omega)
   refine Lib.hid ?_
   go_wp2
   exact bodyPost_ret (v := .agg (ic (cod zs q))) (results_cell_row rfl _ _ (B + 1) 31 (ic (cod zs q)) (0, 0) _ rfl p6 Tryd.underlying31 rfl (by rw [ic_size, cod_len]; exact size_A16)) rfl ⟨rfl, E6⟩
set_option maxRecDepth 100000 in
theorem difference_any (za zb : List Int) (w : World) (hx : za.length = 16) (hy : zb.length = 16) (bx : bdA 1099511627776 za) (by' : bdA 1099511627776 zb) :
 Calls Tryd.prog 45 #[.agg (ic za), .agg (ic zb)] w fun e w' => e = .returned (.agg (ic (dif za zb))) ∧ Ext w w' := by
 have Hx := Lib.hid hx
 have Hy := Lib.hid hy
 have Bx := Lib.hid bx
 have By := Lib.hid by'
 have HI := Lib.hid (dif_len za zb)
 clear hx hy bx by'
 have a2 := Ext.alloc (w.alloc (.cells (ic za) 31)) (.cells (ic zb) 31)
 have a3 := Ext.alloc ((w.alloc (.cells (ic za) 31)).alloc (.cells (ic zb) 31)) (.cells (ic (List.replicate 16 0)) 31)
 have p0 := ((IB.new w 31 za).ext a2).ext a3
 have p1 := (IB.new (w.alloc (.cells (ic za) 31)) 31 zb).ext a3
 have p2 := IB.new ((w.alloc (.cells (ic za) 31)).alloc (.cells (ic zb) 31)) 31 (List.replicate 16 0)
 have E1 := ((Ext.alloc w (.cells (ic za) 31)).trans a2).trans a3
 simp only [World.size_alloc] at p1 p2
 clear a2 a3
 go_enter Tryd.func45, Tryd.ntmps45
 go_wp2_with (refine wpList_iload 31 _ rfl rfl p1 0 16 rfl _ Tryd.underlying31 rfl size_A16 (by rw [Hy.out]; omega) _ (by rw [sub_all _ _ (Hy.out)]) ?_)
 try simp only [World.size_alloc]
 obtain ⟨B, hB⟩ : ∃ B, B = w.heap.size := ⟨_, rfl⟩
 rw [← hB] at p0 p1 p2 ⊢
 have hwB : w.heap.size ≤ B := by omega
 have HB0 := Lib.hid hB
 clear hB
 go_loopw [8] (fun i wr => ∃ k : Nat, k ≤ 16 ∧ i = .int .i64 k ∧ Ext w wr ∧ IB wr B 31 (mixI (dif za zb) za k) ∧ IB wr (B + 1) 31 zb ∧ IB wr (B + 1 + 1) 31 (List.replicate 16 0)) (fun i _ => 16 - (intOf i).toNat)
 case atStart => exact ⟨0, by omega, rfl, E1, by rw [mixI_zero]; exact p0, p1, p2⟩
 case round =>
  obtain ⟨k, hk, rfl, E4, r0, r1, r2⟩ := hrel
  clear p0 p1 p2 E1
  by_cases hlt : k < 16
  ·have hd : decide ((k : Int) < 16) = true := by simp; omega
   have b0 := Bx.out k
   have b1 := By.out k
   have hset := mixI_set (dif za zb) za k 16 HI.out Hx.out hlt
   rw [nth_dif _ _ hlt] at hset
   have Hset := Lib.hid hset
   have c0 := r0.cell (i := k) (by rw [mixI_len _ _ _ 16 HI.out Hx.out]; exact hlt)
   rw [nth_mixR HI.out Hx.out (Nat.le_refl _) hlt] at c0
   have f0 := r0.frozen k
   have c1 := r1.cell (i := k) (by rw [Hy.out]; exact hlt)
   clear hset c1
   go_wp2_with (refine wpList_iindex _ _ _ rfl rfl zb rfl k 16 _ rfl rfl _ Tryd.underlying31 Tryd.underlying3 size_int hlt Hy.out ?_)
   go_roundw
   case rel => exact ⟨k + 1, by omega, by go_num, Ext.grown E4 (gr_set _ _ _ _) (fun q hq => by cases hq; omega), by rw [← Hset.out]; exact r0.set k _, r1.set_other (by omega), r2.set_other (by omega)⟩
   case measure => simp [intOf]; omega
  ·obtain rfl : k = 16 := by omega
   rw [mixI_all _ _ 16 HI.out Hx.out] at r0
   go_wp2_with (first | (refine wpList_iload 31 _ rfl rfl r0 0 16 rfl _ Tryd.underlying31 rfl size_A16 (by rw [HI.out]; omega) _ (by rw [sub_all _ _ (HI.out)]) ?_) | (refine wpList_istore 31 _ _ rfl rfl r2 0 16 rfl _ rfl _ rfl size_A16 (HI.out) (by simp) ?_; intro w6 p6 g6; refine Hid.out ?_))
   rw [spl_all (by rw [HI.out]; simp)] at p6
   have E6 : Ext w w6 := Ext.grown E4 g6 (fun q hq => by cases hq; omega)
   refine Lib.hid ?_
   go_wp2
   exact bodyPost_ret (v := .agg (ic (dif za zb))) (results_cell_row rfl _ _ (B + 1 + 1) 31 (ic (dif za zb)) (0, 0) _ rfl p6 Tryd.underlying31 rfl (by rw [ic_size, dif_len]; exact size_A16)) rfl ⟨rfl, E6⟩
set_option maxRecDepth 100000 in
theorem l8Minus_any (za zb : List Int) (w : World) (hx : za.length = 16) (hy : zb.length = 16) (bx : bdA 1099511627776 za) (by' : bdA 1099511627776 zb) :
 Calls Tryd.prog 95 #[.agg (ic za), .agg (ic zb)] w fun e w' => e = .returned (.agg (ic (dif za zb))) ∧ Ext w w' := by
 have Hx := Lib.hid hx
 have Hy := Lib.hid hy
 have Bx := Lib.hid bx
 have By := Lib.hid by'
 have HI := Lib.hid (dif_len za zb)
 clear hx hy bx by'
 have a2 := Ext.alloc (w.alloc (.cells (ic za) 31)) (.cells (ic zb) 31)
 have a3 := Ext.alloc ((w.alloc (.cells (ic za) 31)).alloc (.cells (ic zb) 31)) (.cells (ic (List.replicate 16 0)) 31)
 have p0 := ((IB.new w 31 za).ext a2).ext a3
 have p1 := (IB.new (w.alloc (.cells (ic za) 31)) 31 zb).ext a3
 have p2 := IB.new ((w.alloc (.cells (ic za) 31)).alloc (.cells (ic zb) 31)) 31 (List.replicate 16 0)
 have E1 := ((Ext.alloc w (.cells (ic za) 31)).trans a2).trans a3
 simp only [World.size_alloc] at p1 p2
 clear a2 a3
 go_enter Tryd.func95, Tryd.ntmps95
 go_wp2_with fail
 try simp only [World.size_alloc]
 obtain ⟨B, hB⟩ : ∃ B, B = w.heap.size := ⟨_, rfl⟩
 rw [← hB] at p0 p1 p2 ⊢
 have hwB : w.heap.size ≤ B := by omega
 have HB0 := Lib.hid hB
 clear hB
 go_loopw [5] (fun i wr => ∃ k : Nat, k ≤ 16 ∧ i = .int .i64 k ∧ Ext w wr ∧ IB wr B 31 (mixI (dif za zb) za k) ∧ IB wr (B + 1) 31 zb ∧ IB wr (B + 1 + 1) 31 (List.replicate 16 0)) (fun i _ => 16 - (intOf i).toNat)
 case atStart => exact ⟨0, by omega, rfl, E1, by rw [mixI_zero]; exact p0, p1, p2⟩
 case round =>
  obtain ⟨k, hk, rfl, E4, r0, r1, r2⟩ := hrel
  clear p0 p1 p2 E1
  by_cases hlt : k < 16
  ·have hd : decide ((k : Int) < 16) = true := by simp; omega
   have b0 := Bx.out k
   have b1 := By.out k
   have hset := mixI_set (dif za zb) za k 16 HI.out Hx.out hlt
   rw [nth_dif _ _ hlt] at hset
   have Hset := Lib.hid hset
   have c0 := r0.cell (i := k) (by rw [mixI_len _ _ _ 16 HI.out Hx.out]; exact hlt)
   rw [nth_mixR HI.out Hx.out (Nat.le_refl _) hlt] at c0
   have f0 := r0.frozen k
   have c1 := r1.cell (i := k) (by rw [Hy.out]; exact hlt)
   clear hset
   have C0 := Lib.hid c0
   have C1 := Lib.hid c1
   have HM := Lib.hid (mixI_len (dif za zb) za k 16 HI.out Hx.out)
   generalize nth za k = u at *
   generalize nth zb k = v at *
   have G0 : Ext w wr ∧ IB wr (B + 1) 31 zb ∧ IB wr (B + 1 + 1) 31 (List.replicate 16 0) ∧ IB wr B 31 (mixI (dif za zb) za k) := ⟨E4, r1, r2, r0⟩
   have HcU := Lib.hid (fun (wx : World) (h : IB wx B 31 (mixI (dif za zb) za k)) => (h.cell (i := k) (by rw [HM.out]; exact hlt)).trans ((r0.cell (i := k) (by rw [HM.out]; exact hlt)).symm.trans C0.out))
   have HcV := Lib.hid (fun (wx : World) (h : IB wx (B + 1) 31 zb) => (h.cell (i := k) (by rw [Hy.out]; exact hlt)).trans ((r1.cell (i := k) (by rw [Hy.out]; exact hlt)).symm.trans C1.out))
   clear E4 r0 r1 r2 c0 c1 f0
   go_wp2_with fail
   refine wp_region_invL (by kernel_rfl) [(10, 0), (11, 1), (12, 2), (13, 3), (14, 4), (15, 5), (16, 6), (17, 7), (18, 8)] [[], [], [1], [1, 2], [], [4], [4, 5], [1, 2, 3, 4, 5, 6], [0, 1, 2, 3, 4, 5, 6, 7], [0, 1, 2, 3, 4, 5, 6, 7, 8]] (fun i own ys wx => match i with | 0 => own = .int .i64 (k : Nat) | 1 => own = .int .i64 (k : Nat) | 2 => own = .pointer (some ⟨B, k, none⟩) | 3 => own = .int .i64 u | 4 => own = .int .i64 (k : Nat) | 5 => own = .pointer (some ⟨B + 1, k, none⟩) | 6 => own = .int .i64 v | 7 => own = .int .i64 (u - v) | 8 => own = .pointer (some ⟨B, k, none⟩) | 9 => True | _ => True) (fun Lx wx => Ext w wx ∧ IB wx (B + 1) 31 zb ∧ IB wx (B + 1 + 1) 31 (List.replicate 16 0) ∧ IB wx B 31 (if Lx 9 = true then mixI (dif za zb) za (k + 1) else mixI (dif za zb) za k)) (by kernel_rfl) (by kernel_rfl) (by kernel_rfl) ?g0_r2 ?gop_r2 ?gend_r2
   case g0_r2 => exact ⟨Ext.trans_drewN G0.1 1, G0.2.1.drewN 1, G0.2.2.1.drewN 1, G0.2.2.2.drewN 1⟩
   case gop_r2 =>
    refine ⟨?_, ?_, ?_, ?_, ?_, ?_, ?_, ?_, ?_, ?_, trivial⟩
    ·intro Lx xs wx hG hl ha hb hD hI Qo Kx hK hQo
     have l9 : Lx 9 = false := hb 9 rfl
     clear hl ha hb hD hI
     simp only [patchS, Nat.reduceAdd, Nat.reduceEqDiff, ↓reduceIte] at hQo ⊢
     go_wp2
     exact hK.out _ _ ⟨rfl, hG, fun _ _ _ _ _ _ h => h⟩
    ·intro Lx xs wx hG hl ha hb hD hI Qo Kx hK hQo
     have l9 : Lx 9 = false := hb 9 rfl
     clear hl ha hb hD hI
     simp only [patchS, Nat.reduceAdd, Nat.reduceEqDiff, ↓reduceIte] at hQo ⊢
     go_wp2
     exact hK.out _ _ ⟨rfl, hG, fun _ _ _ _ _ _ h => h⟩
    ·intro Lx xs wx hG hl ha hb hD hI Qo Kx hK hQo
     have l9 : Lx 9 = false := hb 9 rfl
     clear hl ha hb
     have d1 : (xs 1) = .int .i64 (k : Nat) := hD 1 rfl
     clear hD hI
     simp only [patchS, Nat.reduceAdd, Nat.reduceEqDiff, ↓reduceIte] at hQo ⊢
     generalize xs 1 = y1 at *
     subst d1
     go_wp2
     exact hK.out _ _ ⟨rfl, hG, fun _ _ _ _ _ _ h => h⟩
    ·intro Lx xs wx hG hl ha hb hD hI Qo Kx hK hQo
     have l9 : Lx 9 = false := hb 9 rfl
     clear hl ha hb
     have d2 : (xs 2) = .pointer (some ⟨B, k, none⟩) := hD 2 rfl
     clear hD hI
     simp only [patchS, Nat.reduceAdd, Nat.reduceEqDiff, ↓reduceIte] at hQo ⊢
     generalize xs 2 = y2 at *
     subst d2
     have hG2 := hG.2.2.2
     rw [l9, ifF] at hG2
     have cx := HcU.out wx hG2
     clear hG2
     go_wp2
     exact hK.out _ _ ⟨rfl, hG, fun _ _ _ _ _ _ h => h⟩
    ·intro Lx xs wx hG hl ha hb hD hI Qo Kx hK hQo
     have l9 : Lx 9 = false := hb 9 rfl
     clear hl ha hb hD hI
     simp only [patchS, Nat.reduceAdd, Nat.reduceEqDiff, ↓reduceIte] at hQo ⊢
     go_wp2
     exact hK.out _ _ ⟨rfl, hG, fun _ _ _ _ _ _ h => h⟩
    ·intro Lx xs wx hG hl ha hb hD hI Qo Kx hK hQo
     have l9 : Lx 9 = false := hb 9 rfl
     clear hl ha hb
     have d4 : (xs 4) = .int .i64 (k : Nat) := hD 4 rfl
     clear hD hI
     simp only [patchS, Nat.reduceAdd, Nat.reduceEqDiff, ↓reduceIte] at hQo ⊢
     generalize xs 4 = y4 at *
     subst d4
     go_wp2
     exact hK.out _ _ ⟨rfl, hG, fun _ _ _ _ _ _ h => h⟩
    ·intro Lx xs wx hG hl ha hb hD hI Qo Kx hK hQo
     have l9 : Lx 9 = false := hb 9 rfl
     clear hl ha hb
     have d5 : (xs 5) = .pointer (some ⟨B + 1, k, none⟩) := hD 5 rfl
     clear hD hI
     simp only [patchS, Nat.reduceAdd, Nat.reduceEqDiff, ↓reduceIte] at hQo ⊢
     generalize xs 5 = y5 at *
     subst d5
     have cx := HcV.out wx hG.2.1
     go_wp2
     exact hK.out _ _ ⟨rfl, hG, fun _ _ _ _ _ _ h => h⟩
    ·intro Lx xs wx hG hl ha hb hD hI Qo Kx hK hQo
     have l9 : Lx 9 = false := hb 9 rfl
     clear hl ha hb
     have d3 : (xs 3) = .int .i64 u := hD 3 rfl
     have d6 : (xs 6) = .int .i64 v := hD 6 rfl
     clear hD hI
     simp only [patchS, Nat.reduceAdd, Nat.reduceEqDiff, ↓reduceIte] at hQo ⊢
     generalize xs 3 = y3 at *
     generalize xs 6 = y6 at *
     subst d3 d6
     go_wp2
     exact hK.out _ _ ⟨rfl, hG, fun _ _ _ _ _ _ h => h⟩
    ·intro Lx xs wx hG hl ha hb hD hI Qo Kx hK hQo
     have l9 : Lx 9 = false := hb 9 rfl
     clear hl ha hb
     have d0 : (xs 0) = .int .i64 (k : Nat) := hD 0 rfl
     clear hD hI
     simp only [patchS, Nat.reduceAdd, Nat.reduceEqDiff, ↓reduceIte] at hQo ⊢
     generalize xs 0 = y0 at *
     subst d0
     go_wp2
     exact hK.out _ _ ⟨rfl, hG, fun _ _ _ _ _ _ h => h⟩
    ·intro Lx xs wx hG hl ha hb hD hI Qo Kx hK hQo
     have l9 : Lx 9 = false := hl
     clear hl ha hb
     have d7 : (xs 7) = .int .i64 (u - v) := hD 7 rfl
     have d8 : (xs 8) = .pointer (some ⟨B, k, none⟩) := hD 8 rfl
     clear hD hI
     simp only [patchS, Nat.reduceAdd, Nat.reduceEqDiff, ↓reduceIte] at hQo ⊢
     generalize xs 7 = y7 at *
     generalize xs 8 = y8 at *
     subst d7 d8
     rw [l9, ifF] at hG
     have cx := hG.2.2.2.cell (i := k) (by rw [HM.out]; exact hlt)
     have fx := hG.2.2.2.frozen k
     have s2 := hG.2.2.2.set k (u - v)
     rw [Hset.out] at s2
     have gE := Ext.grown hG.1 (gr_set _ B k (.int .i64 (u - v))) (fun q hq => by cases hq; omega)
     have g0' := hG.2.1.set_other (c := B) (i := k) (v := .int .i64 (u - v)) (by omega)
     have g1' := hG.2.2.1.set_other (c := B) (i := k) (v := .int .i64 (u - v)) (by omega)
     go_wp2
     exact hQo undef _ (hK.out _ _ ⟨trivial, ⟨gE, g0', g1', s2⟩, fun _ _ _ _ _ _ h => h⟩)
   intro xs wx hV hG0
   obtain ⟨Lx, hL, hG⟩ := hG0
   have l9 : Lx 9 = true := hL 9 (by decide)
   clear hL
   have d0 : (xs 0) = .int .i64 (k : Nat) := hV 0 (by decide)
   have d1 : (xs 1) = .int .i64 (k : Nat) := hV 1 (by decide)
   have d2 : (xs 2) = .pointer (some ⟨B, k, none⟩) := hV 2 (by decide)
   have d3 : (xs 3) = .int .i64 u := hV 3 (by decide)
   have d4 : (xs 4) = .int .i64 (k : Nat) := hV 4 (by decide)
   have d5 : (xs 5) = .pointer (some ⟨B + 1, k, none⟩) := hV 5 (by decide)
   have d6 : (xs 6) = .int .i64 v := hV 6 (by decide)
   have d7 : (xs 7) = .int .i64 (u - v) := hV 7 (by decide)
   have d8 : (xs 8) = .pointer (some ⟨B, k, none⟩) := hV 8 (by decide)
   clear hV
   simp only [patchS, Nat.reduceAdd, Nat.reduceEqDiff, ↓reduceIte]
   generalize xs 0 = y0 at *
   generalize xs 1 = y1 at *
   generalize xs 2 = y2 at *
   generalize xs 3 = y3 at *
   generalize xs 4 = y4 at *
   generalize xs 5 = y5 at *
   generalize xs 6 = y6 at *
   generalize xs 7 = y7 at *
   generalize xs 8 = y8 at *
   generalize xs 9 = y9 at *
   replace hG : Ext w wx ∧ IB wx (B + 1) 31 zb ∧ IB wx (B + 1 + 1) 31 (List.replicate 16 0) ∧ IB wx B 31 (if Lx 9 = true then mixI (dif za zb) za (k + 1) else mixI (dif za zb) za k) := hG
   clear d0 d1 d2 d3 d4 d5 d6 d7 d8
   rw [l9, ifT] at hG
   clear G0 HcU HcV
   obtain ⟨E5, s1, s2, s0⟩ := hG
   go_wp2
   go_roundw
   case rel => exact ⟨k + 1, by omega, by go_num, E5, s0, s1, s2⟩
   case measure => simp [intOf]; omega
  ·obtain rfl : k = 16 := by omega
   rw [mixI_all _ _ 16 HI.out Hx.out] at r0
   go_wp2_with (first | (refine wpList_iload 31 _ rfl rfl r0 0 16 rfl _ Tryd.underlying31 rfl size_A16 (by rw [HI.out]; omega) _ (by rw [sub_all _ _ (HI.out)]) ?_) | (refine wpList_istore 31 _ _ rfl rfl r2 0 16 rfl _ rfl _ rfl size_A16 (HI.out) (by simp) ?_; intro w6 p6 g6; refine Hid.out ?_))
   rw [spl_all (by rw [HI.out]; simp)] at p6
   have E6 : Ext w w6 := Ext.grown E4 g6 (fun q hq => by cases hq; omega)
   refine Lib.hid ?_
   go_wp2
   exact bodyPost_ret (v := .agg (ic (dif za zb))) (results_cell_row rfl _ _ (B + 1 + 1) 31 (ic (dif za zb)) (0, 0) _ rfl p6 Tryd.underlying31 rfl (by rw [ic_size, dif_len]; exact size_A16)) rfl ⟨rfl, E6⟩
end Go.Proofs.YtbnhaegidfbgbaaDoor
namespace Go.Proofs.YtbnhaegidfbgbaaDoor
open Go.RowKit
set_option maxHeartbeats 1000000
theorem lenZ : (List.replicate 16 (0 : Int)).length = 16 := by simp
set_option maxRecDepth 100000 in
theorem partOf_any (L : List Int) (x y : Nat) (hx : x ≤ 4) (hy : y ≤ 4) (a : Option Addr) (c : Nat) (w : World) (r : Sl w a 64 (L.map (Value.int .i64))) :
 Calls Tryd.prog 47 #[.slice a 64 c, .int .i64 (x : Nat), .int .i64 (y : Nat)] w fun e w' => e = .returned (.agg (ic (pof L (x) (y)))) ∧ Ext w w' := by
 have HI := Lib.hid (pof_len L (x) (y))
 have a2 := Ext.alloc (w.alloc (.cells (ic (List.replicate 16 0)) 31)) (.cells (ic (List.replicate 16 0)) 31)
 have p0 := (IB.new w 31 (List.replicate 16 0)).ext a2
 have p1 := IB.new (w.alloc (.cells (ic (List.replicate 16 0)) 31)) 31 (List.replicate 16 0)
 have E1 := (Ext.alloc w (.cells (ic (List.replicate 16 0)) 31)).trans a2
 simp only [World.size_alloc] at p1
 clear a2
 go_enter Tryd.func47, Tryd.ntmps47
 go_wp2_with fail
 try simp only [World.size_alloc]
 obtain ⟨B, hB⟩ : ∃ B, B = w.heap.size := ⟨_, rfl⟩
 rw [← hB] at p0 p1 ⊢
 have hwB : w.heap.size ≤ B := by omega
 have HB0 := Lib.hid hB
 clear hB
 go_loopw [9] (fun i wr => ∃ k : Nat, k ≤ 16 ∧ i = .int .i64 k ∧ Ext w wr ∧ IB wr B 31 (List.replicate 16 0) ∧ IB wr (B + 1) 31 (mixI (pof L (x) (y)) (List.replicate 16 0) k)) (fun i _ => 16 - (intOf i).toNat)
 case atStart => exact ⟨0, by omega, rfl, E1, p0, by rw [mixI_zero]; exact p1⟩
 case round =>
  obtain ⟨k, hk, rfl, E4, r0, r1⟩ := hrel
  clear p0 p1 E1
  by_cases hlt : k < 16
  ·have hd : decide ((k : Int) < 16) = true := by simp; omega
   have hset := mixI_set (pof L (x) (y)) (List.replicate 16 0) k 16 HI.out lenZ hlt
   rw [nth_pof _ _ _ hlt] at hset
   have Hset := Lib.hid hset
   have c1 := r1.cell (i := k) (by rw [mixI_len _ _ _ 16 HI.out lenZ]; exact hlt)
   have f1 := r1.frozen k
   obtain ⟨q, hq⟩ : ∃ q, q = (y + k / 4) * 8 + x + k % 4 := ⟨_, rfl⟩
   rw [← hq] at Hset
   have hq64 : q < 64 := by omega
   obtain ⟨b, off, rfl, hc⟩ := (r.ext E4).int hq64
   have HQ := Lib.hid hq
   have hcc : wr.cell? ⟨b, off + ((y + k / 4) * 8 + x + k % 4), none⟩ = some (.int .i64 (nth L q)) := by rw [← HQ.out]; exact hc
   clear hset hq hc
   generalize nth L q = z at *
   go_wp2
   go_roundw
   case rel => exact ⟨k + 1, by omega, by go_num, Ext.grown E4 (gr_set _ _ _ _) (fun q hq => by cases hq; omega), r0.set_other (by omega), by rw [← Hset.out]; exact r1.set k _⟩
   case measure => simp [intOf]; omega
  ·obtain rfl : k = 16 := by omega
   rw [mixI_all _ _ 16 HI.out lenZ] at r1
   go_wp2_with (first | (refine wpList_iload 31 _ rfl rfl r1 0 16 rfl _ Tryd.underlying31 rfl size_A16 (by rw [HI.out]; omega) _ (by rw [sub_all _ _ (HI.out)]) ?_) | (refine wpList_istore 31 _ _ rfl rfl r0 0 16 rfl _ rfl _ rfl size_A16 (HI.out) (by simp) ?_; intro w6 p6 g6; refine Hid.out ?_))
   rw [spl_all (by rw [HI.out]; simp)] at p6
   have E6 : Ext w w6 := Ext.grown E4 g6 (fun q hq => by cases hq; omega)
   refine Lib.hid ?_
   go_wp2
   exact bodyPost_ret (v := .agg (ic (pof L (x) (y)))) (results_cell_row rfl _ _ B 31 (ic (pof L (x) (y))) (0, 0) _ rfl p6 Tryd.underlying31 rfl (by rw [ic_size, pof_len]; exact size_A16)) rfl ⟨rfl, E6⟩
set_option maxRecDepth 100000 in
theorem l8Part_any (L : List Int) (u : Nat) (hu : u < 4) (a : Option Addr) (c : Nat) (w : World) (r : Sl w a 64 (L.map (Value.int .i64))) :
 Calls Tryd.prog 96 #[.slice a 64 c, .int .i64 (u : Nat)] w fun e w' => e = .returned (.agg (ic (pof L (u % 2 * 4) (u / 2 * 4)))) ∧ Ext w w' := by
 have HI := Lib.hid (pof_len L (u % 2 * 4) (u / 2 * 4))
 have a2 := Ext.alloc (w.alloc (.cells (ic (List.replicate 16 0)) 31)) (.cells (ic (List.replicate 16 0)) 31)
 have p0 := (IB.new w 31 (List.replicate 16 0)).ext a2
 have p1 := IB.new (w.alloc (.cells (ic (List.replicate 16 0)) 31)) 31 (List.replicate 16 0)
 have E1 := (Ext.alloc w (.cells (ic (List.replicate 16 0)) 31)).trans a2
 simp only [World.size_alloc] at p1
 clear a2
 go_enter Tryd.func96, Tryd.ntmps96
 go_wp2_with fail
 try simp only [World.size_alloc]
 obtain ⟨B, hB⟩ : ∃ B, B = w.heap.size := ⟨_, rfl⟩
 rw [← hB] at p0 p1 ⊢
 have hwB : w.heap.size ≤ B := by omega
 have HB0 := Lib.hid hB
 clear hB
 go_loopw [6] (fun i wr => ∃ k : Nat, k ≤ 16 ∧ i = .int .i64 k ∧ Ext w wr ∧ IB wr B 31 (List.replicate 16 0) ∧ IB wr (B + 1) 31 (mixI (pof L (u % 2 * 4) (u / 2 * 4)) (List.replicate 16 0) k)) (fun i _ => 16 - (intOf i).toNat)
 case atStart => exact ⟨0, by omega, rfl, E1, p0, by rw [mixI_zero]; exact p1⟩
 case round =>
  obtain ⟨k, hk, rfl, E4, r0, r1⟩ := hrel
  clear p0 p1 E1
  by_cases hlt : k < 16
  ·have hd : decide ((k : Int) < 16) = true := by simp; omega
   have hset := mixI_set (pof L (u % 2 * 4) (u / 2 * 4)) (List.replicate 16 0) k 16 HI.out lenZ hlt
   rw [nth_pof _ _ _ hlt] at hset
   have Hset := Lib.hid hset
   have c1 := r1.cell (i := k) (by rw [mixI_len _ _ _ 16 HI.out lenZ]; exact hlt)
   have f1 := r1.frozen k
   obtain ⟨q, hq⟩ : ∃ q, q = (u / 2 * 4 + k / 4) * 8 + u % 2 * 4 + k % 4 := ⟨_, rfl⟩
   rw [← hq] at Hset
   have hq64 : q < 64 := by omega
   obtain ⟨b, off, rfl, hc⟩ := (r.ext E4).int hq64
   have HQ := Lib.hid hq
   have hcc : wr.cell? ⟨b, off + ((u / 2 * 4 + k / 4) * 8 + u % 2 * 4 + k % 4), none⟩ = some (.int .i64 (nth L q)) := by rw [← HQ.out]; exact hc
   clear hset hq hc
   generalize nth L q = z at *
   go_wp2
   go_roundw
   case rel => exact ⟨k + 1, by omega, by go_num, Ext.grown E4 (gr_set _ _ _ _) (fun q hq => by cases hq; omega), r0.set_other (by omega), by rw [← Hset.out]; exact r1.set k _⟩
   case measure => simp [intOf]; omega
  ·obtain rfl : k = 16 := by omega
   rw [mixI_all _ _ 16 HI.out lenZ] at r1
   go_wp2_with (first | (refine wpList_iload 31 _ rfl rfl r1 0 16 rfl _ Tryd.underlying31 rfl size_A16 (by rw [HI.out]; omega) _ (by rw [sub_all _ _ (HI.out)]) ?_) | (refine wpList_istore 31 _ _ rfl rfl r0 0 16 rfl _ rfl _ rfl size_A16 (HI.out) (by simp) ?_; intro w6 p6 g6; refine Hid.out ?_))
   rw [spl_all (by rw [HI.out]; simp)] at p6
   have E6 : Ext w w6 := Ext.grown E4 g6 (fun q hq => by cases hq; omega)
   refine Lib.hid ?_
   go_wp2
   exact bodyPost_ret (v := .agg (ic (pof L (u % 2 * 4) (u / 2 * 4)))) (results_cell_row rfl _ _ B 31 (ic (pof L (u % 2 * 4) (u / 2 * 4))) (0, 0) _ rfl p6 Tryd.underlying31 rfl (by rw [ic_size, pof_len]; exact size_A16)) rfl ⟨rfl, E6⟩
set_option maxRecDepth 100000 in
theorem part_any (p : Pic) (x y : Int) (a : Option Addr) (c n : Nat) (w : World) (hv : p.valid) (hn : n = p.px.length) (r : Sl w a n (p.px.map (Value.int .i64))) (x1 : 0 ≤ x) (x2 : x ≤ 1000) (y1 : 0 ≤ y) (y2 : y ≤ 1000) :
 Calls Tryd.prog 46 #[.agg #[.int .i64 p.w, .int .i64 p.h, .slice a n c], .int .i64 x, .int .i64 y] w fun e w' => e = .returned (.agg (ic (prt p x y))) ∧ Ext w w' := by
 have HI := Lib.hid (prt_len p x y)
 have HN := Lib.hid hn
 have HV := Lib.hid hv
 clear hn hv
 obtain ⟨w0, hw0⟩ : ∃ w0, w0 = w.alloc (.cells #[.int .i64 p.w, .int .i64 p.h, .slice a n c] 25) := ⟨_, rfl⟩
 have b0 := blk_new w (.cells #[.int .i64 p.w, .int .i64 p.h, .slice a n c] 25)
 have E0 := Ext.alloc w (.cells #[.int .i64 p.w, .int .i64 p.h, .slice a n c] 25)
 have s0 : w0.heap.size = w.heap.size + 1 := by rw [hw0]; simp
 rw [← hw0] at b0 E0
 have a1 := Ext.alloc w0 (.cells (ic (List.replicate 16 0)) 31)
 have a2 := Ext.alloc (w0.alloc (.cells (ic (List.replicate 16 0)) 31)) (.cells (ic (List.replicate 16 0)) 31)
 have bx := (b0 : w0.heap[w.heap.size]? = _)
 have b1 := a2.blk (a1.blk bx)
 have p0 := (IB.new w0 31 (List.replicate 16 0)).ext a2
 have p1 := IB.new (w0.alloc (.cells (ic (List.replicate 16 0)) 31)) 31 (List.replicate 16 0)
 have E1 := (E0.trans a1).trans a2
 simp only [World.size_alloc] at p1
 rw [s0] at p0 p1
 clear a1 a2 b0 bx s0
 go_enter Tryd.func46, Tryd.ntmps46
 go_wp2_with fail
 rw [← hw0]
 try simp only [World.size_alloc]
 obtain ⟨B, hB⟩ : ∃ B, B = w.heap.size := ⟨_, rfl⟩
 rw [← hB] at p0 p1 b1 ⊢
 have hwB : w.heap.size ≤ B := by omega
 have HB0 := Lib.hid hB
 have HW0 := Lib.hid hw0
 clear hB hw0
 go_loopw [9] (fun i wr => ∃ k : Nat, k ≤ 16 ∧ i = .int .i64 k ∧ Ext w wr ∧ Hid (wr.heap[B]? = some (.cells #[.int .i64 p.w, .int .i64 p.h, .slice a n c] 25 (0, 0))) ∧ IB wr (B + 1) 31 (List.replicate 16 0) ∧ IB wr (B + 1 + 1) 31 (mixI (prt p x y) (List.replicate 16 0) k)) (fun i _ => 16 - (intOf i).toNat)
 case atStart => exact ⟨0, by omega, rfl, E1, Lib.hid b1, p0, by rw [mixI_zero]; exact p1⟩
 case round =>
  obtain ⟨k, hk, rfl, E4, X4, r0, r1⟩ := hrel
  clear p0 p1 E1 b1
  by_cases hlt : k < 16
  ·have hd : decide ((k : Int) < 16) = true := by simp; omega
   have hset := mixI_set (prt p x y) (List.replicate 16 0) k 16 HI.out lenZ hlt
   rw [nth_prt _ _ _ hlt] at hset
   have Hset := Lib.hid hset
   obtain ⟨-, k0, k1, k2, -⟩ := bx3 X4.out
   clear hset
   go_wp2_with fail
   refine (at_any p (x + (k % 4 : Nat)) (y + (k / 4 : Nat)) a c n _ HV.out HN.out (r.ext E4)).mono ?_
   rintro e w3 ⟨rfl, e3⟩
   have E5 := E4.trans e3
   have X5 := Lib.hid (e3.blk X4.out)
   have s0 := r0.ext e3
   have s1 := r1.ext e3
   have c1 := s1.cell (i := k) (by rw [mixI_len _ _ _ 16 HI.out lenZ]; exact hlt)
   have f1 := s1.frozen k
   clear r0 r1 E4 X4 e3 k0 k1 k2
   go_wp2
   go_roundw
   case rel => exact ⟨k + 1, by omega, by go_num, Ext.grown E5 (gr_set _ _ _ _) (fun q hq => by cases hq; omega), Lib.hid (blk_set_other X5.out (by omega)), s0.set_other (by omega), by rw [← Hset.out]; exact s1.set k _⟩
   case measure => simp [intOf]; omega
  ·obtain rfl : k = 16 := by omega
   rw [mixI_all _ _ 16 HI.out lenZ] at r1
   go_wp2_with (first | (refine wpList_iload 31 _ rfl rfl r1 0 16 rfl _ Tryd.underlying31 rfl size_A16 (by rw [HI.out]; omega) _ (by rw [sub_all _ _ (HI.out)]) ?_) | (refine wpList_istore 31 _ _ rfl rfl r0 0 16 rfl _ rfl _ rfl size_A16 (HI.out) (by simp) ?_; intro w6 p6 g6; refine Hid.out ?_))
   rw [spl_all (by rw [HI.out]; simp)] at p6
   have E6 : Ext w w6 := Ext.grown E4 g6 (fun q hq => by cases hq; omega)
   refine Lib.hid ?_
   go_wp2
   exact bodyPost_ret (v := .agg (ic (prt p x y))) (results_cell_row rfl _ _ (B + 1) 31 (ic (prt p x y)) (0, 0) _ rfl p6 Tryd.underlying31 rfl (by rw [ic_size, prt_len]; exact size_A16)) rfl ⟨rfl, E6⟩
end Go.Proofs.YtbnhaegidfbgbaaDoor
