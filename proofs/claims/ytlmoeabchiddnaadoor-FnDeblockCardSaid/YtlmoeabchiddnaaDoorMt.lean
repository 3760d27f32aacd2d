/- Copies of macroblocks. -/
import Derived.Test.YtlmoeabchiddnaaDoorMb
namespace Go.Proofs.YtlmoeabchiddnaaDoor
open Go.RowKit
set_option maxHeartbeats 400000
/-- The first k of xs, behind them what ys has. -/
def mixI (xs ys : List Int) (k : Nat) : List Int := xs.take k ++ ys.drop k
theorem mixI_zero (xs ys : List Int) : mixI xs ys 0 = ys := by simp [mixI]
theorem mixI_len (xs ys : List Int) (k n : Nat) (h1 : xs.length = n) (h2 : ys.length = n) : (mixI xs ys k).length = n := by simp [mixI]; omega
theorem mixI_all (xs ys : List Int) (n : Nat) (h1 : xs.length = n) (h2 : ys.length = n) : mixI xs ys n = xs := by
  unfold mixI
  rw [List.take_of_length_le (by omega), List.drop_of_length_le (by omega), List.append_nil]
theorem mixI_set (xs ys : List Int) (k n : Nat) (h1 : xs.length = n) (h2 : ys.length = n) (h : k < n) : (mixI xs ys k).set k (nth xs k) = mixI xs ys (k + 1) := by
  have hl : (xs.take k).length = k := by simp; omega
  have hk' : k < ys.length := by omega
  have hk : k < xs.length := by omega
  unfold mixI
  rw [List.drop_eq_getElem_cons hk', List.set_append_right _ _ (by omega), hl, Nat.sub_self, List.set_cons_zero, List.take_succ_eq_append_getElem hk, nth_eq _ _ hk, List.append_assoc]
  rfl
theorem mixI_spl (xs ys : List Int) (k m n : Nat) (h1 : xs.length = n) (h2 : ys.length = n) (h : k + m ≤ n) : spl (mixI xs ys k) k (sub xs k m) = mixI xs ys (k + m) := by
  have hs := sub_len xs k m (by omega)
  have hl := mixI_len xs ys k n h1 h2
  refine ext_nth (by rw [spl_len (by omega), hl, mixI_len _ _ _ n h1 h2]) fun j hj => ?_
  have hm : ∀ q i, i < n → nth (mixI xs ys q) i = if i < q then nth xs i else nth ys i := by
    intro q i hi
    unfold mixI nth
    by_cases hiq : i < q
    · rw [if_pos hiq, List.getD_eq_getElem?_getD, List.getElem?_append_left (by simp; omega), List.getElem?_take_of_lt hiq, ← List.getD_eq_getElem?_getD]
    · rw [if_neg hiq, List.getD_eq_getElem?_getD]
      by_cases hqn : q ≤ n
      · rw [List.getElem?_append_right (by simp; omega), List.getElem?_drop, ← List.getD_eq_getElem?_getD]
        congr 1
        simp; omega
      · omega
  have hjn : j < n := by rw [spl_len (by omega), hl] at hj; exact hj
  rw [hm _ _ hjn]
  by_cases h3 : k ≤ j ∧ j < k + m
  · rw [nth_spl_in (by omega) h3.1 (by omega), nth_sub _ _ _ _ (by omega), if_pos (by omega)]
    congr 1; omega
  · rw [nth_spl_out (by omega) (by omega), hm _ _ hjn]
    by_cases h4 : j < k
    · rw [if_pos h4, if_pos (by omega)]
    · rw [if_neg h4, if_neg (by omega)]
theorem blk_set2 {w : World} {b : Nat} {x y x' y' : Value} {T : TypeId} (h : w.heap[b]? = some (.cells #[x, y] T (0, 0))) : ((w.setCell ⟨b, 0, none⟩ x').setCell ⟨b, 1, none⟩ y').heap[b]? = some (.cells #[x', y'] T (0, 0)) := by
  have h1 := heap_setCell_same w b 0 _ _ x' h
  have h2 := heap_setCell_same _ b 1 _ _ y' h1
  simpa using h2
set_option maxRecDepth 100000 in
theorem toIntA4_any (zs : List Int) (w : World) (hl : zs.length = 4) :
    Calls Tryd.prog 56 #[.agg (ic zs)] w fun e w' => e = .returned (.agg (ic zs)) ∧ Ext w w' := by
  have Hl := Lib.hid hl
  clear hl
  go_enter Tryd.func56, Tryd.ntmps56
  go_wp2
  have a1 := Ext.alloc w (.cells (ic zs) 24)
  have a2 := Ext.alloc (w.alloc (.cells (ic zs) 24)) (.cells (ic (List.replicate 4 0)) 24)
  have a3 := Ext.alloc ((w.alloc (.cells (ic zs) 24)).alloc (.cells (ic (List.replicate 4 0)) 24)) (.cells (ic (List.replicate 4 0)) 24)
  have p0 := ((IB.new w 24 zs).ext a2).ext a3
  have p1 := (IB.new (w.alloc (.cells (ic zs) 24)) 24 (List.replicate 4 0)).ext a3
  have p2 := IB.new ((w.alloc (.cells (ic zs) 24)).alloc (.cells (ic (List.replicate 4 0)) 24)) 24 (List.replicate 4 0)
  have E1 := (a1.trans a2).trans a3
  simp only [World.size_alloc] at p1 p2
  clear a1 a2 a3
  go_loopw [4] (fun i wr => ∃ k : Nat, k ≤ 4 ∧ i = .int .i64 k ∧ Ext w wr ∧ IB wr w.heap.size 24 zs ∧ IB wr (w.heap.size + 1) 24 (List.replicate 4 0) ∧ IB wr (w.heap.size + 1 + 1) 24 (mixI zs (List.replicate 4 0) k)) (fun i _ => 4 - (intOf i).toNat)
  case atStart => exact ⟨0, by omega, rfl, E1, p0, p1, by rw [mixI_zero]; exact p2⟩
  case round =>
    obtain ⟨k, hk, rfl, E2, q0, q1, q2⟩ := hrel
    clear p0 p1 p2 E1
    by_cases hlt : k < 4
    · have c0 := q0.cell (i := k) (by rw [Hl.out]; exact hlt)
      have c2 := q2.cell (i := k) (by rw [mixI_len _ _ _ 4 Hl.out (by simp)]; exact hlt)
      have f2 := q2.frozen k
      go_wp2
      go_roundw
      case rel => exact ⟨k + 1, by omega, by go_num, Ext.grown E2 (gr_set _ _ _ _) (fun q hq => by cases hq; omega), q0.set_other (by omega), q1.set_other (by omega), by rw [← mixI_set zs _ k 4 Hl.out (by simp) hlt]; exact q2.set k _⟩
      case measure => simp [intOf]; omega
    · obtain rfl : k = 4 := by omega
      rw [mixI_all _ _ 4 Hl.out (by simp)] at q2
      go_wp2_with (first | (refine wpList_iload 24 _ rfl rfl q2 0 4 rfl _ Tryd.underlying24 rfl size_A4 (by rw [Hl.out]; omega) _ (by rw [sub_all _ _ Hl.out]) ?_) | (refine wpList_istore 24 _ _ rfl rfl q1 0 4 rfl _ rfl _ rfl size_A4 Hl.out (by simp) ?_; intro w6 p6 g6; refine Hid.out ?_))
      rw [spl_all (by rw [Hl.out]; simp)] at p6
      have E6 : Ext w w6 := Ext.grown E2 g6 (fun q hq => by cases hq; omega)
      refine Lib.hid ?_
      go_wp2
      exact bodyPost_ret (v := .agg (ic zs)) (results_cell_row rfl _ _ (w.heap.size + 1) 24 (ic zs) (0, 0) _ rfl p6 Tryd.underlying24 rfl (by rw [ic_size, Hl.out]; exact size_A4)) rfl ⟨rfl, E6⟩
set_option maxRecDepth 100000 in
theorem toIntA16_any (zs : List Int) (w : World) (hl : zs.length = 16) :
    Calls Tryd.prog 100 #[.agg (ic zs)] w fun e w' => e = .returned (.agg (ic zs)) ∧ Ext w w' := by
  have Hl := Lib.hid hl
  clear hl
  go_enter Tryd.func100, Tryd.ntmps100
  go_wp2
  have a1 := Ext.alloc w (.cells (ic zs) 25)
  have a2 := Ext.alloc (w.alloc (.cells (ic zs) 25)) (.cells (ic (List.replicate 16 0)) 25)
  have a3 := Ext.alloc ((w.alloc (.cells (ic zs) 25)).alloc (.cells (ic (List.replicate 16 0)) 25)) (.cells (ic (List.replicate 16 0)) 25)
  have p0 := ((IB.new w 25 zs).ext a2).ext a3
  have p1 := (IB.new (w.alloc (.cells (ic zs) 25)) 25 (List.replicate 16 0)).ext a3
  have p2 := IB.new ((w.alloc (.cells (ic zs) 25)).alloc (.cells (ic (List.replicate 16 0)) 25)) 25 (List.replicate 16 0)
  have E1 := (a1.trans a2).trans a3
  simp only [World.size_alloc] at p1 p2
  clear a1 a2 a3
  go_loopw [4] (fun i wr => ∃ k : Nat, k ≤ 16 ∧ i = .int .i64 k ∧ Ext w wr ∧ IB wr w.heap.size 25 zs ∧ IB wr (w.heap.size + 1) 25 (List.replicate 16 0) ∧ IB wr (w.heap.size + 1 + 1) 25 (mixI zs (List.replicate 16 0) k)) (fun i _ => 16 - (intOf i).toNat)
  case atStart => exact ⟨0, by omega, rfl, E1, p0, p1, by rw [mixI_zero]; exact p2⟩
  case round =>
    obtain ⟨k, hk, rfl, E2, q0, q1, q2⟩ := hrel
    clear p0 p1 p2 E1
    by_cases hlt : k < 16
    · have c0 := q0.cell (i := k) (by rw [Hl.out]; exact hlt)
      have c2 := q2.cell (i := k) (by rw [mixI_len _ _ _ 16 Hl.out (by simp)]; exact hlt)
      have f2 := q2.frozen k
      go_wp2
      go_roundw
      case rel => exact ⟨k + 1, by omega, by go_num, Ext.grown E2 (gr_set _ _ _ _) (fun q hq => by cases hq; omega), q0.set_other (by omega), q1.set_other (by omega), by rw [← mixI_set zs _ k 16 Hl.out (by simp) hlt]; exact q2.set k _⟩
      case measure => simp [intOf]; omega
    · obtain rfl : k = 16 := by omega
      rw [mixI_all _ _ 16 Hl.out (by simp)] at q2
      go_wp2_with (first | (refine wpList_iload 25 _ rfl rfl q2 0 16 rfl _ Tryd.underlying25 rfl size_A16 (by rw [Hl.out]; omega) _ (by rw [sub_all _ _ Hl.out]) ?_) | (refine wpList_istore 25 _ _ rfl rfl q1 0 16 rfl _ rfl _ rfl size_A16 Hl.out (by simp) ?_; intro w6 p6 g6; refine Hid.out ?_))
      rw [spl_all (by rw [Hl.out]; simp)] at p6
      have E6 : Ext w w6 := Ext.grown E2 g6 (fun q hq => by cases hq; omega)
      refine Lib.hid ?_
      go_wp2
      exact bodyPost_ret (v := .agg (ic zs)) (results_cell_row rfl _ _ (w.heap.size + 1) 25 (ic zs) (0, 0) _ rfl p6 Tryd.underlying25 rfl (by rw [ic_size, Hl.out]; exact size_A16)) rfl ⟨rfl, E6⟩
set_option maxRecDepth 100000 in
theorem toIntA16A4_any (zs : List Int) (w : World) (hl : zs.length = 64) :
    Calls Tryd.prog 57 #[.agg (ic zs)] w fun e w' => e = .returned (.agg (ic zs)) ∧ Ext w w' := by
  have Hl := Lib.hid hl
  clear hl
  go_enter Tryd.func57, Tryd.ntmps57
  go_wp2
  have a1 := Ext.alloc w (.cells (ic zs) 26)
  have a2 := Ext.alloc (w.alloc (.cells (ic zs) 26)) (.cells (ic (List.replicate 64 0)) 26)
  have a3 := Ext.alloc ((w.alloc (.cells (ic zs) 26)).alloc (.cells (ic (List.replicate 64 0)) 26)) (.cells (ic (List.replicate 64 0)) 26)
  have p0 := ((IB.new w 26 zs).ext a2).ext a3
  have p1 := (IB.new (w.alloc (.cells (ic zs) 26)) 26 (List.replicate 64 0)).ext a3
  have p2 := IB.new ((w.alloc (.cells (ic zs) 26)).alloc (.cells (ic (List.replicate 64 0)) 26)) 26 (List.replicate 64 0)
  have E1 := (a1.trans a2).trans a3
  simp only [World.size_alloc] at p1 p2
  clear a1 a2 a3
  go_loopw [4] (fun i wr => ∃ k : Nat, k ≤ 4 ∧ i = .int .i64 k ∧ Ext w wr ∧ IB wr w.heap.size 26 zs ∧ IB wr (w.heap.size + 1) 26 (List.replicate 64 0) ∧ IB wr (w.heap.size + 1 + 1) 26 (mixI zs (List.replicate 64 0) (k * 16))) (fun i _ => 4 - (intOf i).toNat)
  case atStart => exact ⟨0, by omega, rfl, E1, p0, p1, by rw [Nat.zero_mul, mixI_zero]; exact p2⟩
  case round =>
    obtain ⟨k, hk, rfl, E2, q0, q1, q2⟩ := hrel
    clear p0 p1 p2 E1
    by_cases hlt : k < 4
    · have Hbl := Lib.hid (sub_len zs (k * 16) 16 (by rw [Hl.out]; omega))
      have Hml := Lib.hid (mixI_len zs (List.replicate 64 0) (k * 16) 64 Hl.out (by simp))
      go_wp2_with (refine wpList_iload 25 _ rfl rfl q0 (k * 16) 16 rfl _ Tryd.underlying25 rfl size_A16 (by rw [Hl.out]; omega) _ rfl ?_)
      refine (toIntA16_any _ _ Hbl.out).mono ?_
      rintro e w5 ⟨rfl, e5⟩
      have E5 := E2.trans e5
      have r0 := q0.ext e5
      have r1 := q1.ext e5
      have r2 := q2.ext e5
      clear E2 q0 q1 q2 e5
      go_wp2_with (refine wpList_istore 25 _ _ rfl rfl r2 (k * 16) 16 rfl _ rfl _ rfl size_A16 Hbl.out (by rw [Hml.out]; omega) ?_; intro w6 p6 g6; refine Hid.out ?_)
      rw [mixI_spl zs _ (k * 16) 16 64 Hl.out (by simp) (by omega), show k * 16 + 16 = (k + 1) * 16 by omega] at p6
      have E6 : Ext w w6 := Ext.grown E5 g6 (fun q hq => by cases hq; omega)
      have s0 := r0.gr g6 (by simp; omega)
      have s1 := r1.gr g6 (by simp)
      clear E5 r0 r1 r2 g6
      refine Lib.hid ?_
      go_wp2
      go_roundw
      case rel => exact ⟨k + 1, by omega, by go_num, E6, s0, s1, p6⟩
      case measure => simp [intOf]; omega
    · obtain rfl : k = 4 := by omega
      rw [show 4 * 16 = 64 from rfl, mixI_all _ _ 64 Hl.out (by simp)] at q2
      go_wp2_with (first | (refine wpList_iload 26 _ rfl rfl q2 0 64 rfl _ Tryd.underlying26 rfl size_A16A4 (by rw [Hl.out]; omega) _ (by rw [sub_all _ _ Hl.out]) ?_) | (refine wpList_istore 26 _ _ rfl rfl q1 0 64 rfl _ rfl _ rfl size_A16A4 Hl.out (by simp) ?_; intro w6 p6 g6; refine Hid.out ?_))
      rw [spl_all (by rw [Hl.out]; simp)] at p6
      have E6 : Ext w w6 := Ext.grown E2 g6 (fun q hq => by cases hq; omega)
      refine Lib.hid ?_
      go_wp2
      exact bodyPost_ret (v := .agg (ic zs)) (results_cell_row rfl _ _ (w.heap.size + 1) 26 (ic zs) (0, 0) _ rfl p6 Tryd.underlying26 rfl (by rw [ic_size, Hl.out]; exact size_A16A4)) rfl ⟨rfl, E6⟩
set_option maxRecDepth 100000 in
theorem toVector_any (x y : Int) (w : World) :
    Calls Tryd.prog 55 #[.agg #[.int .i64 x, .int .i64 y]] w fun e w' => e = .returned (.agg #[.int .i64 x, .int .i64 y]) ∧ Ext w w' := by
  go_enter Tryd.func55, Tryd.ntmps55
  go_wp2
  have p1 := blk_alloc (blk_new (w.alloc (.cells #[.int .i64 x, .int .i64 y] 23)) (.cells #[.int .i64 x, .int .i64 y] 31)) (.cells #[.int .i64 x, .int .i64 y] 31)
  simp only [World.size_alloc] at p1
  refine bodyPost_ret (v := .agg #[.int .i64 x, .int .i64 y]) (results_cell_row rfl _ _ (w.heap.size + 1) 31 #[.int .i64 x, .int .i64 y] (0, 0) _ rfl p1 Tryd.underlying31 rfl size_Vector) rfl ⟨rfl, ?_⟩
  (repeat (first | with_reducible exact Below.refl _ _ | assumption | with_reducible refine below_drewN ?_ _ | with_reducible refine Below.drew ?_ | with_reducible refine Below.setCell ?_ (by simp <;> omega) _ | with_reducible refine Ext.trans ?_ (Ext.alloc _ _)))
end Go.Proofs.YtlmoeabchiddnaaDoor
