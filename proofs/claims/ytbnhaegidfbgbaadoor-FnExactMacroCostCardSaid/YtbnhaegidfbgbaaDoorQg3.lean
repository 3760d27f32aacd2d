/- The scan order and the runs: the reference. | The runs of a block and their decisions: the reference. | The decisions for a block: the reference. | MacroValid: the reference's. | The decisions for a macroblock: the reference. | The decisions for a macroblock: the reference, intra. | A region whose operations may come in any order, the invariant told which of them have run; the same within a round of a range over a function. -/
import Derived.Test.YtbnhaegidfbgbaaDoorQg2
import Derived.OrdersIn
namespace Go.Proofs.YtbnhaegidfbgbaaDoor
open Go.RowKit
set_option maxHeartbeats 1000000
/-- Diagonal d, its first j candidates, behind l. -/
def spY (d j : Nat) : Nat := if d % 2 = 0 then 3 - j else j
def spIn (d : Nat) (l : List Int) : Nat → List Int
 | 0 => l
 | j + 1 => if spY d j ≤ d ∧ d - spY d j ≤ 3 then spIn d l j ++ [4 * (spY d j : Int) + d - (spY d j : Int)] else spIn d l j
def spOut : Nat → List Int
 | 0 => []
 | d + 1 => spIn d (spOut d) 4
theorem spOut_all : spOut 7 = scanL := by decide
theorem sp_len : ∀ d, d < 7 → ∀ j, j ≤ 4 → (spIn d (spOut d) j).length ≤ 16 := by decide
theorem info_intU : (Tryd.prog.info? 3).map (fun i => (i.zero, i.size, i.bytes)) = some (some (.int .i64 0), 1, 8) := by kernel_rfl
theorem info_Run : (Tryd.prog.info? 148).map (fun i => (i.zero, i.size, i.bytes)) = some (some (.agg #[.int .i64 0, .int .i64 0]), 2, 16) := by kernel_rfl
set_option maxRecDepth 100000 in
theorem spec_ScanOrder_any (w : World) :
 Calls Tryd.prog 150 #[] w fun e w' => ∃ a c, e = .returned (.slice a 16 c) ∧ w'.ownsRow w.heap.size 3 1 (.slice a 16 c) 16 (scanL.map (Value.int .i64)) ∧ Ext w w' := by
 obtain ⟨W, hW⟩ : ∃ W, W = w.heap.size := ⟨_, rfl⟩
 have F0 : FR w.heap.size 3 w (w.alloc (.cells #[] 3)) := FR.of_ext (Ext.alloc w _) (Nat.le_refl _)
 have o0 := World.ownsRow_made (base := w.heap.size) (e := 3) (size := 1) w #[] 0 (Nat.le_refl _) (by simp) rfl
 rw [← hW] at F0 o0 ⊢
 have hWw : W ≤ w.heap.size := by omega
 have HW := Lib.hid hW
 go_enter Tryd.func150, Tryd.ntmps150
 go_wp2_with fail
 rw [← hW]
 clear hW
 go_loopw [1, 2] (fun v y wr => ∃ d : Nat, d ≤ 7 ∧ y = .int .i64 d ∧ wr.ownsRow W 3 1 v (spOut d).length ((spOut d).map (Value.int .i64)) ∧ FR W 3 w wr) (fun _ y _ => 7 - (intOf y).toNat)
 case atStart => exact ⟨0, by omega, rfl, by simpa [spOut] using o0, F0⟩
 case round =>
  obtain ⟨d, hd, rfl, o1, F1⟩ := hrel
  clear o0 F0
  obtain ⟨a1, c1, rfl⟩ := owns_form o1
  by_cases hlt : d < 7
  ·have hd7 : decide ((d : Int) < 7) = true := by simp; omega
   go_wp2_with fail
   go_loopw [1, 3] (fun v y wr => ∃ j : Nat, j ≤ 4 ∧ y = .int .i64 j ∧ wr.ownsRow W 3 1 v (spIn d (spOut d) j).length ((spIn d (spOut d) j).map (Value.int .i64)) ∧ FR W 3 w wr) (fun _ y _ => 4 - (intOf y).toNat)
   case atStart => exact ⟨0, by omega, rfl, o1, F1⟩
   case round =>
    obtain ⟨j, hj, rfl, o2, F2⟩ := hrel
    clear o1 F1
    obtain ⟨a2, c2, rfl⟩ := owns_form o2
    have hB2 := Nat.le_trans hWw F2.size
    by_cases hlt2 : j < 4
    ·have hd4 : decide ((j : Int) < 4) = true := by simp; omega
     have hln := sp_len d hlt j (by omega)
     have HST := Lib.hid (show spIn d (spOut d) (j + 1) = if spY d j ≤ d ∧ d - spY d j ≤ 3 then spIn d (spOut d) j ++ [4 * (spY d j : Int) + d - (spY d j : Int)] else spIn d (spOut d) j from rfl)
     obtain ⟨L, hL⟩ : ∃ L, L = spIn d (spOut d) j := ⟨_, rfl⟩
     rw [← hL] at HST o2 hln ⊢
     have hyr : spY d j ≤ 3 := by unfold spY; split <;> omega
     have hyd : (d % 2 = 0 ∧ spY d j = 3 - j) ∨ (d % 2 = 1 ∧ spY d j = j) := by
      unfold spY
      by_cases h : d % 2 = 0
      ·rw [if_pos h]; exact .inl ⟨h, rfl⟩
      ·rw [if_neg h]; exact .inr ⟨by omega, rfl⟩
     generalize spY d j = y at *
     clear hL
     rcases hyd with ⟨he, rfl⟩ | ⟨he, rfl⟩
     ·have hdm : ((d : Int).tmod 2 == 0) = true := by
       rw [Int.tmod_eq_emod_of_nonneg (by omega)]; simp; omega
      go_wp2_with fail
      by_cases hin : 3 - j ≤ d ∧ d - (3 - j) ≤ 3
      ·refine (l1In_yes ((d : Int) - (3 - (j : Int))) 0 3 _ (by omega) (by omega)).mono ?_
       rintro e w3 ⟨rfl, rfl⟩
       go_wp2_with (at_builtin; refine wpList_app _ o2 hB2 _ rfl _ _ 23 rfl (.int .i64 0) 8 Tryd.underlying23 info_intU rfl rfl rfl rfl (by omega) (by omega) ?_; intro v3 w3 own3 gr3 _; refine Hid.out ?_)
       refine Lib.hid ?_
       obtain ⟨a3, c3, rfl⟩ := owns_form own3
       have F3 := F2.trans (FR.of_row o2 gr3 hB2)
       have HN := Lib.hid (show spIn d (spOut d) (j + 1) = L ++ [4 * (3 - (j : Int)) + d - (3 - (j : Int))] by rw [HST.out, if_pos hin]; congr 2; omega)
       clear HST
       go_wp2
       go_roundw
       case rel => exact ⟨j + 1, by omega, by go_num, by rw [HN.out, List.length_append, List.map_append]; exact own3, F3⟩
       case measure => simp [intOf] <;> omega
      ·refine (l1In_no ((d : Int) - (3 - (j : Int))) 0 3 _ (by omega)).mono ?_
       rintro e w3 ⟨rfl, rfl⟩
       have HN := Lib.hid (show spIn d (spOut d) (j + 1) = L by rw [HST.out, if_neg hin])
       clear HST
       go_wp2
       go_roundw
       case rel => exact ⟨j + 1, by omega, by go_num, by rw [HN.out]; exact o2, F2⟩
       case measure => simp [intOf] <;> omega
     ·have hdm : ((d : Int).tmod 2 == 0) = false := by
       rw [Int.tmod_eq_emod_of_nonneg (by omega)]; simp; omega
      go_wp2_with fail
      by_cases hin : y ≤ d ∧ d - y ≤ 3
      ·refine (l1In_yes ((d : Int) - (y : Int)) 0 3 _ (by omega) (by omega)).mono ?_
       rintro e w3 ⟨rfl, rfl⟩
       go_wp2_with (at_builtin; refine wpList_app _ o2 hB2 _ rfl _ _ 23 rfl (.int .i64 0) 8 Tryd.underlying23 info_intU rfl rfl rfl rfl (by omega) (by omega) ?_; intro v3 w3 own3 gr3 _; refine Hid.out ?_)
       refine Lib.hid ?_
       obtain ⟨a3, c3, rfl⟩ := owns_form own3
       have F3 := F2.trans (FR.of_row o2 gr3 hB2)
       have HN := Lib.hid (show spIn d (spOut d) (y + 1) = L ++ [4 * (y : Int) + d - (y : Int)] by rw [HST.out, if_pos hin])
       clear HST
       go_wp2
       go_roundw
       case rel => exact ⟨y + 1, by omega, by go_num, by rw [HN.out, List.length_append, List.map_append]; exact own3, F3⟩
       case measure => simp [intOf] <;> omega
      ·refine (l1In_no ((d : Int) - (y : Int)) 0 3 _ (by omega)).mono ?_
       rintro e w3 ⟨rfl, rfl⟩
       have HN := Lib.hid (show spIn d (spOut d) (y + 1) = L by rw [HST.out, if_neg hin])
       clear HST
       go_wp2
       go_roundw
       case rel => exact ⟨y + 1, by omega, by go_num, by rw [HN.out]; exact o2, F2⟩
       case measure => simp [intOf] <;> omega
    ·have HJ := Lib.hid (show j = 4 by omega)
     have hd4 : decide ((j : Int) < 4) = false := by simp; omega
     have HO := Lib.hid (show spIn d (spOut d) j = spOut (d + 1) by rw [HJ.out]; rfl)
     rw [HO.out] at o2 ⊢
     go_wp2
     go_roundw
     case rel => exact ⟨d + 1, by omega, by go_num, o2, F2⟩
     case measure => simp [intOf] <;> omega
  ·have HD := Lib.hid (show d = 7 by omega)
   have hd7 : decide ((d : Int) < 7) = false := by simp; omega
   have HO := Lib.hid (show spOut d = scanL by rw [HD.out]; exact spOut_all)
   rw [HO.out, show scanL.length = 16 from rfl] at o1 ⊢
   go_wp2
   go_ret
   exact ⟨_, _, rfl, o1, by show Below w.heap.size w wr; rw [← HW.out]; exact F1.lo⟩
end Go.Proofs.YtbnhaegidfbgbaaDoor
namespace Go.Proofs.YtbnhaegidfbgbaaDoor
open Go.RowKit
set_option maxHeartbeats 1000000
theorem FR.owns {b0 T U b s n : Nat} {v : Value} {xs : List Value} {w w' : World} (f : FR b0 T w w') (h : w.ownsRow b U s v n xs) (hne : U ≠ T) : w'.ownsRow b U s v n xs := by
 refine ⟨h.1, ?_⟩
 rcases h.2 with h2 | ⟨g, cap, cur, hv, hb, hg, rest⟩
 ·exact .inl h2
 ·exact .inr ⟨g, cap, cur, hv, hb, f.blk hg hne, rest⟩
theorem own_ptr {w : World} {b U s n : Nat} {a : Option Addr} {c : Nat} {xs : List Value} (h : w.ownsRow b U s (.slice a n c) n xs) (hn : 0 < n) : ∃ g, a = some ⟨g, 0, none⟩ := by
 rcases h.2 with ⟨-, h0⟩ | ⟨g, cap, cur, hv, -⟩
 ·omega
 ·simp only [Value.slice.injEq] at hv
  exact ⟨g, hv.1⟩
theorem one_ints (zs : List Int) : ∀ u ∈ zs.map (Value.int .i64), u.oneCell' = true := by
 intro u hu
 obtain ⟨z, -, rfl⟩ := List.mem_map.1 hu
 rfl
theorem run_new (w : World) (c b : Int) : Sl (w.alloc (.cells #[.int .i64 c, .int .i64 b] 148)) (some ⟨w.heap.size, 0, none⟩) 2 [.int .i64 c, .int .i64 b] := Sl_new w [.int .i64 c, .int .i64 b] 148
/-- Runs as numbers. -/
def flatR (l : List (Int × Int)) : List Int := l.flatMap fun r => [r.1, r.2]
theorem flatR_snoc (l : List (Int × Int)) (r : Int × Int) : flatR (l ++ [r]) = flatR l ++ [r.1, r.2] := by simp [flatR]
theorem flatR_len : ∀ l : List (Int × Int), (flatR l).length = l.length * 2
 | [] => rfl
 | r :: l => by
  have := flatR_len l
  simp only [flatR, List.flatMap_cons, List.length_append, List.length_cons, List.length_nil] at this ⊢
  omega
theorem nth_flatR : ∀ (l : List (Int × Int)) (k : Nat), k < l.length → nth (flatR l) (k * 2) = (l.getD k (0, 0)).1 ∧ nth (flatR l) (k * 2 + 1) = (l.getD k (0, 0)).2
 | [], k, h => by simp at h
 | r :: l, 0, _ => ⟨rfl, rfl⟩
 | r :: l, k + 1, h => by
  have ih := nth_flatR l k (by simpa using h)
  have e : flatR (r :: l) = r.1 :: r.2 :: flatR l := rfl
  rw [e, show (k + 1) * 2 = k * 2 + 1 + 1 by omega]
  exact ih
/-- The runs' numbers are in range. -/
theorem runT_rng {zs : List Int} {Bd : Int} (hl : zs.length = 16) (hB : bdI Bd zs) : ∀ k, k ≤ 16 → ∀ j, j < (runT zs k).2.length → 0 ≤ ((runT zs k).2.getD j (0, 0)).1 ∧ ((runT zs k).2.getD j (0, 0)).1 ≤ 15 ∧ ((runT zs k).2.getD j (0, 0)).2 ≠ 0 ∧ -Bd ≤ ((runT zs k).2.getD j (0, 0)).2 ∧ ((runT zs k).2.getD j (0, 0)).2 ≤ Bd
 | 0, _, j, h => by simp [runT] at h
 | k + 1, hk, j, h => by
  have ih := runT_rng hl hB k (by omega)
  have hz := runT_le zs k
  unfold runT at h ⊢
  by_cases h0 : nth zs (nth scanL k).toNat = 0
  ·rw [if_pos h0] at h ⊢
   exact ih j h
  ·rw [if_neg h0] at h ⊢
   simp only [List.length_append, List.length_cons, List.length_nil] at h
   by_cases hj : j < (runT zs k).2.length
   ·have e : ((runT zs k).2 ++ [(((runT zs k).1 : Int), nth zs (nth scanL k).toNat)]).getD j (0, 0) = (runT zs k).2.getD j (0, 0) := by
     simp [List.getD, List.getElem?_append_left hj]
    rw [e]
    exact ih j hj
   ·have hj2 : j = (runT zs k).2.length := by omega
    have e : ((runT zs k).2 ++ [(((runT zs k).1 : Int), nth zs (nth scanL k).toNat)]).getD j (0, 0) = (((runT zs k).1 : Int), nth zs (nth scanL k).toNat) := by
     rw [hj2]; simp [List.getD]
    obtain ⟨s0, s1⟩ := scan_rng k (by omega)
    have hb := hB (nth scanL k).toNat (by omega)
    rw [e]
    exact ⟨by omega, by omega, h0, hb.1, hb.2⟩
/-- The decisions for a block: the first k runs. -/
def bkL (zs : List Int) : Nat → List Int
 | 0 => numL (runsL zs).length 16
 | k + 1 => bkL zs k ++ (numL ((runsL zs).getD k (0, 0)).1.toNat 23 ++ numL (sidx ((runsL zs).getD k (0, 0)).2 - 1).toNat 30)
def bkN (zs : List Int) : Nat → Nat
 | 0 => numN (runsL zs).length
 | k + 1 => bkN zs k + (numN ((runsL zs).getD k (0, 0)).1.toNat + numN (sidx ((runsL zs).getD k (0, 0)).2 - 1).toNat)
/-- The decisions for a block. -/
def blkB (zs : List Int) : List Int := bkL zs (runsL zs).length
def blkC (zs : List Int) : Nat := bkN zs (runsL zs).length
theorem runL_rng {zs : List Int} (hl : zs.length = 16) (hB : bdI 4080 zs) {k : Nat} (hk : k < (runsL zs).length) : ∃ z s : Nat, ((runsL zs).getD k (0, 0)).1 = z ∧ z ≤ 15 ∧ sidx ((runsL zs).getD k (0, 0)).2 - 1 = s ∧ s ≤ 8160 ∧ -4080 ≤ ((runsL zs).getD k (0, 0)).2 ∧ ((runsL zs).getD k (0, 0)).2 ≤ 4080 := by
 obtain ⟨h1, h2, h3, h4, h5⟩ := runT_rng hl hB 16 (Nat.le_refl _) k hk
 show ∃ z s : Nat, ((runT zs 16).2.getD k (0, 0)).1 = z ∧ z ≤ 15 ∧ sidx ((runT zs 16).2.getD k (0, 0)).2 - 1 = s ∧ s ≤ 8160 ∧ -4080 ≤ ((runT zs 16).2.getD k (0, 0)).2 ∧ ((runT zs 16).2.getD k (0, 0)).2 ≤ 4080
 generalize (runT zs 16).2.getD k (0, 0) = r at *
 refine ⟨r.1.toNat, (sidx r.2 - 1).toNat, by omega, by omega, ?_, ?_, h4, h5⟩
 ·unfold sidx; split <;> omega
 ·unfold sidx; split <;> omega
theorem bkN_le {zs : List Int} (hl : zs.length = 16) (hB : bdI 4080 zs) : ∀ k, k ≤ (runsL zs).length → bkN zs k ≤ 31 + k * 62
 | 0, _ => by have := runsL_len zs; exact numN_le (by omega)
 | k + 1, hk => by
  have ih := bkN_le hl hB k (by omega)
  obtain ⟨z, s, e1, h1, e2, h2, -, -⟩ := runL_rng hl hB (show k < (runsL zs).length by omega)
  have q1 : numN ((runsL zs).getD k (0, 0)).1.toNat ≤ 31 := numN_le (by omega)
  have q2 : numN (sidx ((runsL zs).getD k (0, 0)).2 - 1).toNat ≤ 31 := numN_le (by omega)
  rw [bkN]
  omega
theorem blkC_le {zs : List Int} (hl : zs.length = 16) (hB : bdI 4080 zs) : blkC zs ≤ 1023 := by
 have h1 := bkN_le hl hB _ (Nat.le_refl _)
 have h2 := runsL_len zs
 unfold blkC
 omega
set_option maxRecDepth 100000 in
theorem spec_RunsOf_any (zs : List Int) (w : World) (hl : zs.length = 16) :
 Calls Tryd.prog 145 #[.agg (ic zs)] w fun e w' => ∃ a c, e = .returned (.slice a (runsL zs).length c) ∧ w'.ownsRow w.heap.size 148 2 (.slice a (runsL zs).length c) (runsL zs).length ((flatR (runsL zs)).map (Value.int .i64)) ∧ Ext w w' := by
 have Hl := Lib.hid hl
 obtain ⟨Bx, hBx⟩ : ∃ Bx, Bx = w.heap.size := ⟨_, rfl⟩
 have E0 := (Ext.alloc w (.cells (ic zs) 31)).trans (Ext.alloc _ (.cells #[] 148))
 have I0 := (IB.new w 31 zs).alloc (.cells #[] 148)
 have o0 := World.ownsRow_made (base := Bx + 1) (e := 148) (size := 2) (w.alloc (.cells (ic zs) 31)) #[] 0 (by simp [hBx]) (by simp) rfl
 have z0 : Bx + 1 ≤ ((w.alloc (.cells (ic zs) 31)).alloc (.cells #[] 148)).heap.size := by simp [hBx]
 rw [World.size_alloc] at o0
 rw [← hBx] at I0 o0
 have HB := Lib.hid hBx
 clear hl
 go_enter Tryd.func145, Tryd.ntmps145
 go_wp2_with fail
 try simp only [World.size_alloc]
 rw [← hBx]
 clear hBx
 generalize (w.alloc (.cells (ic zs) 31)).alloc (.cells #[] 148) = w1 at *
 refine (spec_ScanOrder_any _).mono ?_
 rintro e w2 ⟨ga, gc, rfl, og, e2⟩
 obtain ⟨g, rfl⟩ := own_ptr og (by omega)
 have I2 := I0.ext e2
 have o2 := owns_ext o0 e2
 have E2 := E0.trans e2
 have z2 := Nat.le_trans z0 e2.size
 have F2 := FR.refl (Bx + 1) 148 w2
 have oz := World.ownsRow_nil w2 0 3 1
 clear I0 o0 E0 z0 e2
 go_wp2_with fail
 go_loopw [3, 5, 6] (fun v zr y wr => ∃ k : Nat, k ≤ 16 ∧ y = .int .i64 k ∧ zr = .int .i64 ((runT zs k).1 : Nat) ∧ wr.ownsRow (Bx + 1) 148 2 v (runT zs k).2.length ((flatR (runT zs k).2).map (Value.int .i64)) ∧ FR (Bx + 1) 148 w2 wr) (fun _ _ y _ => 16 - (intOf y).toNat)
 case atStart => exact ⟨0, by omega, rfl, rfl, o2, F2⟩
 case round =>
  obtain ⟨k, hk, rfl, rfl, o3, F3⟩ := hrel
  clear o2 F2
  obtain ⟨a3, c3, rfl⟩ := owns_form o3
  have hB3 := Nat.le_trans z2 F3.size
  by_cases hlt : k < 16
  ·have hd : decide ((k : Int) < 16) = true := by simp; omega
   obtain ⟨s0, s1⟩ := scan_rng k hlt
   have HST := Lib.hid (show runT zs (k + 1) = if nth zs (nth scanL k).toNat = 0 then ((runT zs k).1 + 1, (runT zs k).2) else (0, (runT zs k).2 ++ [(((runT zs k).1 : Int), nth zs (nth scanL k).toNat)]) from rfl)
   have hz := runT_le zs k
   have hln := runT_len zs k
   obtain ⟨q, hq⟩ : ∃ q : Nat, nth scanL k = (q : Int) := ⟨(nth scanL k).toNat, by omega⟩
   rw [hq, Int.toNat_natCast] at HST
   rw [hq] at s0 s1
   have og3 := Sl.of_owns (F3.owns og (by decide))
   obtain ⟨g1, o1, he, hcg⟩ := og3.int hlt
   rw [hq] at hcg
   cases he
   rw [Nat.zero_add] at hcg
   have hcl := (F3.ib I2 (by decide)).cell (i := q) (by rw [Hl.out]; omega)
   obtain ⟨z, hzz⟩ : ∃ z, z = (runT zs k).1 := ⟨_, rfl⟩
   obtain ⟨R, hR⟩ : ∃ R, R = (runT zs k).2 := ⟨_, rfl⟩
   rw [← hzz, ← hR] at HST
   rw [← hzz] at hz ⊢
   rw [← hR] at o3 hln ⊢
   generalize nth zs q = lv at *
   clear hzz hR hq og3
   have hq16 : (q : Int) < 16 := by omega
   by_cases h0 : lv = 0
   ·subst h0
    have HS := Lib.hid (show runT zs (k + 1) = (z + 1, R) by rw [HST.out, if_pos rfl])
    clear HST
    go_wp2
    go_roundw
    case rel => exact ⟨k + 1, by omega, by go_num, by rw [HS.out]; go_num, by rw [HS.out]; exact o3, F3⟩
    case measure => simp [intOf] <;> omega
   ·have hd0 : (lv == 0) = false := by simpa using h0
    have HS := Lib.hid (show runT zs (k + 1) = (0, R ++ [((z : Int), lv)]) by rw [HST.out, if_neg h0])
    clear HST
    go_wp2_with (at_builtin; refine wpList_appk _ rfl (o3.alloc _) (by simp; omega) _ _ 145 rfl (.agg #[.int .i64 0, .int .i64 0]) 16 Tryd.underlying145 info_Run rfl (by decide) rfl ⟨wr.heap.size, 0, none⟩ 1 1 [.int .i64 _, .int .i64 _] rfl rfl ((run_new wr _ _).cellsOf _ (by simp)) (by intro u hu; simp at hu; rcases hu with rfl | rfl <;> rfl) (by omega) (by omega) ?_; intro v2 w2 own2 gr2 _; refine Hid.out ?_)
    refine Lib.hid ?_
    obtain ⟨a4, c4, rfl⟩ := owns_form own2
    have F4 := (F3.trans (FR.of_ext (Ext.alloc wr (.cells #[_, _] 148)) hB3)).trans (FR.of_row (o3.alloc _) gr2 (by simp; omega))
    go_wp2
    go_roundw
    case rel => exact ⟨k + 1, by omega, by go_num, by rw [HS.out]; rfl, by rw [HS.out, flatR_snoc, List.length_append, List.map_append]; exact own2, F4⟩
    case measure => simp [intOf] <;> omega
  ·have HK := Lib.hid (show k = 16 by omega)
   have hd : decide ((k : Int) < 16) = false := by simp; omega
   have HR := Lib.hid (show (runT zs k).2 = runsL zs by rw [HK.out]; rfl)
   rw [HR.out] at o3 ⊢
   have hlo : Below (Bx + 1) w2 wr := F3.lo
   go_wp2
   go_ret
   exact ⟨_, _, rfl, owns_mono o3 (by have := HB.out; omega), Below.trans E2 (hlo.mono (by have := HB.out; omega))⟩
end Go.Proofs.YtbnhaegidfbgbaaDoor
namespace Go.Proofs.YtbnhaegidfbgbaaDoor
open Go.RowKit
set_option maxHeartbeats 1000000
theorem numN_pos (n : Nat) : 0 < numN n := by unfold numN; omega
/-- An entry of a row of two numbers each. -/
theorem cell2 {w : World} {b U g n c : Nat} {l : List Int} (h : w.ownsRow b U 2 (.slice (some ⟨g, 0, none⟩) n c) n (l.map (Value.int .i64))) {j : Nat} (hj : j < l.length) : w.cell? ⟨g, j, none⟩ = some (.int .i64 (nth l j)) := by
 have h1 := h.cells (g := g) rfl j (.int .i64 (nth l j)) (by rw [List.getElem?_map, List.getElem?_eq_getElem hj, nth_eq _ _ hj]; rfl)
 have e : (⟨g, 0, none⟩ : Addr).add j = ⟨g, j, none⟩ := by unfold Addr.add; split <;> simp_all
 rwa [e] at h1
theorem l10Number_at (n b : Nat) (bi : Int) (hbi : bi = (b : Int)) (w : World) (hn : n < 32768) (hb : b ≤ 100) :
 Calls Tryd.prog 138 #[.int .i64 n, .int .i64 bi] w fun e w' => ∃ a c, e = .returned (.slice a (numN n) c) ∧ w'.ownsRow w.heap.size 141 2 (.slice a (numN n) c) (numN n) ((numL n b).map (Value.int .i64)) ∧ Ext w w' := by
 subst hbi
 exact l10Number_any n b w hn hb
set_option maxRecDepth 100000 in
theorem l10Block_any (zs : List Int) (w : World) (hl : zs.length = 16) (hB : bdI 4080 zs) :
 Calls Tryd.prog 140 #[.agg (ic zs)] w fun e w' => ∃ a c, e = .returned (.slice a (blkC zs) c) ∧ w'.ownsRow w.heap.size 141 2 (.slice a (blkC zs) c) (blkC zs) ((blkB zs).map (Value.int .i64)) ∧ Ext w w' := by
 have Hl := Lib.hid hl
 have HBd := Lib.hid hB
 have hR := runsL_len zs
 obtain ⟨Bx, hBx⟩ : ∃ Bx, Bx = w.heap.size := ⟨_, rfl⟩
 have E0 := Ext.alloc w (.cells (ic zs) 31)
 have I0 := IB.new w 31 zs
 have z0 : Bx + 1 ≤ (w.alloc (.cells (ic zs) 31)).heap.size := by simp [hBx]
 have HBx := Lib.hid hBx
 clear hl hB
 go_enter Tryd.func140, Tryd.ntmps140
 go_wp2_with (refine wpList_iload 31 _ rfl rfl I0 0 16 rfl _ Tryd.underlying31 rfl size_A16s (by rw [Hl.out]; omega) _ (by rw [sub_all _ _ Hl.out]) ?_)
 try rw [← hBx]
 generalize w.alloc (.cells (ic zs) 31) = w1 at *
 refine (spec_RunsOf_any zs _ Hl.out).mono ?_
 rintro e w2 ⟨ra, rc, rfl, or2, e2⟩
 have E2 := E0.trans e2
 have z2 := Nat.le_trans z0 e2.size
 obtain ⟨R, hRR⟩ : ∃ R, R = (runsL zs).length := ⟨_, rfl⟩
 rw [← hRR] at or2 hR ⊢
 have HRR := Lib.hid hRR
 have HC0 := Lib.hid (show numN R = bkN zs 0 by rw [hRR]; rfl)
 have HL0 := Lib.hid (show numL R 16 = bkL zs 0 by rw [hRR]; rfl)
 clear hRR E0 I0 z0 e2 hBx
 go_wp2_with fail
 refine (l10Number_at R 16 16 rfl _ (by omega) (by omega)).mono ?_
 rintro e w3 ⟨na, nc, rfl, on3, e3⟩
 have or3 := owns_ext or2 e3
 have E3 := E2.trans e3
 have z3 := Nat.le_trans z2 e3.size
 have o3 := owns_mono on3 z2
 have F3 := FR.refl (Bx + 1) 141 w3
 rw [HC0.out, HL0.out] at o3
 rw [HC0.out]
 clear or2 E2 z2 e3 on3
 go_wp2_with fail
 go_loopw [4, 5] (fun v y wr => ∃ k : Nat, k ≤ R ∧ y = .int .i64 k ∧ wr.ownsRow (Bx + 1) 141 2 v (bkN zs k) ((bkL zs k).map (Value.int .i64)) ∧ FR (Bx + 1) 141 w3 wr) (fun _ y _ => R - (intOf y).toNat)
 case atStart => exact ⟨0, by omega, rfl, o3, F3⟩
 case round =>
  obtain ⟨k, hk, rfl, o4, F4⟩ := hrel
  clear o3 F3
  obtain ⟨a4, c4, rfl⟩ := owns_form o4
  have hB4 := Nat.le_trans z3 F4.size
  by_cases hlt : k < R
  ·have hd : decide ((k : Int) < R) = true := by simp; omega
   obtain ⟨z, s, e1, h1, e2, h2, h3, h4⟩ := runL_rng Hl.out HBd.out (show k < (runsL zs).length by rw [← HRR.out]; exact hlt)
   have or4 := F4.owns or3 (by decide)
   obtain ⟨g, rfl⟩ := own_ptr or4 (by omega)
   have hfl := flatR_len (runsL zs)
   rw [← HRR.out] at hfl
   obtain ⟨n1, n2⟩ := nth_flatR (runsL zs) k (by rw [← HRR.out]; exact hlt)
   have cz := cell2 or4 (j := k * 2) (by omega)
   rw [n1, e1] at cz
   obtain ⟨lv, hlv⟩ : ∃ lv, lv = ((runsL zs).getD k (0, 0)).2 := ⟨_, rfl⟩
   have HC := Lib.hid (show bkN zs (k + 1) = bkN zs k + (numN z + numN s) by rw [bkN, e1, e2]; simp)
   have HLs := Lib.hid (show bkL zs (k + 1) = bkL zs k ++ (numL z 23 ++ numL s 30) by rw [bkL, e1, e2]; simp)
   have hbn := bkN_le Hl.out HBd.out k (by rw [← HRR.out]; omega)
   have q1 := numN_le (show z < 32768 by omega)
   have q2 := numN_le (show s < 32768 by omega)
   have p1 := numN_pos z
   have p2 := numN_pos s
   have Hcl := Lib.hid (fun (wx : World) (f : FR (Bx + 1) 141 w3 wx) => (show wx.cell? ⟨g, k * 2 + 1, none⟩ = some (.int .i64 lv) by rw [hlv, ← n2]; exact cell2 (f.owns or3 (by decide)) (by omega)))
   have HE2 := Lib.hid (show sidx lv - 1 = (s : Int) by rw [hlv]; exact e2)
   rw [← hlv] at h3 h4
   clear hlv e1 e2 n1 n2 hfl or4
   go_wp2_with fail
   refine (l10Number_at z 23 23 rfl _ (by omega) (by omega)).mono ?_
   rintro e w5 ⟨a5, c5, rfl, o5, e5⟩
   obtain ⟨g5, rfl⟩ := own_ptr o5 p1
   have o4' := owns_ext o4 e5
   have F5 := F4.trans (FR.of_ext e5 hB4)
   have hB5 := Nat.le_trans hB4 e5.size
   go_wp2_with (at_builtin; refine wpList_appk _ rfl o4' hB5 _ _ 129 rfl (.agg #[.int .i64 0, .int .i64 0]) 16 Tryd.underlying129 info_Bin rfl (by decide) rfl _ _ _ _ rfl o5.1 (o5.cells rfl) (one_ints _) (by omega) (by omega) ?_; intro v2 w2 own2 gr2 _; refine Hid.out ?_)
   refine Lib.hid ?_
   obtain ⟨a6, c6, rfl⟩ := owns_form own2
   have F6 := F5.trans (FR.of_row o4' gr2 hB5)
   have hB6 := Nat.le_trans hB5 gr2.size
   have o6 := own2
   have cl6 := Hcl.out _ F6
   clear own2 o5 o4' o4 F5 F4 e5 gr2 cz
   go_wp2_with fail
   refine (spec_SignedIndex_in lv _ (by omega) (by omega)).mono ?_
   rintro e w7 ⟨rfl, rfl⟩
   rw [show Value.int IntKind.i64 (sidx lv) = Value.int IntKind.i64 ((s : Int) + 1) by rw [← HE2.out]; congr 1; omega]
   go_wp2_with fail
   refine (l10Number_at s 30 30 rfl _ (by omega) (by omega)).mono ?_
   rintro e w7 ⟨a7, c7, rfl, o7, e7⟩
   obtain ⟨g7, rfl⟩ := own_ptr o7 p2
   have o6' := owns_ext o6 e7
   have F7 := F6.trans (FR.of_ext e7 hB6)
   have hB7 := Nat.le_trans hB6 e7.size
   go_wp2_with (at_builtin; refine wpList_appk _ rfl o6' hB7 _ _ 129 rfl (.agg #[.int .i64 0, .int .i64 0]) 16 Tryd.underlying129 info_Bin rfl (by decide) rfl _ _ _ _ rfl o7.1 (o7.cells rfl) (one_ints _) (by omega) (by omega) ?_; intro v2 w2 own2 gr2 _; refine Hid.out ?_)
   refine Lib.hid ?_
   obtain ⟨a8, c8, rfl⟩ := owns_form own2
   have F8 := F7.trans (FR.of_row o6' gr2 hB7)
   have o8 := ownc own2 (show _ = (bkL zs (k + 1)).map (Value.int .i64) by rw [HLs.out]; simp)
   have HC3 := Lib.hid (show bkN zs k + numN z + numN s = bkN zs (k + 1) by rw [HC.out]; omega)
   rw [HC3.out] at o8 ⊢
   clear own2 o7 o6' o6 F7 F6 e7 gr2 cl6 Hcl
   go_wp2
   go_roundw
   case rel => exact ⟨k + 1, by omega, by go_num, o8, F8⟩
   case measure => simp [intOf] <;> omega
  ·have HKR := Lib.hid (show k = R by omega)
   have hd : decide ((k : Int) < R) = false := by simp; omega
   have H1 := Lib.hid (show bkN zs k = blkC zs by rw [HKR.out, HRR.out]; rfl)
   have H2 := Lib.hid (show bkL zs k = blkB zs by rw [HKR.out, HRR.out]; rfl)
   rw [H1.out, H2.out] at o4
   rw [H1.out]
   have hlo := F4.lo
   go_wp2
   go_ret
   exact ⟨_, _, rfl, owns_mono o4 (by have := HBx.out; omega), Below.trans E3 (hlo.mono (by have := HBx.out; omega))⟩
end Go.Proofs.YtbnhaegidfbgbaaDoor
namespace Go.Proofs.YtbnhaegidfbgbaaDoor
open Go.RowKit
set_option maxHeartbeats 400000
theorem spec_VectorValid_yes (x y : Int) (w : World) (h : vv x y) :
 Calls Tryd.prog 50 #[.agg #[.int .i64 x, .int .i64 y]] w fun e w' => e = .returned (.bool true) ∧ Ext w w' := by
 obtain ⟨h1, h2, h3, h4⟩ := h
 go_enter Tryd.func50, Tryd.ntmps50
 go_wp2_with fail
 refine (l1In_yes _ _ _ _ h1 h2).mono ?_
 rintro e w1 ⟨rfl, rfl⟩
 go_wp2_with fail
 refine (l1In_yes _ _ _ _ h3 h4).mono ?_
 rintro e w1 ⟨rfl, rfl⟩
 go_wp2
 go_ret
 exact ⟨rfl, Ext.alloc _ _⟩
theorem spec_VectorValid_no (x y : Int) (w : World) (h : ¬ vv x y) :
 Calls Tryd.prog 50 #[.agg #[.int .i64 x, .int .i64 y]] w fun e w' => e = .returned (.bool false) ∧ Ext w w' := by
 unfold vv at h
 by_cases h1 : -16 ≤ x ∧ x ≤ 16
 ·have h2 := Lib.hid (show y < -16 ∨ 16 < y by omega)
  clear h
  go_enter Tryd.func50, Tryd.ntmps50
  go_wp2_with fail
  refine (l1In_yes _ _ _ _ h1.1 h1.2).mono ?_
  rintro e w1 ⟨rfl, rfl⟩
  go_wp2_with fail
  refine (l1In_no _ _ _ _ h2.out).mono ?_
  rintro e w1 ⟨rfl, rfl⟩
  go_wp2
  go_ret
  exact ⟨rfl, Ext.alloc _ _⟩
 ·have h2 := Lib.hid (show x < -16 ∨ 16 < x by omega)
  clear h h1
  go_enter Tryd.func50, Tryd.ntmps50
  go_wp2_with fail
  refine (l1In_no _ _ _ _ h2.out).mono ?_
  rintro e w1 ⟨rfl, rfl⟩
  go_wp2
  go_ret
  exact ⟨rfl, Ext.alloc _ _⟩
set_option maxRecDepth 100000 in
theorem spec_l3Ok_any (zs : List Int) (B : Int) (w : World) (hl : zs.length = 16) (hB : 0 ≤ B) (hB2 : B ≤ 1099511627776) :
 Calls Tryd.prog 129 #[.agg (ic zs), .int .i64 B] w fun e w' => e = .returned (.bool (inB B zs)) ∧ Ext w w' := by
 have H := IB.new w 31 zs
 have Hl := Lib.hid hl
 clear hl
 go_enter Tryd.func129, Tryd.ntmps129
 go_wp2
 go_loopw [5] (fun i wr => ∃ k : Nat, k ≤ 16 ∧ i = .int .i64 k ∧ Ext w wr ∧ IB wr w.heap.size 31 zs ∧ Hid (∀ j, j < k → -B ≤ nth zs j ∧ nth zs j ≤ B)) (fun i _ => 16 - (intOf i).toNat)
 case atStart => exact ⟨0, by omega, rfl, Ext.alloc _ _, H, Lib.hid (fun j hj => by omega)⟩
 case round =>
  obtain ⟨k, hk, rfl, E2, H2, hall⟩ := hrel
  clear H
  by_cases hlt : k < 16
  ·have hc := H2.cell (i := k) (by rw [Hl.out]; exact hlt)
   by_cases h1 : -B ≤ nth zs k ∧ nth zs k ≤ B
   ·have hall2 := Lib.hid (show ∀ j, j < k + 1 → -B ≤ nth zs j ∧ nth zs j ≤ B from fun j hj => by
     by_cases hjk : j = k
     ·subst hjk; exact h1
     ·exact hall.out j (by omega))
    go_wp2_with fail
    refine (l1In_yes _ _ _ _ h1.1 h1.2).mono ?_
    rintro e w1 ⟨rfl, rfl⟩
    clear h1
    go_wp2
    go_roundw
    case rel => exact ⟨k + 1, by omega, by go_num, E2, H2, hall2⟩
    case measure => simp [intOf]; omega
   ·have hno := Lib.hid (inB_no (B := B) (j := k) (by rw [Hl.out]; exact hlt) (by omega))
    have h2 := Lib.hid (show nth zs k < -B ∨ B < nth zs k by omega)
    clear h1
    go_wp2_with fail
    refine (l1In_no _ _ _ _ h2.out).mono ?_
    rintro e w1 ⟨rfl, rfl⟩
    go_wp2
    go_ret
    exact ⟨(ret_bool hno.out).symm, E2⟩
  ·obtain rfl : k = 16 := by omega
   have hy := Lib.hid (inB_yes (B := B) (zs := zs) (by rw [Hl.out]; exact hall.out))
   go_wp2
   go_ret
   exact ⟨(ret_bool hy.out).symm, E2⟩
set_option maxRecDepth 100000 in
set_option maxHeartbeats 2000000 in
theorem spec_MacroValid_any (m : Mac) (w : World) (h : m.ok) :
 Calls Tryd.prog 98 #[.agg (ic m.zs)] w fun e w' => e = .returned (.bool (decide m.valid)) ∧ Ext w w' := by
 have H := IB.new w 34 m.zs
 have Hl := Lib.hid (Mac.zs_len h)
 have Hm := Lib.hid h
 have hkc := H.cell (i := 0) (by rw [Hl.out]; omega)
 rw [Mac.zs_kind] at hkc
 clear h
 by_cases hk : 0 ≤ m.kind ∧ m.kind ≤ 2
 ·have Hk := Lib.hid hk
  by_cases hv : vv m.x m.y
  ·have Hvv := Lib.hid hv
   clear hk hv
   go_enter Tryd.func98, Tryd.ntmps98
   go_wp2_with fail
   refine (l1In_yes _ _ _ _ Hk.out.1 Hk.out.2).mono ?_
   rintro e w1 ⟨rfl, rfl⟩
   go_wp2_with (refine wpList_iload 27 _ rfl rfl H 1 2 rfl _ Tryd.underlying27 rfl size_Vector (by rw [Hl.out]; omega) _ Mac.zs_mv ?_)
   refine (spec_VectorValid_yes m.x m.y _ Hvv.out).mono ?_
   rintro e w2 ⟨rfl, e2⟩
   have H2 := H.ext e2
   have E2 := (Ext.alloc w (.cells (ic m.zs) 34)).trans e2
   clear H e2 hkc
   go_wp2_with fail
   go_loopw [3] (fun i wr => ∃ k : Nat, k ≤ 4 ∧ i = .int .i64 k ∧ Ext w wr ∧ IB wr w.heap.size 34 m.zs ∧ Hid (∀ j, j < k → (0 ≤ nth m.modes j ∧ nth m.modes j ≤ 4) ∧ inB 4080 (sub m.lv (j * 16) 16) = true)) (fun i _ => 4 - (intOf i).toNat)
   case atStart => exact ⟨0, by omega, rfl, E2, H2, Lib.hid (fun j hj => by omega)⟩
   case round =>
    obtain ⟨k, hk, rfl, E4, H4, hall⟩ := hrel
    clear H2 E2
    by_cases hlt : k < 4
    ·have hmc := H4.cell (i := 3 + k) (by rw [Hl.out]; omega)
     rw [Mac.nth_mode Hm.out k hlt] at hmc
     by_cases h1 : 0 ≤ nth m.modes k ∧ nth m.modes k ≤ 4
     ·have hbl := sub_len m.lv (k * 16) 16 (by rw [Hm.out.lv]; omega)
      have Hbl := Lib.hid hbl
      have Hsb := Lib.hid (Mac.zs_blk Hm.out k hlt)
      clear hbl
      go_wp2_with fail
      refine (l1In_yes _ _ _ _ h1.1 h1.2).mono ?_
      rintro e w5 ⟨rfl, rfl⟩
      have H1 := Lib.hid h1
      clear h1 hmc
      go_wp2_with (refine wpList_iload 31 _ rfl rfl H4 (7 + k * 16) 16 rfl _ Tryd.underlying31 rfl size_A16 (by rw [Hl.out]; omega) _ (by rw [Hsb.out]) ?_)
      refine (spec_l3Ok_any _ 4080 _ Hbl.out (by omega) (by omega)).mono ?_
      rintro e w6 ⟨rfl, e6⟩
      have E6 := E4.trans e6
      have H6 := H4.ext e6
      clear E4 H4 e6
      cases hb : inB 4080 (sub m.lv (k * 16) 16)
      ·have hr := Lib.hid (show decide m.valid = false from decide_eq_false (fun h => by
        have := (inB_blocks Hm.out.lv).1 h.2.2.2.2.2.2 k hlt
        rw [hb] at this; cases this))
       clear hb
       go_wp2
       go_ret
       exact ⟨(ret_bool hr.out).symm, E6⟩
      ·have hall2 := Lib.hid (show ∀ j, j < k + 1 → (0 ≤ nth m.modes j ∧ nth m.modes j ≤ 4) ∧ inB 4080 (sub m.lv (j * 16) 16) = true from fun j hj => by
        by_cases hjk : j = k
        ·subst hjk; exact ⟨H1.out, hb⟩
        ·exact hall.out j (by omega))
       clear hb
       go_wp2
       go_roundw
       case rel => exact ⟨k + 1, by omega, by go_num, E6, H6, hall2⟩
       case measure => simp [intOf]; omega
     ·have h2 := Lib.hid (show nth m.modes k < 0 ∨ 4 < nth m.modes k by omega)
      have hr := Lib.hid (show decide m.valid = false from decide_eq_false (fun h => h1 (by
       by_cases hk2 : m.kind = 2
       ·exact h.2.2.2.2.1 hk2 k hlt
       ·rw [h.2.2.2.1 hk2, nth_zero4 hlt]; omega)))
      clear h1
      go_wp2_with fail
      refine (l1In_no _ _ _ _ h2.out).mono ?_
      rintro e w5 ⟨rfl, rfl⟩
      go_wp2
      go_ret
      exact ⟨(ret_bool hr.out).symm, E4⟩
    ·obtain rfl : k = 4 := by omega
     have hLv : inB 4080 m.lv = true := (inB_blocks Hm.out.lv).2 (fun k hk => (hall.out k hk).2)
     have hMo : ∀ j, j < 4 → 0 ≤ nth m.modes j ∧ nth m.modes j ≤ 4 := fun j hj => (hall.out j hj).1
     obtain hk0 | hk1 | hk2 : m.kind = 0 ∨ m.kind = 1 ∨ m.kind = 2 := by have := Hk.out; omega
     ·have k0 := H4.cell (i := 0) (by rw [Hl.out]; omega)
      rw [Mac.zs_kind, hk0] at k0
      by_cases hxy : m.x = 0 ∧ m.y = 0
      ·by_cases hmo : m.modes = zero4
       ·by_cases hlz : m.lv = zero64
        ·have Hv := Lib.hid (vec_eq m.x m.y true (by simpa using hxy))
         have Hd2 := Lib.hid (show decide (m.modes = List.replicate 4 0) = true by simpa [zero4] using hmo)
         have Hd3 := Lib.hid (show decide (m.lv = List.replicate 64 0) = true by simpa [zero64] using hlz)
         have hr := Lib.hid (show decide m.valid = true from decide_eq_true ⟨Hk.out, Hvv.out, fun _ => hxy, fun _ => hmo, fun h => (by omega), fun _ => hlz, hLv⟩)
         clear hxy hmo hlz hk0 hall hLv hMo
         go_wp2_with (first | go_skip | (refine wpList_iload 27 _ rfl rfl H4 1 2 rfl _ Tryd.underlying27 rfl size_Vector (by rw [Hl.out]; omega) _ Mac.zs_mv ?_) | (refine wpList_iload 30 _ rfl rfl H4 3 4 rfl _ Tryd.underlying30 rfl size_A4 (by rw [Hl.out]; omega) _ (by rw [Mac.zs_modes Hm.out]) ?_) | (refine wpList_iload 32 _ rfl rfl H4 7 64 rfl _ Tryd.underlying32 rfl size_A16A4 (by rw [Hl.out]; omega) _ (by rw [Mac.zs_lv Hm.out]) ?_) | (refine wpList_izero 30 rfl rfl Tryd.underlying30 size_int 4 zero_A4 ?_) | (refine wpList_izero 32 rfl rfl Tryd.underlying32 size_A16 64 zero_A16A4 ?_) | (refine wpList_vneq 27 _ _ _ rfl rfl _ _ rfl rfl _ Hv.out guard_Vector ?_) | (refine wpList_ineq 30 _ _ _ rfl rfl _ _ rfl rfl _ _ rfl rfl Tryd.underlying30 size_int eqE_int Hm.out.modes (by simp) guard_A4 _ Hd2.out ?_) | (refine wpList_ieql 32 _ _ _ rfl rfl _ _ rfl rfl _ _ rfl rfl Tryd.underlying32 size_A16 eqE_A16 Hm.out.lv (by simp) guard_A16A4 _ Hd3.out ?_))
         go_ret
         exact ⟨(ret_bool hr.out).symm, E4⟩
        ·have Hv := Lib.hid (vec_eq m.x m.y true (by simpa using hxy))
         have Hd2 := Lib.hid (show decide (m.modes = List.replicate 4 0) = true by simpa [zero4] using hmo)
         have Hd3 := Lib.hid (show decide (m.lv = List.replicate 64 0) = false by simpa [zero64] using hlz)
         have hr := Lib.hid (show decide m.valid = false from decide_eq_false (fun h => hlz (h.2.2.2.2.2.1 hk0)))
         clear hxy hmo hlz hk0 hall hLv hMo
         go_wp2_with (first | go_skip | (refine wpList_iload 27 _ rfl rfl H4 1 2 rfl _ Tryd.underlying27 rfl size_Vector (by rw [Hl.out]; omega) _ Mac.zs_mv ?_) | (refine wpList_iload 30 _ rfl rfl H4 3 4 rfl _ Tryd.underlying30 rfl size_A4 (by rw [Hl.out]; omega) _ (by rw [Mac.zs_modes Hm.out]) ?_) | (refine wpList_iload 32 _ rfl rfl H4 7 64 rfl _ Tryd.underlying32 rfl size_A16A4 (by rw [Hl.out]; omega) _ (by rw [Mac.zs_lv Hm.out]) ?_) | (refine wpList_izero 30 rfl rfl Tryd.underlying30 size_int 4 zero_A4 ?_) | (refine wpList_izero 32 rfl rfl Tryd.underlying32 size_A16 64 zero_A16A4 ?_) | (refine wpList_vneq 27 _ _ _ rfl rfl _ _ rfl rfl _ Hv.out guard_Vector ?_) | (refine wpList_ineq 30 _ _ _ rfl rfl _ _ rfl rfl _ _ rfl rfl Tryd.underlying30 size_int eqE_int Hm.out.modes (by simp) guard_A4 _ Hd2.out ?_) | (refine wpList_ieql 32 _ _ _ rfl rfl _ _ rfl rfl _ _ rfl rfl Tryd.underlying32 size_A16 eqE_A16 Hm.out.lv (by simp) guard_A16A4 _ Hd3.out ?_))
         go_ret
         exact ⟨(ret_bool hr.out).symm, E4⟩
       ·have Hv := Lib.hid (vec_eq m.x m.y true (by simpa using hxy))
        have Hd2 := Lib.hid (show decide (m.modes = List.replicate 4 0) = false by simpa [zero4] using hmo)
        have hr := Lib.hid (show decide m.valid = false from decide_eq_false (fun h => hmo (h.2.2.2.1 (by omega))))
        clear hxy hmo hk0 hall hLv hMo
        go_wp2_with (first | go_skip | (refine wpList_iload 27 _ rfl rfl H4 1 2 rfl _ Tryd.underlying27 rfl size_Vector (by rw [Hl.out]; omega) _ Mac.zs_mv ?_) | (refine wpList_iload 30 _ rfl rfl H4 3 4 rfl _ Tryd.underlying30 rfl size_A4 (by rw [Hl.out]; omega) _ (by rw [Mac.zs_modes Hm.out]) ?_) | (refine wpList_izero 30 rfl rfl Tryd.underlying30 size_int 4 zero_A4 ?_) | (refine wpList_vneq 27 _ _ _ rfl rfl _ _ rfl rfl _ Hv.out guard_Vector ?_) | (refine wpList_ineq 30 _ _ _ rfl rfl _ _ rfl rfl _ _ rfl rfl Tryd.underlying30 size_int eqE_int Hm.out.modes (by simp) guard_A4 _ Hd2.out ?_))
        go_ret
        exact ⟨(ret_bool hr.out).symm, E4⟩
      ·have Hv := Lib.hid (vec_eq m.x m.y false (by simpa using hxy))
       have hr := Lib.hid (show decide m.valid = false from decide_eq_false (fun h => hxy (h.2.2.1 (by omega))))
       clear hxy hk0 hall hLv hMo
       go_wp2_with (first | go_skip | (refine wpList_iload 27 _ rfl rfl H4 1 2 rfl _ Tryd.underlying27 rfl size_Vector (by rw [Hl.out]; omega) _ Mac.zs_mv ?_) | (refine wpList_vneq 27 _ _ _ rfl rfl _ _ rfl rfl _ Hv.out guard_Vector ?_))
       go_ret
       exact ⟨(ret_bool hr.out).symm, E4⟩
     ·have k0 := H4.cell (i := 0) (by rw [Hl.out]; omega)
      rw [Mac.zs_kind, hk1] at k0
      by_cases hmo : m.modes = zero4
      ·have Hd2 := Lib.hid (show decide (m.modes = List.replicate 4 0) = true by simpa [zero4] using hmo)
       have hr := Lib.hid (show decide m.valid = true from decide_eq_true ⟨Hk.out, Hvv.out, fun h => absurd hk1 h, fun _ => hmo, fun h => (by omega), fun h => (by omega), hLv⟩)
       clear hmo hk1 hall hLv hMo
       go_wp2_with (first | go_skip | (refine wpList_iload 30 _ rfl rfl H4 3 4 rfl _ Tryd.underlying30 rfl size_A4 (by rw [Hl.out]; omega) _ (by rw [Mac.zs_modes Hm.out]) ?_) | (refine wpList_izero 30 rfl rfl Tryd.underlying30 size_int 4 zero_A4 ?_) | (refine wpList_ineq 30 _ _ _ rfl rfl _ _ rfl rfl _ _ rfl rfl Tryd.underlying30 size_int eqE_int Hm.out.modes (by simp) guard_A4 _ Hd2.out ?_))
       go_ret
       exact ⟨(ret_bool hr.out).symm, E4⟩
      ·have Hd2 := Lib.hid (show decide (m.modes = List.replicate 4 0) = false by simpa [zero4] using hmo)
       have hr := Lib.hid (show decide m.valid = false from decide_eq_false (fun h => hmo (h.2.2.2.1 (by omega))))
       clear hmo hk1 hall hLv hMo
       go_wp2_with (first | go_skip | (refine wpList_iload 30 _ rfl rfl H4 3 4 rfl _ Tryd.underlying30 rfl size_A4 (by rw [Hl.out]; omega) _ (by rw [Mac.zs_modes Hm.out]) ?_) | (refine wpList_izero 30 rfl rfl Tryd.underlying30 size_int 4 zero_A4 ?_) | (refine wpList_ineq 30 _ _ _ rfl rfl _ _ rfl rfl _ _ rfl rfl Tryd.underlying30 size_int eqE_int Hm.out.modes (by simp) guard_A4 _ Hd2.out ?_))
       go_ret
       exact ⟨(ret_bool hr.out).symm, E4⟩
     ·have k0 := H4.cell (i := 0) (by rw [Hl.out]; omega)
      rw [Mac.zs_kind, hk2] at k0
      by_cases hxy : m.x = 0 ∧ m.y = 0
      ·have Hv := Lib.hid (vec_eq m.x m.y true (by simpa using hxy))
       have hr := Lib.hid (show decide m.valid = true from decide_eq_true ⟨Hk.out, Hvv.out, fun _ => hxy, fun h => absurd hk2 h, fun _ => hMo, fun h => (by omega), hLv⟩)
       clear hxy hk2 hall hLv hMo
       go_wp2_with (first | go_skip | (refine wpList_iload 27 _ rfl rfl H4 1 2 rfl _ Tryd.underlying27 rfl size_Vector (by rw [Hl.out]; omega) _ Mac.zs_mv ?_) | (refine wpList_vneq 27 _ _ _ rfl rfl _ _ rfl rfl _ Hv.out guard_Vector ?_))
       go_ret
       exact ⟨(ret_bool hr.out).symm, E4⟩
      ·have Hv := Lib.hid (vec_eq m.x m.y false (by simpa using hxy))
       have hr := Lib.hid (show decide m.valid = false from decide_eq_false (fun h => hxy (h.2.2.1 (by omega))))
       clear hxy hk2 hall hLv hMo
       go_wp2_with (first | go_skip | (refine wpList_iload 27 _ rfl rfl H4 1 2 rfl _ Tryd.underlying27 rfl size_Vector (by rw [Hl.out]; omega) _ Mac.zs_mv ?_) | (refine wpList_vneq 27 _ _ _ rfl rfl _ _ rfl rfl _ Hv.out guard_Vector ?_))
       go_ret
       exact ⟨(ret_bool hr.out).symm, E4⟩
  ·have hr := Lib.hid (show decide m.valid = false from decide_eq_false (fun h => hv h.2.1))
   clear hk
   go_enter Tryd.func98, Tryd.ntmps98
   go_wp2_with fail
   refine (l1In_yes _ _ _ _ Hk.out.1 Hk.out.2).mono ?_
   rintro e w1 ⟨rfl, rfl⟩
   go_wp2_with (refine wpList_iload 27 _ rfl rfl H 1 2 rfl _ Tryd.underlying27 rfl size_Vector (by rw [Hl.out]; omega) _ Mac.zs_mv ?_)
   refine (spec_VectorValid_no m.x m.y _ hv).mono ?_
   rintro e w2 ⟨rfl, e2⟩
   clear hv hkc H
   go_wp2
   go_ret
   exact ⟨(ret_bool hr.out).symm, (Ext.alloc _ _).trans e2⟩
 ·have hr := Lib.hid (show decide m.valid = false from decide_eq_false (fun h => hk h.1))
  have h2 := Lib.hid (show m.kind < 0 ∨ 2 < m.kind by omega)
  clear hk
  go_enter Tryd.func98, Tryd.ntmps98
  go_wp2_with fail
  refine (l1In_no _ _ _ _ h2.out).mono ?_
  rintro e w1 ⟨rfl, rfl⟩
  go_wp2
  go_ret
  exact ⟨(ret_bool hr.out).symm, Ext.alloc _ _⟩
end Go.Proofs.YtbnhaegidfbgbaaDoor
namespace Go.Proofs.YtbnhaegidfbgbaaDoor
open Go.RowKit
set_option maxHeartbeats 1000000
theorem bdI_of_inB {Bd : Int} {zs : List Int} (h : inB Bd zs = true) : bdI Bd zs := by
 intro j hj
 unfold inB at h
 rw [List.all_eq_true] at h
 have := h _ (List.getElem_mem hj)
 rw [nth_eq zs j hj]
 simpa using this
theorem bdI_subU {Bd : Int} {zs : List Int} (h : bdI Bd zs) (o n : Nat) (hl : o + n ≤ zs.length) : bdI Bd (sub zs o n) := by
 intro j hj
 rw [sub_len _ _ _ hl] at hj
 rw [nth_sub _ _ _ _ hj]
 exact h _ (by omega)
/-- The decisions for a macroblock in a picture that is not intra. -/
def hdL (m : Mac) : List Int := [0, 1, 1, m.kind - 1]
def mvL (m : Mac) : List Int := numL (sidx m.x).toNat 2 ++ numL (sidx m.y).toNat 2
def mdL (m : Mac) : Nat → List Int
 | 0 => []
 | k + 1 => mdL m k ++ numL (nth m.modes k).toNat 9
def mdN (m : Mac) : Nat → Nat
 | 0 => 0
 | k + 1 => mdN m k + numN (nth m.modes k).toNat
def miL (m : Mac) : List Int := hdL m ++ (if m.kind = 1 then mvL m else mdL m 4)
def miN (m : Mac) : Nat := 2 + (if m.kind = 1 then numN (sidx m.x).toNat + numN (sidx m.y).toNat else mdN m 4)
def lvBn (m : Mac) : Nat → List Int
 | 0 => miL m
 | k + 1 => lvBn m k ++ blkB (sub m.lv (k * 16) 16)
def lvNn (m : Mac) : Nat → Nat
 | 0 => miN m
 | k + 1 => lvNn m k + blkC (sub m.lv (k * 16) 16)
def macL (m : Mac) : List Int := if m.kind = 0 then [0, 0] else lvBn m 4
def macN (m : Mac) : Nat := if m.kind = 0 then 1 else lvNn m 4
theorem md_rng {m : Mac} (hv : m.valid) (h2 : m.kind = 2) {k : Nat} (hk : k < 4) : ∃ z : Nat, nth m.modes k = z ∧ z ≤ 4 := by
 have := hv.2.2.2.2.1 h2 k hk
 exact ⟨(nth m.modes k).toNat, by omega, by omega⟩
theorem mdN_le {m : Mac} (hv : m.valid) (h2 : m.kind = 2) : ∀ k, k ≤ 4 → mdN m k ≤ k * 31
 | 0, _ => Nat.le_refl _
 | k + 1, hk => by
  have ih := mdN_le hv h2 k (by omega)
  obtain ⟨z, e, h⟩ := md_rng hv h2 (show k < 4 by omega)
  have := numN_le (show (nth m.modes k).toNat < 32768 by omega)
  rw [mdN]
  omega
theorem mv_rng {m : Mac} (hv : m.valid) : ∃ a b : Nat, sidx m.x = a ∧ a ≤ 32 ∧ sidx m.y = b ∧ b ≤ 32 := by
 obtain ⟨h1, h2, h3, h4⟩ := hv.2.1
 have q1 := sidx_rng h1 h2
 have q2 := sidx_rng h3 h4
 exact ⟨(sidx m.x).toNat, (sidx m.y).toNat, by omega, by omega, by omega, by omega⟩
theorem miN_le {m : Mac} (hv : m.valid) (h0 : m.kind ≠ 0) : miN m ≤ 200 := by
 unfold miN
 by_cases h1 : m.kind = 1
 ·rw [if_pos h1]
  obtain ⟨a, b, e1, l1, e2, l2⟩ := mv_rng hv
  have := numN_le (show (sidx m.x).toNat < 32768 by omega)
  have := numN_le (show (sidx m.y).toNat < 32768 by omega)
  omega
 ·rw [if_neg h1]
  have := mdN_le hv (by have := hv.1; omega) 4 (Nat.le_refl _)
  omega
theorem lv_bd {m : Mac} (hm : m.ok) (hv : m.valid) {k : Nat} (hk : k < 4) : (sub m.lv (k * 16) 16).length = 16 ∧ bdI 4080 (sub m.lv (k * 16) 16) := by
 have hl := hm.lv
 exact ⟨sub_len _ _ _ (by omega), bdI_subU (bdI_of_inB hv.2.2.2.2.2.2) _ _ (by omega)⟩
theorem lvNn_le {m : Mac} (hm : m.ok) (hv : m.valid) (h0 : m.kind ≠ 0) : ∀ k, k ≤ 4 → lvNn m k ≤ 200 + k * 1023
 | 0, _ => by have := miN_le hv h0; rw [lvNn]; omega
 | k + 1, hk => by
  have ih := lvNn_le hm hv h0 k (by omega)
  obtain ⟨h1, h2⟩ := lv_bd hm hv (show k < 4 by omega)
  have := blkC_le h1 h2
  rw [lvNn]
  omega
theorem macN_le {m : Mac} (hm : m.ok) (hv : m.valid) : macN m ≤ 5000 := by
 unfold macN
 split
 ·omega
 ·have := lvNn_le hm hv (by assumption) 4 (Nat.le_refl _)
  omega
theorem blkC_pos (zs : List Int) : 0 < blkC zs := by
 have : ∀ k, 0 < bkN zs k := fun k => by
  induction k with
  | zero => exact numN_pos _
  | succ k ih => rw [bkN]; omega
 exact this _
set_option maxRecDepth 100000 in
theorem l10Macro_skip (m : Mac) (w : World) (hm : m.ok) (h0 : m.kind = 0) :
 Calls Tryd.prog 119 #[.agg (ic m.zs), .bool false] w fun e w' => ∃ a c, e = .returned (.slice a (macN m) c) ∧ w'.ownsRow w.heap.size 141 2 (.slice a (macN m) c) (macN m) ((macL m).map (Value.int .i64)) ∧ Ext w w' := by
 have I0 := (IB.new w 34 m.zs).alloc (.cells #[] 141)
 have Hl := Lib.hid (Mac.zs_len hm)
 have hk := I0.cell (i := 0) (by rw [Mac.zs_len hm]; omega)
 rw [Mac.zs_kind, h0] at hk
 have E0 := ((Ext.alloc w (.cells (ic m.zs) 34)).trans (Ext.alloc _ (.cells #[] 141))).trans (Ext.alloc _ (.cells #[.int .i64 0, .int .i64 0] 141))
 have HN := Lib.hid (show macN m = 1 by rw [macN, if_pos h0])
 have HL := Lib.hid (show macL m = [0, 0] by rw [macL, if_pos h0])
 have o9 := World.ownsRow_lit (base := w.heap.size) (e := 141) (size := 2) ((w.alloc (.cells (ic m.zs) 34)).alloc (.cells #[] 141)) #[.int .i64 0, .int .i64 0] 1 (by simp; omega) (by unfold maxLen; omega) rfl
 rw [World.size_alloc, World.size_alloc] at o9
 clear h0
 go_enter Tryd.func119, Tryd.ntmps119
 go_wp2
 go_ret
 rw [HN.out, HL.out]
 exact ⟨_, _, rfl, o9, E0⟩
set_option maxRecDepth 100000 in
theorem l10Macro_I (m : Mac) (w : World) (hm : m.ok) (hv : m.valid) (h1 : m.kind = 1) :
 Calls Tryd.prog 119 #[.agg (ic m.zs), .bool false] w fun e w' => ∃ a c, e = .returned (.slice a (macN m) c) ∧ w'.ownsRow w.heap.size 141 2 (.slice a (macN m) c) (macN m) ((macL m).map (Value.int .i64)) ∧ Ext w w' := by
 have Hl := Lib.hid (Mac.zs_len hm)
 have Hm := Lib.hid hm
 have HV := Lib.hid hv
 have HK0 := Lib.hid (show m.kind ≠ 0 by rw [h1]; decide)
 have HK1 := Lib.hid h1
 obtain ⟨Bx, hBx⟩ : ∃ Bx, Bx = w.heap.size := ⟨_, rfl⟩
 have E0 := (Ext.alloc w (.cells (ic m.zs) 34)).trans (Ext.alloc _ (.cells #[] 141))
 have I0 := (IB.new w 34 m.zs).alloc (.cells #[] 141)
 have o0 := World.ownsRow_made (base := Bx + 1) (e := 141) (size := 2) (w.alloc (.cells (ic m.zs) 34)) #[] 0 (by simp [hBx]) (by simp) rfl
 have z0 : Bx + 1 ≤ ((w.alloc (.cells (ic m.zs) 34)).alloc (.cells #[] 141)).heap.size := by simp [hBx]
 rw [World.size_alloc] at o0
 have hk := I0.cell (i := 0) (by rw [Mac.zs_len hm]; omega)
 have hx := I0.cell (i := 1) (by rw [Mac.zs_len hm]; omega)
 have hy := I0.cell (i := 2) (by rw [Mac.zs_len hm]; omega)
 rw [Mac.zs_kind, h1] at hk
 rw [Mac.zs_x] at hx
 rw [Mac.zs_y] at hy
 rw [← hBx] at I0 o0 hk hx hy
 have HBx := Lib.hid hBx
 obtain ⟨xa, ya, ex, lx, ey, ly⟩ := mv_rng hv
 have HX := Lib.hid ex
 have HY := Lib.hid ey
 obtain ⟨v1, v2, v3, v4⟩ := hv.2.1
 have px := numN_le (show xa < 32768 by omega)
 have py := numN_le (show ya < 32768 by omega)
 have ppx := numN_pos xa
 have ppy := numN_pos ya
 have HMI := Lib.hid (show lvBn m 0 = [0, 1, 1, 0] ++ (numL xa 2 ++ numL ya 2) by rw [lvBn, miL, if_pos h1, hdL, mvL, ex, ey, h1]; simp)
 have HMN := Lib.hid (show lvNn m 0 = 0 + 2 + numN xa + numN ya by rw [lvNn, miN, if_pos h1, ex, ey]; simp; omega)
 clear hm hv h1 ex ey
 go_enter Tryd.func119, Tryd.ntmps119
 go_upto_region 2 with fail
 try simp only [World.size_alloc]
 rw [← hBx]
 clear hBx
 generalize (w.alloc (.cells (ic m.zs) 34)).alloc (.cells #[] 141) = w1 at *
 go_wp2_with (at_builtin; refine wpList_appk _ rfl (o0.alloc _) (by simp; omega) _ _ 129 rfl (.agg #[.int .i64 0, .int .i64 0]) 16 Tryd.underlying129 info_Bin rfl (by decide) rfl ⟨w1.heap.size, 0, none⟩ 2 2 [.int .i64 0, .int .i64 1, .int .i64 1, .int .i64 _] rfl rfl ((Sl_new w1 [.int .i64 0, .int .i64 1, .int .i64 1, .int .i64 _] 141).cellsOf _ (by simp)) (by intro u hu; simp at hu; rcases hu with rfl | rfl | rfl | rfl <;> rfl) (by omega) (by omega) ?_; intro v2 w2 own2 gr2 _; refine Hid.out ?_)
 refine Lib.hid ?_
 obtain ⟨a2, c2, rfl⟩ := owns_form own2
 have F2 := (FR.of_ext (B := Bx + 1) (T := 141) (Ext.alloc w1 (.cells #[.int .i64 0, .int .i64 1, .int .i64 1, .int .i64 _] 141)) z0).trans (FR.of_row (o0.alloc _) gr2 (by simp; omega))
 have E2 : Ext w w2 := Below.trans E0 (F2.lo.mono (by have := HBx.out; omega))
 have z2 := Nat.le_trans z0 F2.size
 have I2 := F2.ib I0 (by decide)
 have hx2 := I2.cell (i := 1) (by rw [Hl.out]; omega)
 have hy2 := I2.cell (i := 2) (by rw [Hl.out]; omega)
 have hk2 := I2.cell (i := 0) (by rw [Hl.out]; omega)
 rw [Mac.zs_kind, HK1.out] at hk2
 rw [Mac.zs_x] at hx2
 rw [Mac.zs_y] at hy2
 have o2 := ownc own2 (show _ = ([0, 1, 1, 0] : List Int).map (Value.int .i64) by simp)
 clear own2 gr2 F2 E0 I0 o0 z0 hk hx hy
 have hke : ((1 : Int) == 1) = true := rfl
 go_wp2_with fail
 refine (spec_SignedIndex_in m.x _ (by omega) (by omega)).mono ?_
 rintro e w3 ⟨rfl, rfl⟩
 rw [HX.out]
 go_wp2_with fail
 refine (l10Number_at xa 2 2 rfl _ (by omega) (by omega)).mono ?_
 rintro e w3 ⟨a3, c3, rfl, o3, e3⟩
 obtain ⟨g3, rfl⟩ := own_ptr o3 ppx
 have o2' := owns_ext o2 e3
 have hB3 := Nat.le_trans z2 e3.size
 have E3 := E2.trans e3
 have I3 := I2.ext e3
 clear o2 e3 I2 E2 hx2 hy2 hk2
 go_wp2_with (at_builtin; refine wpList_appk _ rfl o2' hB3 _ _ 129 rfl (.agg #[.int .i64 0, .int .i64 0]) 16 Tryd.underlying129 info_Bin rfl (by decide) rfl _ _ _ _ rfl o3.1 (o3.cells rfl) (one_ints _) (by omega) (by omega) ?_; intro v2 w2 own2 gr2 _; refine Hid.out ?_)
 refine Lib.hid ?_
 obtain ⟨a4, c4, rfl⟩ := owns_form own2
 have F4 := FR.of_row o2' gr2 hB3
 have E4 : Ext w w2 := Below.trans E3 (F4.lo.mono (by have := HBx.out; omega))
 have z4 := Nat.le_trans hB3 F4.size
 have I4 := F4.ib I3 (by decide)
 have hy4 := I4.cell (i := 2) (by rw [Hl.out]; omega)
 rw [Mac.zs_y] at hy4
 have o4 := own2
 clear own2 gr2 F4 E3 I3 o2' o3 hB3
 go_wp2_with fail
 refine (spec_SignedIndex_in m.y _ (by omega) (by omega)).mono ?_
 rintro e w5 ⟨rfl, rfl⟩
 rw [HY.out]
 go_wp2_with fail
 refine (l10Number_at ya 2 2 rfl _ (by omega) (by omega)).mono ?_
 rintro e w5 ⟨a5, c5, rfl, o5, e5⟩
 obtain ⟨g5, rfl⟩ := own_ptr o5 ppy
 have o4' := owns_ext o4 e5
 have hB5 := Nat.le_trans z4 e5.size
 have E5 := E4.trans e5
 have I5 := I4.ext e5
 clear o4 e5 I4 E4 hy4
 go_wp2_with (at_builtin; refine wpList_appk _ rfl o4' hB5 _ _ 129 rfl (.agg #[.int .i64 0, .int .i64 0]) 16 Tryd.underlying129 info_Bin rfl (by decide) rfl _ _ _ _ rfl o5.1 (o5.cells rfl) (one_ints _) (by omega) (by omega) ?_; intro v2 w3 own2 gr2 _; refine Hid.out ?_)
 refine Lib.hid ?_
 obtain ⟨a6, c6, rfl⟩ := owns_form own2
 have F6 := FR.of_row o4' gr2 hB5
 have E3 : Ext w w3 := Below.trans E5 (F6.lo.mono (by have := HBx.out; omega))
 have z3 := Nat.le_trans hB5 F6.size
 have I3 := F6.ib I5 (by decide)
 have o3 := ownc own2 (show _ = (lvBn m 0).map (Value.int .i64) by rw [HMI.out]; simp)
 rw [← HMN.out] at o3 ⊢
 clear own2 gr2 F6 E5 I5 o4' o5 hB5
 have F3 := FR.refl (Bx + 1) 141 w3
 go_wp2_with fail
 go_loopw [5, 7] (fun v y wr => ∃ k : Nat, k ≤ 4 ∧ y = .int .i64 k ∧ wr.ownsRow (Bx + 1) 141 2 v (lvNn m k) ((lvBn m k).map (Value.int .i64)) ∧ FR (Bx + 1) 141 w3 wr) (fun _ y _ => 4 - (intOf y).toNat)
 case atStart => exact ⟨0, by omega, rfl, o3, F3⟩
 case round =>
  obtain ⟨k, hk, rfl, o4, F4⟩ := hrel
  clear o3 F3
  obtain ⟨a4, c4, rfl⟩ := owns_form o4
  have hB4 := Nat.le_trans z3 F4.size
  by_cases hlt : k < 4
  ·have hd : decide ((k : Int) < 4) = true := by simp; omega
   obtain ⟨l1, l2⟩ := lv_bd Hm.out HV.out hlt
   have hbc := blkC_le l1 l2
   have hln := lvNn_le Hm.out HV.out HK0.out k (by omega)
   have I4 := F4.ib I3 (by decide)
   have HLs := Lib.hid (show lvBn m (k + 1) = lvBn m k ++ blkB (sub m.lv (k * 16) 16) from rfl)
   have HC := Lib.hid (show lvNn m k + blkC (sub m.lv (k * 16) 16) = lvNn m (k + 1) from rfl)
   have HBK := Lib.hid (fun w => l10Block_any (sub m.lv (k * 16) 16) w l1 l2)
   have HZB := Lib.hid (Mac.zs_blk Hm.out k hlt)
   generalize sub m.lv (k * 16) 16 = bz at *
   clear l1 l2
   go_wp2_with (refine wpList_iload 31 _ rfl rfl I4 (7 + k * 16) 16 rfl _ Tryd.underlying31 rfl size_A16s (by rw [Hl.out]; omega) _ (by rw [HZB.out]) ?_)
   refine (HBK.out _).mono ?_
   rintro e w5 ⟨a5, c5, rfl, o5, e5⟩
   have o4' := owns_ext o4 e5
   have F5 := F4.trans (FR.of_ext e5 hB4)
   have hB5 := Nat.le_trans hB4 e5.size
   obtain ⟨g5, rfl⟩ := own_ptr o5 (blkC_pos bz)
   go_wp2_with (at_builtin; refine wpList_appk _ rfl o4' hB5 _ _ 129 rfl (.agg #[.int .i64 0, .int .i64 0]) 16 Tryd.underlying129 info_Bin rfl (by decide) rfl _ _ _ _ rfl o5.1 (o5.cells rfl) (one_ints _) (by omega) (by omega) ?_; intro v2 w2 own2 gr2 _; refine Hid.out ?_)
   refine Lib.hid ?_
   obtain ⟨a6, c6, rfl⟩ := owns_form own2
   have F6 := F5.trans (FR.of_row o4' gr2 hB5)
   have o6 := ownc own2 (show _ = (lvBn m (k + 1)).map (Value.int .i64) by rw [HLs.out]; simp)
   rw [HC.out] at o6 ⊢
   clear own2 o5 o4' o4 F5 F4 e5 gr2 I4
   go_wp2
   go_roundw
   case rel => exact ⟨k + 1, by omega, by go_num, o6, F6⟩
   case measure => simp [intOf] <;> omega
  ·have HKR := Lib.hid (show k = 4 by omega)
   have hd : decide ((k : Int) < 4) = false := by simp; omega
   have H1 := Lib.hid (show lvNn m k = macN m by rw [HKR.out, macN, if_neg HK0.out])
   have H2 := Lib.hid (show lvBn m k = macL m by rw [HKR.out, macL, if_neg HK0.out])
   rw [H1.out, H2.out] at o4
   rw [H1.out]
   have hlo := F4.lo
   go_wp2
   go_ret
   exact ⟨_, _, rfl, owns_mono o4 (by have := HBx.out; omega), Below.trans E3 (hlo.mono (by have := HBx.out; omega))⟩
end Go.Proofs.YtbnhaegidfbgbaaDoor
namespace Go.Proofs.YtbnhaegidfbgbaaDoor
open Go.RowKit
set_option maxHeartbeats 1000000
set_option maxRecDepth 100000 in
theorem l10Macro_A (m : Mac) (w : World) (hm : m.ok) (hv : m.valid) (h1 : m.kind = 2) :
 Calls Tryd.prog 119 #[.agg (ic m.zs), .bool false] w fun e w' => ∃ a c, e = .returned (.slice a (macN m) c) ∧ w'.ownsRow w.heap.size 141 2 (.slice a (macN m) c) (macN m) ((macL m).map (Value.int .i64)) ∧ Ext w w' := by
 have Hl := Lib.hid (Mac.zs_len hm)
 have Hm := Lib.hid hm
 have HV := Lib.hid hv
 have HK0 := Lib.hid (show m.kind ≠ 0 by rw [h1]; decide)
 have HK1 := Lib.hid h1
 obtain ⟨Bx, hBx⟩ : ∃ Bx, Bx = w.heap.size := ⟨_, rfl⟩
 have E0 := (Ext.alloc w (.cells (ic m.zs) 34)).trans (Ext.alloc _ (.cells #[] 141))
 have I0 := (IB.new w 34 m.zs).alloc (.cells #[] 141)
 have o0 := World.ownsRow_made (base := Bx + 1) (e := 141) (size := 2) (w.alloc (.cells (ic m.zs) 34)) #[] 0 (by simp [hBx]) (by simp) rfl
 have z0 : Bx + 1 ≤ ((w.alloc (.cells (ic m.zs) 34)).alloc (.cells #[] 141)).heap.size := by simp [hBx]
 rw [World.size_alloc] at o0
 have hk := I0.cell (i := 0) (by rw [Mac.zs_len hm]; omega)
 rw [Mac.zs_kind, h1] at hk
 rw [← hBx] at I0 o0 hk
 have HBx := Lib.hid hBx
 have HMI := Lib.hid (show lvBn m 0 = [0, 1, 1, 1] ++ mdL m 4 by rw [lvBn, miL, if_neg (by rw [h1]; decide), hdL, h1]; simp)
 have HMN := Lib.hid (show lvNn m 0 = 2 + mdN m 4 by rw [lvNn, miN, if_neg (by rw [h1]; decide)])
 clear hm hv h1
 go_enter Tryd.func119, Tryd.ntmps119
 go_upto_region 2 with fail
 try simp only [World.size_alloc]
 rw [← hBx]
 clear hBx
 generalize (w.alloc (.cells (ic m.zs) 34)).alloc (.cells #[] 141) = w1 at *
 go_wp2_with (at_builtin; refine wpList_appk _ rfl (o0.alloc _) (by simp; omega) _ _ 129 rfl (.agg #[.int .i64 0, .int .i64 0]) 16 Tryd.underlying129 info_Bin rfl (by decide) rfl ⟨w1.heap.size, 0, none⟩ 2 2 [.int .i64 0, .int .i64 1, .int .i64 1, .int .i64 _] rfl rfl ((Sl_new w1 [.int .i64 0, .int .i64 1, .int .i64 1, .int .i64 _] 141).cellsOf _ (by simp)) (by intro u hu; simp at hu; rcases hu with rfl | rfl | rfl | rfl <;> rfl) (by omega) (by omega) ?_; intro v2 w2 own2 gr2 _; refine Hid.out ?_)
 refine Lib.hid ?_
 rw [show 0 + 2 = 2 from rfl] at own2
 try rw [show 0 + 2 = 2 from rfl]
 obtain ⟨a2, c2, rfl⟩ := owns_form own2
 have F2 := (FR.of_ext (B := Bx + 1) (T := 141) (Ext.alloc w1 (.cells #[.int .i64 0, .int .i64 1, .int .i64 1, .int .i64 _] 141)) z0).trans (FR.of_row (o0.alloc _) gr2 (by simp; omega))
 have E2 : Ext w w2 := Below.trans E0 (F2.lo.mono (by have := HBx.out; omega))
 have z2 := Nat.le_trans z0 F2.size
 have I2 := F2.ib I0 (by decide)
 have hk2 := I2.cell (i := 0) (by rw [Hl.out]; omega)
 rw [Mac.zs_kind, HK1.out] at hk2
 have o2 := ownc own2 (show _ = ([0, 1, 1, 1] ++ mdL m 0 : List Int).map (Value.int .i64) by simp [mdL])
 clear own2 gr2 F2 E0 I0 o0 z0 hk
 have hke : ((2 : Int) == 1) = false := rfl
 have F0 := FR.refl (Bx + 1) 141 w2
 go_wp2_with fail
 clear hk2 hke
 go_loopw [5, 6] (fun v y wr => ∃ k : Nat, k ≤ 4 ∧ y = .int .i64 k ∧ wr.ownsRow (Bx + 1) 141 2 v (2 + mdN m k) (([0, 1, 1, 1] ++ mdL m k).map (Value.int .i64)) ∧ FR (Bx + 1) 141 w2 wr) (fun _ y _ => 4 - (intOf y).toNat)
 case atStart => exact ⟨0, by omega, rfl, o2, F0⟩
 case round =>
  obtain ⟨k, hk, rfl, o4, F4⟩ := hrel
  clear o2 F0
  obtain ⟨a4, c4, rfl⟩ := owns_form o4
  have hB4 := Nat.le_trans z2 F4.size
  by_cases hlt : k < 4
  ·have hd : decide ((k : Int) < 4) = true := by simp; omega
   obtain ⟨z, ez, lz⟩ := md_rng HV.out HK1.out hlt
   have hmn := mdN_le HV.out HK1.out k (by omega)
   have q1 := numN_le (show z < 32768 by omega)
   have p1 := numN_pos z
   have cz := (F4.ib I2 (by decide)).cell (i := 3 + k) (by rw [Hl.out]; omega)
   rw [Mac.nth_mode Hm.out k hlt, ez] at cz
   have HLs := Lib.hid (show mdL m (k + 1) = mdL m k ++ numL z 9 by rw [mdL, ez]; simp)
   have HC := Lib.hid (show 2 + mdN m k + numN z = 2 + mdN m (k + 1) by rw [mdN, ez]; simp; omega)
   clear ez
   go_wp2_with fail
   refine (l10Number_at z 9 9 rfl _ (by omega) (by omega)).mono ?_
   rintro e w5 ⟨a5, c5, rfl, o5, e5⟩
   obtain ⟨g5, rfl⟩ := own_ptr o5 p1
   have o4' := owns_ext o4 e5
   have F5 := F4.trans (FR.of_ext e5 hB4)
   have hB5 := Nat.le_trans hB4 e5.size
   go_wp2_with (at_builtin; refine wpList_appk _ rfl o4' hB5 _ _ 129 rfl (.agg #[.int .i64 0, .int .i64 0]) 16 Tryd.underlying129 info_Bin rfl (by decide) rfl _ _ _ _ rfl o5.1 (o5.cells rfl) (one_ints _) (by omega) (by omega) ?_; intro v2 w6 own2 gr2 _; refine Hid.out ?_)
   refine Lib.hid ?_
   obtain ⟨a6, c6, rfl⟩ := owns_form own2
   have F6 := F5.trans (FR.of_row o4' gr2 hB5)
   have o6 := ownc own2 (show _ = ([0, 1, 1, 1] ++ mdL m (k + 1)).map (Value.int .i64) by rw [HLs.out]; simp)
   rw [HC.out] at o6 ⊢
   clear own2 o5 o4' o4 F5 F4 e5 gr2 cz
   go_wp2
   go_roundw
   case rel => exact ⟨k + 1, by omega, by go_num, o6, F6⟩
   case measure => simp [intOf] <;> omega
  ·have HKR := Lib.hid (show k = 4 by omega)
   have hd : decide ((k : Int) < 4) = false := by simp; omega
   have H1 := Lib.hid (show 2 + mdN m k = lvNn m 0 by rw [HKR.out, HMN.out])
   have H2 := Lib.hid (show [0, 1, 1, 1] ++ mdL m k = lvBn m 0 by rw [HKR.out, HMI.out])
   rw [H1.out, H2.out] at o4
   rw [H1.out]
   obtain ⟨w3, hw3⟩ : ∃ w3, w3 = wr := ⟨_, rfl⟩
   rw [← hw3] at o4 F4 hB4 ⊢
   clear hw3
   have E3 : Ext w w3 := Below.trans E2 (F4.lo.mono (by have := HBx.out; omega))
   have z3 := hB4
   have I3 := F4.ib I2 (by decide)
   have o3 := o4
   clear o4 F4 hB4 E2 I2
   have F3 := FR.refl (Bx + 1) 141 w3
   go_wp2_with fail
   go_loopw [5, 7] (fun v y wr => ∃ k : Nat, k ≤ 4 ∧ y = .int .i64 k ∧ wr.ownsRow (Bx + 1) 141 2 v (lvNn m k) ((lvBn m k).map (Value.int .i64)) ∧ FR (Bx + 1) 141 w3 wr) (fun _ y _ => 4 - (intOf y).toNat)
   case atStart => exact ⟨0, by omega, rfl, o3, F3⟩
   case round =>
    obtain ⟨k, hk, rfl, o4, F4⟩ := hrel
    clear o3 F3
    obtain ⟨a4, c4, rfl⟩ := owns_form o4
    have hB4 := Nat.le_trans z3 F4.size
    by_cases hlt : k < 4
    ·have hd : decide ((k : Int) < 4) = true := by simp; omega
     obtain ⟨l1, l2⟩ := lv_bd Hm.out HV.out hlt
     have hbc := blkC_le l1 l2
     have hln := lvNn_le Hm.out HV.out HK0.out k (by omega)
     have I4 := F4.ib I3 (by decide)
     have HLs := Lib.hid (show lvBn m (k + 1) = lvBn m k ++ blkB (sub m.lv (k * 16) 16) from rfl)
     have HC := Lib.hid (show lvNn m k + blkC (sub m.lv (k * 16) 16) = lvNn m (k + 1) from rfl)
     have HBK := Lib.hid (fun w => l10Block_any (sub m.lv (k * 16) 16) w l1 l2)
     have HZB := Lib.hid (Mac.zs_blk Hm.out k hlt)
     generalize sub m.lv (k * 16) 16 = bz at *
     clear l1 l2
     go_wp2_with (refine wpList_iload 31 _ rfl rfl I4 (7 + k * 16) 16 rfl _ Tryd.underlying31 rfl size_A16s (by rw [Hl.out]; omega) _ (by rw [HZB.out]) ?_)
     refine (HBK.out _).mono ?_
     rintro e w5 ⟨a5, c5, rfl, o5, e5⟩
     have o4' := owns_ext o4 e5
     have F5 := F4.trans (FR.of_ext e5 hB4)
     have hB5 := Nat.le_trans hB4 e5.size
     obtain ⟨g5, rfl⟩ := own_ptr o5 (blkC_pos bz)
     go_wp2_with (at_builtin; refine wpList_appk _ rfl o4' hB5 _ _ 129 rfl (.agg #[.int .i64 0, .int .i64 0]) 16 Tryd.underlying129 info_Bin rfl (by decide) rfl _ _ _ _ rfl o5.1 (o5.cells rfl) (one_ints _) (by omega) (by omega) ?_; intro v2 w2 own2 gr2 _; refine Hid.out ?_)
     refine Lib.hid ?_
     obtain ⟨a6, c6, rfl⟩ := owns_form own2
     have F6 := F5.trans (FR.of_row o4' gr2 hB5)
     have o6 := ownc own2 (show _ = (lvBn m (k + 1)).map (Value.int .i64) by rw [HLs.out]; simp)
     rw [HC.out] at o6 ⊢
     clear own2 o5 o4' o4 F5 F4 e5 gr2 I4
     go_wp2
     go_roundw
     case rel => exact ⟨k + 1, by omega, by go_num, o6, F6⟩
     case measure => simp [intOf] <;> omega
    ·have HKR := Lib.hid (show k = 4 by omega)
     have hd : decide ((k : Int) < 4) = false := by simp; omega
     have H1 := Lib.hid (show lvNn m k = macN m by rw [HKR.out, macN, if_neg HK0.out])
     have H2 := Lib.hid (show lvBn m k = macL m by rw [HKR.out, macL, if_neg HK0.out])
     rw [H1.out, H2.out] at o4
     rw [H1.out]
     have hlo := F4.lo
     go_wp2
     go_ret
     exact ⟨_, _, rfl, owns_mono o4 (by have := HBx.out; omega), Below.trans E3 (hlo.mono (by have := HBx.out; omega))⟩
/-- The reference's decisions for a macroblock. -/
theorem l10Macro_any (m : Mac) (w : World) (hm : m.ok) (hv : m.valid) :
 Calls Tryd.prog 119 #[.agg (ic m.zs), .bool false] w fun e w' => ∃ a c, e = .returned (.slice a (macN m) c) ∧ w'.ownsRow w.heap.size 141 2 (.slice a (macN m) c) (macN m) ((macL m).map (Value.int .i64)) ∧ Ext w w' := by
 by_cases h0 : m.kind = 0
 ·exact l10Macro_skip m w hm h0
 ·by_cases h1 : m.kind = 1
  ·exact l10Macro_I m w hm hv h1
  ·exact l10Macro_A m w hm hv (by have := hv.1; omega)
end Go.Proofs.YtbnhaegidfbgbaaDoor
namespace Go.Proofs.YtbnhaegidfbgbaaDoor
open Go.RowKit
set_option maxHeartbeats 400000
/-- Operation j has run too. -/
def updL (L : Nat → Bool) (j : Nat) : Nat → Bool := fun i => if i = j then true else L i
/-- What every operation must do. -/
structure ObOkL (P : Program) (ol : List Oper) (l : List Value) (df : List Deferred) (ds : List (Nat × Nat)) (anc : List (List Nat)) (V : Nat → (Nat → Value) → World → Prop) (G : (Nat → Bool) → World → Prop) (j : Nat) (o : Oper) : Prop where
 run : ∀ L xs w, G L w → L j = false → (∀ i, (anc.getD j []).contains i = true → L i = true) → (∀ i, (anc.getD i []).contains j = true → L i = false) → (∀ i, (anc.getD j []).contains i = true → V i xs w) → (∀ i d, (anc.getD i []).contains j = true → (ol.toArray[i]?).bind (·.dst) = some d → xs i = l.getD d undef) →
  OpGoal P ol.toArray o ⟨(patchS 0 l ds xs).toArray, df⟩ w (fun v w' => V j (upd xs j v) w' ∧ G (updL L j) w' ∧ ∀ i, i < ol.length → i ≠ j → (anc.getD i []).contains j = false → V i xs w → V i (upd xs j v) w')
theorem any_invL {P : Program} {ol : List Oper} {Q : Exit → Act → World → Prop} {l : List Value} {df : List Deferred} {w0 : World}
 (ds : List (Nat × Nat)) (anc : List (List Nat)) (V : Nat → (Nat → Value) → World → Prop) (G : (Nat → Bool) → World → Prop)
 (hds : dsOk ol ds l.length = true) (hanc : ancOk ol anc = true) (h0 : G (fun _ => false) w0)
 (hop : ∀ j o, ol[j]? = some o → ObOkL P ol l df ds anc V G j o)
 (hend : ∀ xs w', (∀ i, i < ol.length → V i xs w') → (∃ L, (∀ i, i < ol.length → L i = true) ∧ G L w') → Q .normal ⟨(patchS 0 l ds xs).toArray, df⟩ w') :
 wpAny P .any ol.toArray Q ol.length (Array.replicate ol.length false) ⟨l.toArray, df⟩ w0 := by
 simp only [dsOk, Bool.and_eq_true, List.all_eq_true, decide_eq_true_eq, beq_iff_eq, List.mem_range] at hds
 obtain ⟨⟨⟨ha, hd1⟩, hnd⟩, hd2⟩ := hds
 simp only [ancOk, Bool.and_eq_true, List.all_eq_true, beq_iff_eq, List.mem_range] at hanc
 obtain ⟨hal, hanc⟩ := hanc
 -- the states that are met
 have key : ∀ (fuel : Nat) (listed : Array Bool) (xs : Nat → Value) (w : World), listed.size = ol.length → listed.toList.count true + fuel = ol.length →
  (∀ i, listed.getD i false = true → ∀ j, (anc.getD i []).contains j = true → listed.getD j false = true) →
  (∀ i, i < ol.length → listed.getD i false = true → V i xs w) → G (fun i => listed.getD i false) w →
  (∀ i d, listed.getD i false = false → (ol.toArray[i]?).bind (·.dst) = some d → xs i = l.getD d undef) →
  wpAny P .any ol.toArray Q fuel listed ⟨(patchS 0 l ds xs).toArray, df⟩ w := by
  intro fuel
  have full : ∀ (listed : Array Bool), listed.size = ol.length → listed.toList.count true = ol.length → ∀ i, i < ol.length → listed.getD i false = true := by
   intro listed hs hc i hi
   have h1 : ∀ b ∈ listed.toList, true = b := List.count_eq_length.1 (by rw [hc]; simp [hs])
   have h2 := h1 listed[i] (by simp)
   simp [Array.getD, hs, hi, ← h2]
  have none_ready : ∀ (listed : Array Bool), listed.size = ol.length → listed.toList.count true < ol.length → Region.ready .any ol.toArray listed ≠ [] := by
   intro listed hs hc hr
   -- the least that is not listed
   have hex : ∃ i, i < ol.length ∧ listed.getD i false = false := by
    refine Classical.byContradiction fun hno => ?_
    have : listed.toList.count true = ol.length := by
     rw [← hs, ← Array.length_toList, List.count_eq_length]
     intro b hb
     obtain ⟨i, hi, rfl⟩ := List.getElem_of_mem hb
     simp at hi
     refine Classical.byContradiction fun hne => hno ⟨i, by omega, ?_⟩
     simp [Array.getD, hi]
     simpa using hne
    omega
   obtain ⟨i, ⟨hi, hli⟩, hmin⟩ := exists_least hex
   have : i ∈ Region.ready .any ol.toArray listed := by
    rw [mem_ready]
    refine ⟨?_, ol[i], by simp [hi], fun e he hb => ?_⟩
    ·simp [Array.getD, hs, hi] at hli ⊢; exact hli
    ·have h1 := (hanc i hi)
     simp only [List.getElem?_eq_getElem hi, Bool.and_eq_true, List.all_eq_true, decide_eq_true_eq] at h1
     have h2 := h1.1 e.on (List.mem_map.2 ⟨e, List.mem_filter.2 ⟨by simpa using he, hb⟩, rfl⟩)
     cases hle : listed.getD e.on false with
     | true => rfl
     | false => have := hmin e.on ⟨by omega, hle⟩; omega
   rw [hr] at this
   cases this
  induction fuel with
  | zero =>
   intro listed xs w hs hc hcl hV hG _
   have hf := full listed hs (by omega)
   refine ⟨?_, ?_⟩
   ·refine List.eq_nil_iff_forall_not_mem.2 fun i hi => ?_
    obtain ⟨h1, o, h2, -⟩ := mem_ready.1 hi
    have hlt : i < ol.length := by
     have := (Array.getElem?_eq_some_iff.1 h2).1
     simpa using this
    have := hf i hlt
    simp [Array.getD, hs, hlt] at this h1
    rw [this] at h1
    cases h1
   ·exact hend xs w (fun i hi => hV i hi (hf i hi)) ⟨_, hf, hG⟩
  | succ fuel ih =>
   intro listed xs w hs hc hcl hV hG hI
   refine ⟨fun hr => absurd hr (none_ready listed hs (by omega)), fun i hi => ?_⟩
   obtain ⟨h1, o, h2, h3⟩ := mem_ready.1 hi
   have hlt : i < ol.length := by
    have := (Array.getElem?_eq_some_iff.1 h2).1
    simpa using this
   have h2' : ol[i]? = some o := by simpa using h2
   have hun : listed.getD i false = false := by simp [Array.getD, hs, hlt] at h1 ⊢; exact h1
   have hA := hanc i hlt
   rw [h2'] at hA
   simp only [Bool.and_eq_true, List.all_eq_true, decide_eq_true_eq, Bool.or_eq_true, List.any_eq_true] at hA
   have dirL : ∀ d ∈ direct o, listed.getD d false = true := by
    intro d hd
    obtain ⟨e, he, rfl⟩ := List.mem_map.1 hd
    obtain ⟨he1, he2⟩ := List.mem_filter.1 he
    exact h3 e (by simpa using he1) he2
   have ancL : ∀ j, (anc.getD i []).contains j = true → listed.getD j false = true := by
    intro j hj
    rcases hA.2 j (by simpa using hj) with h | ⟨d, hd, h⟩
    ·exact dirL j (by simpa using h)
    ·exact hcl d (dirL d hd) j h
   have ltL : ∀ j, listed.getD j false = true → j < ol.length := by
    intro j hj
    refine Classical.byContradiction fun hge => ?_
    simp [Array.getD, show ¬ j < listed.size by omega] at hj
   have goal := (hop i o h2').run (fun i => listed.getD i false) xs w hG hun ancL (fun j hj => by
    cases hc2 : listed.getD j false with
    | false => rfl
    | true => have := hcl j hc2 i hj; rw [hun] at this; cases this) (fun j hj => hV j (ltL j (ancL j hj)) (ancL j hj)) (fun j d hj hd => hI j d (by
    cases hc2 : listed.getD j false with
    | false => rfl
    | true => have := hcl j hc2 i hj; rw [hun] at this; cases this) hd)
   refine wpOp_of_goal h2 goal fun v w' hp => ?_
   obtain ⟨hp1, hp2, hp3⟩ := hp
   have hcount : (listed.setIfInBounds i true).toList.count true = listed.toList.count true + 1 := by
    rw [Array.toList_setIfInBounds, List.count_set (by simp; omega)]
    have : listed.toList[i]'(by simp; omega) = false := by
     simp [Array.getD, hs, hlt] at hun
     simpa using hun
    simp [this]
   have hput : (⟨(patchS 0 l ds xs).toArray, df⟩ : Act).put o.dst v = ⟨(patchS 0 l ds (upd xs i v)).toArray, df⟩ := by
    cases hd : o.dst with
    | none =>
     have hni : i ∉ ds.map (·.2) := by
      intro hmem
      obtain ⟨x, hx, rfl⟩ := List.mem_map.1 hmem
      have := (hd1 x hx).2
      rw [h2'] at this
      simp [hd] at this
     have rest : ∀ (q : Nat) (l : List Value) (ds : List (Nat × Nat)), i ∉ ds.map (·.2) → patchS q l ds (upd xs i v) = patchS q l ds xs := by
      intro q l
      induction l generalizing q with
      | nil => intro ds _; simp [patchS]
      | cons u l ih2 =>
       intro ds hj
       cases ds with
       | nil => simp [patchS]
       | cons e ds =>
        obtain ⟨e1, e2⟩ := e
        simp only [patchS]
        simp at hj
        have : upd xs i v e2 = xs e2 := by unfold upd; rw [if_neg (fun h => hj.1 h.symm)]
        rw [this, ih2 (q + 1) ds (by simpa using hj.2), ih2 (q + 1) ((e1, e2) :: ds) (by simpa using hj)]
     rw [rest _ _ _ hni]
     rfl
    | some d =>
     have hmem : (d, i) ∈ ds := by
      have := hd2 i hlt
      rw [h2'] at this
      simpa [hd] using this
     have h5 := patchS_set xs v l 0 ds d i ha (by simpa using hnd) hmem
     simp only [Nat.sub_zero] at h5
     rw [← h5]
     simp [Act.put]
   rw [hput]
   refine ih _ _ _ (by simpa using hs) (by rw [hcount]; omega) ?_ ?_ (by
    have e : updL (fun i => listed.getD i false) i = fun q => (listed.setIfInBounds i true).getD q false := by
     funext q
     unfold updL
     by_cases hqi : q = i
     ·subst hqi
      rw [if_pos rfl, Array.getD_eq_getD_getElem?, Array.getElem?_setIfInBounds, if_pos rfl, if_pos (by omega)]
      rfl
     ·rw [if_neg hqi, getD_set_ne false (Ne.symm hqi)]
    rw [← e]
    exact hp2) (fun q d hq hd => ?_)
   rotate_right
   ·by_cases hqi : q = i
    ·subst hqi
     rw [Array.getD_eq_getD_getElem?, Array.getElem?_setIfInBounds, if_pos rfl, if_pos (by omega)] at hq
     simp at hq
    ·rw [getD_set_ne false (Ne.symm hqi)] at hq
     rw [show upd xs i v q = xs q by simp [upd, hqi]]
     exact hI q d hq hd
   ·intro q hq j hj
    by_cases hqi : q = i
    ·subst hqi
     exact getD_set_true (ancL j hj)
    ·rw [getD_set_ne false (Ne.symm hqi)] at hq
     exact getD_set_true (hcl q hq j hj)
   ·intro q hq hl
    by_cases hqi : q = i
    ·subst hqi; exact hp1
    ·rw [getD_set_ne false (Ne.symm hqi)] at hl
     refine hp3 q hq hqi ?_ (hV q hq hl)
     cases hc2 : (anc.getD q []).contains i with
     | false => rfl
     | true => have := hcl q hl i hc2; rw [hun] at this; cases this
 have init := key ol.length (Array.replicate ol.length false) (fun i => (((ol[i]?).bind (·.dst)).map (fun d => l.getD d undef)).getD undef) w0 (by simp) (by simp [List.count_replicate]) (fun i hi => by simp [Array.getD] at hi) (fun i _ hi => by simp [Array.getD] at hi) (by
  have e : (fun i => (Array.replicate ol.length false).getD i false) = fun _ => false := by
   funext i
   simp [Array.getD]
  rw [e]
  exact h0) (fun i d _ hd => by
  have hd' : (ol[i]?).bind (·.dst) = some d := by simpa using hd
  simp [hd'])
 have hsame := patchS_same (fun i => (((ol[i]?).bind (·.dst)).map (fun d => l.getD d undef)).getD undef) l 0 ds ha (fun x hx _ => by
  have := (hd1 x hx).2
  rw [this]
  simp)
 rw [hsame] at init
 simpa using init
/-- What operation j must do: own value v, what is kept of the others. -/
def ObL (P : Program) (n : Nat) (ops : Array Oper) (l : List Value) (df : List Deferred) (ds : List (Nat × Nat)) (anc : List (List Nat)) (W : Nat → Value → (Nat → Value) → World → Prop) (G : (Nat → Bool) → World → Prop) (j : Nat) (o : Oper) : Prop :=
 ∀ L xs w, G L w → L j = false → (∀ i, (anc.getD j []).contains i = true → L i = true) → (∀ i, (anc.getD i []).contains j = true → L i = false) → (∀ i, (anc.getD j []).contains i = true → W i (xs i) (mask anc i xs) w) → (∀ i d, (anc.getD i []).contains j = true → (ops[i]?).bind (·.dst) = some d → xs i = l.getD d undef) →
  OpGoal P ops o ⟨(patchS 0 l ds xs).toArray, df⟩ w (fun v w' => W j v (mask anc j xs) w' ∧ G (updL L j) w' ∧ ∀ i, i < n → i ≠ j → (anc.getD i []).contains j = false → ∀ own ys, W i own ys w → W i own ys w')
def ObsL (P : Program) (n : Nat) (ops : Array Oper) (l : List Value) (df : List Deferred) (ds : List (Nat × Nat)) (anc : List (List Nat)) (W : Nat → Value → (Nat → Value) → World → Prop) (G : (Nat → Bool) → World → Prop) : Nat → List Oper → Prop
 | _, [] => True
 | j, o :: os => ObL P n ops l df ds anc W G j o ∧ ObsL P n ops l df ds anc W G (j + 1) os
theorem ObsL.get {P : Program} {n : Nat} {ops : Array Oper} {l : List Value} {df : List Deferred} {ds : List (Nat × Nat)} {anc : List (List Nat)} {W : Nat → Value → (Nat → Value) → World → Prop} {G : (Nat → Bool) → World → Prop} :
 ∀ {os : List Oper} {p : Nat}, ObsL P n ops l df ds anc W G p os → ∀ j o, os[j]? = some o → ObL P n ops l df ds anc W G (p + j) o
 | [], _, _, j, o, h => by simp at h
 | u :: os, p, h, j, o, hj => by
  cases j with
  | zero => simp at hj; subst hj; exact h.1
  | succ j =>
   simp at hj
   have := h.2.get j o hj
   rwa [show p + 1 + j = p + (j + 1) by omega] at this
theorem any_inv2L {P : Program} {ol : List Oper} {Q : Exit → Act → World → Prop} {l : List Value} {df : List Deferred} {w0 : World}
 (ds : List (Nat × Nat)) (anc : List (List Nat)) (W : Nat → Value → (Nat → Value) → World → Prop) (G : (Nat → Bool) → World → Prop)
 (hds : dsOk ol ds l.length = true) (hanc : ancOk ol anc = true) (hself : (List.range ol.length).all (fun i => !(anc.getD i []).contains i) = true) (h0 : G (fun _ => false) w0)
 (hop : ObsL P ol.length ol.toArray l df ds anc W G 0 ol)
 (hend : ∀ xs w', (∀ i, i < ol.length → W i (xs i) (mask anc i xs) w') → (∃ L, (∀ i, i < ol.length → L i = true) ∧ G L w') → Q .normal ⟨(patchS 0 l ds xs).toArray, df⟩ w') :
 wpAny P .any ol.toArray Q ol.length (Array.replicate ol.length false) ⟨l.toArray, df⟩ w0 := by
 refine any_invL ds anc (fun i xs w => W i (xs i) (mask anc i xs) w) G hds hanc h0 (fun j o hj => ⟨fun L xs w hG hl ha hb hD hI => ?_⟩) hend
 have h1 := hop.get j o hj
 rw [Nat.zero_add] at h1
 have hjl : j < ol.length := (List.getElem?_eq_some_iff.1 hj).1
 have hs : (anc.getD j []).contains j = false := by
  simp only [List.all_eq_true, List.mem_range] at hself
  simpa using hself j hjl
 have h2 := h1 L xs w hG hl ha hb hD hI
 intro Qo K hK hQo
 refine h2 Qo K (fun v w' ⟨p1, p2, p3⟩ => hK v w' ⟨?_, p2, fun i hi hne hc hV => ?_⟩) hQo
 ·rw [mask_upd hs, show upd xs j v j = v by simp [upd]]; exact p1
 ·rw [mask_upd hc, show upd xs j v i = xs i by simp [upd, hne]]; exact p3 i hi hne hc _ _ hV
theorem wp_region_invL {P : Program} {id : Nat} {ol : List Oper} {Q : Exit → Act → World → Prop} {l : List Value} {df : List Deferred} {w0 : World}
 (hm : P.follows .mixedOrders = true) (ds : List (Nat × Nat)) (anc : List (List Nat)) (W : Nat → Value → (Nat → Value) → World → Prop) (G : (Nat → Bool) → World → Prop)
 (hds : dsOk ol ds l.length = true) (hanc : ancOk ol anc = true) (hself : (List.range ol.length).all (fun i => !(anc.getD i []).contains i) = true) (h0 : G (fun _ => false) w0.drew)
 (hop : ObsL P ol.length ol.toArray l df ds anc W G 0 ol)
 (hend : ∀ xs w', (∀ i, i < ol.length → W i (xs i) (mask anc i xs) w') → (∃ L, (∀ i, i < ol.length → L i = true) ∧ G L w') → Q .normal ⟨(patchS 0 l ds xs).toArray, df⟩ w') :
 (Code.region id ol.toArray true).wp P Q ⟨l.toArray, df⟩ w0 := by
 refine wp_region_any hm ?_
 rw [List.size_toArray]
 exact any_inv2L ds anc W G hds hanc hself h0 hop hend
/-! ### Within a round -/
/-- Left by its end alone. -/
def OnlyNormal (K : Act → World → Prop) : Exit → Act → World → Prop
 | .normal, a, w => K a w
 | _, _, _ => False
theorem rowsIn_wide {n l : Nat} {P : Program} {row : String} {args : Array Value} {w : World} {R : Value → World → Prop} (h : Rows P row args w R) : RowsIn (Fence.wide.inRound l) n P row args w R :=
 fun c cs _ => let ⟨v, w', r, s⟩ := h c cs; ⟨v, w', r, by rw [fenced_inRound]; exact stepsIn_wide.2 s⟩
theorem wpIn_of_wp {P : Program} {o : Oper} {a : Act} {w : World} {K K0 : Act → World → Prop} {Q : Exit → Act → World → Prop} (l n : Nat) (hnd : ∀ c, o.op ≠ .defer c) (h : o.wp P a w K (OnlyNormal K0)) : o.wpIn (Fence.wide.inRound l) n P a w K Q := by
 refine ⟨fun _ _ => trivial, ?_⟩
 rw [Oper.semAt_eq _ _ _ hnd]
 unfold Oper.wp at h
 generalize (execOp a.eval o).run P w = r at *
 have hl : ¬ LetsOut (OnlyNormal K0) := by rintro ⟨_, _, h⟩; exact h
 cases r with
 | ok x w' =>
  cases x with
  | enter f args =>
   refine ⟨fun hd => by simp [Fence.wide] at hd, CallsIn.inRound l (callsIn_wide.2 (Calls.mono h fun e w'' he => ?_))⟩
   cases e with
   | returned v => exact he
   | panicked c => exact he.elim
   | outgrown => exact (hl he).elim
  | row row args => exact ⟨fun hd => by simp [Fence.wide] at hd, rowsIn_wide h⟩
  | _ => first | exact h | exact h.elim
 | halt x w' =>
  cases x <;> exact h.elim
theorem anyIn_of_any {P : Program} {ops : Array Oper} {Q : Exit → Act → World → Prop} (l n : Nat) (hnd : ∀ (i : Nat) (o : Oper), ops[i]? = some o → ∀ c, o.op ≠ .defer c) :
 ∀ (fuel : Nat) (listed : Array Bool) (a : Act) (w : World), wpAny P .any ops (OnlyNormal (Q .normal)) fuel listed a w → wpAnyIn (Fence.wide.inRound l) n P .any ops Q fuel listed a w := by
 intro fuel
 induction fuel with
 | zero => intro listed a w h; exact h
 | succ fuel ih =>
  intro listed a w h
  refine ⟨h.1, fun i hi => ?_⟩
  have h2 := h.2 i hi
  unfold wpOp at h2
  unfold wpOpIn
  cases ho : ops[i]? with
  | none => rw [ho] at h2; exact ih _ _ _ h2
  | some o =>
   rw [ho] at h2
   simp only at h2 ⊢
   by_cases hw : Region.wanted o (yielded ops a.tmps) = true
   ·rw [if_pos hw] at h2 ⊢
    rcases h2 with h2 | ⟨-, _, _, h3⟩
    ·exact Oper.wpIn_mono (fun a w => ih _ a w) (wpIn_of_wp l n (hnd i o ho) h2)
    ·exact h3.elim
   ·rw [if_neg hw] at h2 ⊢
    exact ⟨fun _ _ => trivial, ih _ _ _ h2⟩
/-- No operation of the list is a deferred call. -/
def noDefer (ol : List Oper) : Bool := ol.all fun o => match o.op with | .defer _ => false | _ => true
theorem noDefer_get {ol : List Oper} (h : noDefer ol = true) (i : Nat) (o : Oper) (hi : ol.toArray[i]? = some o) : ∀ c, o.op ≠ .defer c := by
 intro c hc
 unfold noDefer at h
 rw [List.all_eq_true] at h
 have hm : o ∈ ol := by
  have : ol[i]? = some o := by simpa using hi
  exact List.mem_of_getElem? this
 have := h o hm
 rw [hc] at this
 cases this
theorem wpIn_region_invL {P : Program} {id rl rn : Nat} {ol : List Oper} {Q : Exit → Act → World → Prop} {l : List Value} {df : List Deferred} {w0 : World}
 (hm : P.follows .mixedOrders = true) (hnd : noDefer ol = true) (ds : List (Nat × Nat)) (anc : List (List Nat)) (W : Nat → Value → (Nat → Value) → World → Prop) (G : (Nat → Bool) → World → Prop)
 (hds : dsOk ol ds l.length = true) (hanc : ancOk ol anc = true) (hself : (List.range ol.length).all (fun i => !(anc.getD i []).contains i) = true) (h0 : G (fun _ => false) w0.drew)
 (hop : ObsL P ol.length ol.toArray l df ds anc W G 0 ol)
 (hend : ∀ xs w', (∀ i, i < ol.length → W i (xs i) (mask anc i xs) w') → (∃ L, (∀ i, i < ol.length → L i = true) ∧ G L w') → Q .normal ⟨(patchS 0 l ds xs).toArray, df⟩ w') :
 (Code.region id ol.toArray true).wpIn (Fence.wide.inRound rl) rn P Q ⟨l.toArray, df⟩ w0 := by
 refine wpIn_region_any hm ?_
 rw [List.size_toArray]
 exact anyIn_of_any rl rn (noDefer_get hnd) _ _ _ _ (any_inv2L ds anc W G hds hanc hself h0 hop hend)
end Go.Proofs.YtbnhaegidfbgbaaDoor
