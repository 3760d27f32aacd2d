/- InterMacro, both sides. | The cost of a difference and the validity of the samples around a block, both sides. | The best prediction mode, both sides. -/
import Derived.Test.YtbnhaegidfbgbaaDoorQe15
namespace Go.Proofs.YtbnhaegidfbgbaaDoor
open Go.RowKit
set_option maxHeartbeats 1000000
theorem spl_pre (pre L ys : List Int) (j : Nat) : spl (pre ++ L) (pre.length + j) ys = pre ++ spl L j ys := by
  unfold spl
  rw [List.take_length_add_append, Nat.add_assoc, List.drop_length_add_append]
  simp
theorem Mac.spl_lv {m : Mac} (h : m.ok) (j : Nat) (ys : List Int) : spl m.zs (7 + j) ys = Mac.zs { m with lv := spl m.lv j ys } := by
  have e : m.zs = (m.kind :: m.x :: m.y :: m.modes) ++ m.lv := by simp [Mac.zs]
  have l : (m.kind :: m.x :: m.y :: m.modes).length = 7 := by simp [h.modes]
  rw [e, ← l, spl_pre]
  simp [Mac.zs]
theorem zeroq_M : (Tryd.prog.info? 34).map (·.zero) = some (some (.agg (ic (zl 71)))) := by kernel_rfl
theorem zeroc_M : Tryd.zeroCells34 = ic (zl 71) := by kernel_rfl
theorem mac0_zz : mac0.zs = zl 71 := by decide
/-- The levels of an inter macroblock, of the first k blocks. -/
def intL (t r : Pic) (x y : Nat) (vx vy : Int) (q : Nat) : Nat → List Int
  | 0 => zl 64
  | k + 1 => spl (intL t r x y vx vy q k) (k * 16) (cod (dif (prt t ((x + k % 2 * 4 : Nat) : Int) ((y + k / 2 * 4 : Nat) : Int)) (pof (blkL r x y vx vy) (k % 2 * 4) (k / 2 * 4))) q)
theorem intL_len (t r : Pic) (x y : Nat) (vx vy : Int) (q : Nat) {k : Nat} (hk : k ≤ 4) : (intL t r x y vx vy q k).length = 64 := by
  induction k with
  | zero => exact zl_len 64
  | succ k ih =>
    have h := ih (by omega)
    unfold intL
    rw [spl_len (by rw [cod_len, h]; omega), h]
/-- The arguments of InterMacro are valid. -/
def okI (t r : Pic) (x y vx vy q : Int) : Prop := alikeP t r ∧ placeP t x y ∧ vv vx vy ∧ (0 ≤ q ∧ q ≤ 15)
noncomputable instance (t r : Pic) (x y vx vy q : Int) : Decidable (okI t r x y vx vy q) := Classical.propDecidable _
noncomputable def interP (t r : Pic) (x y vx vy q : Int) : Mac := if okI t r x y vx vy q then ⟨1, vx, vy, zero4, intL t r x.toNat y.toNat vx vy q.toNat 4⟩ else mac0
theorem interP_yes {t r : Pic} {x y vx vy q : Int} (h : okI t r x y vx vy q) : interP t r x y vx vy q = ⟨1, vx, vy, zero4, intL t r x.toNat y.toNat vx vy q.toNat 4⟩ := if_pos h
theorem interP_no {t r : Pic} {x y vx vy q : Int} (h : ¬ okI t r x y vx vy q) : interP t r x y vx vy q = mac0 := if_neg h
theorem interP_ok (t r : Pic) (x y vx vy q : Int) : (interP t r x y vx vy q).ok := by
  by_cases h : okI t r x y vx vy q
  · rw [interP_yes h]; exact ⟨rfl, intL_len _ _ _ _ _ _ _ (Nat.le_refl _)⟩
  · rw [interP_no h]; exact mac0_ok
def macI (vx vy : Int) (L : List Int) : Mac := ⟨1, vx, vy, zero4, L⟩
theorem macI_build (vx vy : Int) : ((Tryd.zeroCells34.setIfInBounds 0 (.int .i64 1)).setIfInBounds 1 (.int .i64 vx)).setIfInBounds 2 (.int .i64 vy) = ic (macI vx vy (zl 64)).zs := by kernel_rfl
theorem macI_ok (vx vy : Int) {L : List Int} (h : L.length = 64) : (macI vx vy L).ok := ⟨rfl, h⟩
set_option maxRecDepth 100000 in
set_option maxHeartbeats 2000000 in
theorem impl_InterMacro_no_0 (t r : Pic) (x y vx vy q : Int) (a b : Option Addr) (c d n l : Nat) (w : World) (hn : n = t.px.length) (hl : l = r.px.length) (nc : n ≤ 9223372036854775807) (lc : l ≤ 9223372036854775807) (s : Sl w a n (t.px.map (Value.int .i64))) (u : Sl w b l (r.px.map (Value.int .i64)))  (h0 : ¬ (alikeP t r)) :
    Calls Tryd.prog 10 #[.agg #[.int .i64 t.w, .int .i64 t.h, .slice a n c], .agg #[.int .i64 r.w, .int .i64 r.h, .slice b l d], .int .i64 x, .int .i64 y, .agg #[.int .i64 vx, .int .i64 vy], .int .i64 q] w fun e w' => e = .returned (.agg (ic (zl 71))) ∧ Ext w w' := by
  have HN := Lib.hid hn
  have HL := Lib.hid hl
  clear hn hl
  have D0 := Lib.hid (show decide (alikeP t r) = false from decide_eq_false h0)
  have a0_1 := Ext.alloc (w.alloc (.cells #[.int .i64 t.w, .int .i64 t.h, .slice a n c] 25)) (.cells #[.int .i64 r.w, .int .i64 r.h, .slice b l d] 25)
  have a0_2 := Ext.alloc ((w.alloc (.cells #[.int .i64 t.w, .int .i64 t.h, .slice a n c] 25)).alloc (.cells #[.int .i64 r.w, .int .i64 r.h, .slice b l d] 25)) (.cells #[.int .i64 vx, .int .i64 vy] 27)
  have a0_3 := Ext.alloc (((w.alloc (.cells #[.int .i64 t.w, .int .i64 t.h, .slice a n c] 25)).alloc (.cells #[.int .i64 r.w, .int .i64 r.h, .slice b l d] 25)).alloc (.cells #[.int .i64 vx, .int .i64 vy] 27)) (.cells (ic (zl 71)) 34)
  have X0_0 := a0_3.blk (a0_2.blk (a0_1.blk (blk_new w (.cells #[.int .i64 t.w, .int .i64 t.h, .slice a n c] 25))))
  have a1_2 := Ext.alloc ((w.alloc (.cells #[.int .i64 t.w, .int .i64 t.h, .slice a n c] 25)).alloc (.cells #[.int .i64 r.w, .int .i64 r.h, .slice b l d] 25)) (.cells #[.int .i64 vx, .int .i64 vy] 27)
  have a1_3 := Ext.alloc (((w.alloc (.cells #[.int .i64 t.w, .int .i64 t.h, .slice a n c] 25)).alloc (.cells #[.int .i64 r.w, .int .i64 r.h, .slice b l d] 25)).alloc (.cells #[.int .i64 vx, .int .i64 vy] 27)) (.cells (ic (zl 71)) 34)
  have X1_0 := a1_3.blk (a1_2.blk (blk_new (w.alloc (.cells #[.int .i64 t.w, .int .i64 t.h, .slice a n c] 25)) (.cells #[.int .i64 r.w, .int .i64 r.h, .slice b l d] 25)))
  have a2_3 := Ext.alloc (((w.alloc (.cells #[.int .i64 t.w, .int .i64 t.h, .slice a n c] 25)).alloc (.cells #[.int .i64 r.w, .int .i64 r.h, .slice b l d] 25)).alloc (.cells #[.int .i64 vx, .int .i64 vy] 27)) (.cells (ic (zl 71)) 34)
  have X2_0 := a2_3.blk (blk_new ((w.alloc (.cells #[.int .i64 t.w, .int .i64 t.h, .slice a n c] 25)).alloc (.cells #[.int .i64 r.w, .int .i64 r.h, .slice b l d] 25)) (.cells #[.int .i64 vx, .int .i64 vy] 27))
  have X3_0 := IB.new (((w.alloc (.cells #[.int .i64 t.w, .int .i64 t.h, .slice a n c] 25)).alloc (.cells #[.int .i64 r.w, .int .i64 r.h, .slice b l d] 25)).alloc (.cells #[.int .i64 vx, .int .i64 vy] 27)) 34 (zl 71)
  have E_0 := (((Ext.alloc w (.cells #[.int .i64 t.w, .int .i64 t.h, .slice a n c] 25)).trans (Ext.alloc (w.alloc (.cells #[.int .i64 t.w, .int .i64 t.h, .slice a n c] 25)) (.cells #[.int .i64 r.w, .int .i64 r.h, .slice b l d] 25))).trans (Ext.alloc ((w.alloc (.cells #[.int .i64 t.w, .int .i64 t.h, .slice a n c] 25)).alloc (.cells #[.int .i64 r.w, .int .i64 r.h, .slice b l d] 25)) (.cells #[.int .i64 vx, .int .i64 vy] 27))).trans (Ext.alloc (((w.alloc (.cells #[.int .i64 t.w, .int .i64 t.h, .slice a n c] 25)).alloc (.cells #[.int .i64 r.w, .int .i64 r.h, .slice b l d] 25)).alloc (.cells #[.int .i64 vx, .int .i64 vy] 27)) (.cells (ic (zl 71)) 34))
  simp only [World.size_alloc] at X1_0 X2_0 X3_0
  clear a0_1
  clear a0_2
  clear a0_3
  clear a1_2
  clear a1_3
  clear a2_3
  clear h0
  obtain ⟨-, k0_0, k0_1, k0_2, -⟩ := bx3 X0_0
  obtain ⟨-, k1_0, k1_1, k1_2, -⟩ := bx3 X1_0
  obtain ⟨-, k2_0, k2_1, -⟩ := bx2 X2_0
  go_enter Tryd.func10, Tryd.ntmps10
  go_wp2_with (refine wpList_iallocz 34 rfl rfl 71 zeroq_M ?_; (try simp only [World.size_alloc]))
  refine (alike_at t r a b c d n l _ HN.out HL.out nc lc (s.ext E_0) (u.ext E_0)).mono ?_
  rw [D0.out]
  rintro e w_1 ⟨rfl, e_1⟩
  have X0_1 := e_1.blk X0_0
  have X1_1 := e_1.blk X1_0
  have X2_1 := e_1.blk X2_0
  have X3_1 := X3_0.ext e_1
  have E_1 := E_0.trans e_1
  clear k0_0 k0_1 k0_2 X0_0 k1_0 k1_1 k1_2 X1_0 k2_0 k2_1 X2_0 X3_0 E_0
  clear e_1
  obtain ⟨-, k0_0, k0_1, k0_2, -⟩ := bx3 X0_1
  obtain ⟨-, k1_0, k1_1, k1_2, -⟩ := bx3 X1_1
  obtain ⟨-, k2_0, k2_1, -⟩ := bx2 X2_1
  have hbz := X3_1.lt
  go_wp2_with (refine wpList_istore 34 _ _ rfl rfl X3_1 0 71 rfl _ rfl (zl 71) zeroc_M size_Macro (zl_len 71) (by simp [zl]) ?_; intro wf pf gf; refine Hid.out ?_)
  rw [spl_all (by rw [zl_len])] at pf
  have Ef : Ext w wf := Ext.grown E_1 gf (fun q hq => by cases hq; omega)
  refine Lib.hid ?_
  go_wp2
  exact bodyPost_ret (v := .agg (ic (zl 71))) (results_cell_row rfl _ _ (w.heap.size + 1 + 1 + 1) 34 (ic (zl 71)) (0, 0) _ rfl pf Tryd.underlying34 rfl (by rw [ic_size, zl_len]; exact size_Macro)) rfl ⟨rfl, Ef⟩
set_option maxRecDepth 100000 in
set_option maxHeartbeats 2000000 in
theorem impl_InterMacro_no_1 (t r : Pic) (x y vx vy q : Int) (a b : Option Addr) (c d n l : Nat) (w : World) (hn : n = t.px.length) (hl : l = r.px.length) (nc : n ≤ 9223372036854775807) (lc : l ≤ 9223372036854775807) (s : Sl w a n (t.px.map (Value.int .i64))) (u : Sl w b l (r.px.map (Value.int .i64))) (h0 : alikeP t r) (h1 : ¬ ((0 ≤ x) ∧ (x < t.w) ∧ (x % 8 = 0) ∧ (0 ≤ y) ∧ (y < t.h) ∧ (y % 8 = 0))) :
    Calls Tryd.prog 10 #[.agg #[.int .i64 t.w, .int .i64 t.h, .slice a n c], .agg #[.int .i64 r.w, .int .i64 r.h, .slice b l d], .int .i64 x, .int .i64 y, .agg #[.int .i64 vx, .int .i64 vy], .int .i64 q] w fun e w' => e = .returned (.agg (ic (zl 71))) ∧ Ext w w' := by
  have HN := Lib.hid hn
  have HL := Lib.hid hl
  clear hn hl
  have D0 := Lib.hid (show decide (alikeP t r) = true from decide_eq_true h0)
  have D1 := Lib.hid (show decide ((0 ≤ x) ∧ (x < t.w) ∧ (x % 8 = 0) ∧ (0 ≤ y) ∧ (y < t.h) ∧ (y % 8 = 0)) = false from decide_eq_false h1)
  have a0_1 := Ext.alloc (w.alloc (.cells #[.int .i64 t.w, .int .i64 t.h, .slice a n c] 25)) (.cells #[.int .i64 r.w, .int .i64 r.h, .slice b l d] 25)
  have a0_2 := Ext.alloc ((w.alloc (.cells #[.int .i64 t.w, .int .i64 t.h, .slice a n c] 25)).alloc (.cells #[.int .i64 r.w, .int .i64 r.h, .slice b l d] 25)) (.cells #[.int .i64 vx, .int .i64 vy] 27)
  have a0_3 := Ext.alloc (((w.alloc (.cells #[.int .i64 t.w, .int .i64 t.h, .slice a n c] 25)).alloc (.cells #[.int .i64 r.w, .int .i64 r.h, .slice b l d] 25)).alloc (.cells #[.int .i64 vx, .int .i64 vy] 27)) (.cells (ic (zl 71)) 34)
  have X0_0 := a0_3.blk (a0_2.blk (a0_1.blk (blk_new w (.cells #[.int .i64 t.w, .int .i64 t.h, .slice a n c] 25))))
  have a1_2 := Ext.alloc ((w.alloc (.cells #[.int .i64 t.w, .int .i64 t.h, .slice a n c] 25)).alloc (.cells #[.int .i64 r.w, .int .i64 r.h, .slice b l d] 25)) (.cells #[.int .i64 vx, .int .i64 vy] 27)
  have a1_3 := Ext.alloc (((w.alloc (.cells #[.int .i64 t.w, .int .i64 t.h, .slice a n c] 25)).alloc (.cells #[.int .i64 r.w, .int .i64 r.h, .slice b l d] 25)).alloc (.cells #[.int .i64 vx, .int .i64 vy] 27)) (.cells (ic (zl 71)) 34)
  have X1_0 := a1_3.blk (a1_2.blk (blk_new (w.alloc (.cells #[.int .i64 t.w, .int .i64 t.h, .slice a n c] 25)) (.cells #[.int .i64 r.w, .int .i64 r.h, .slice b l d] 25)))
  have a2_3 := Ext.alloc (((w.alloc (.cells #[.int .i64 t.w, .int .i64 t.h, .slice a n c] 25)).alloc (.cells #[.int .i64 r.w, .int .i64 r.h, .slice b l d] 25)).alloc (.cells #[.int .i64 vx, .int .i64 vy] 27)) (.cells (ic (zl 71)) 34)
  have X2_0 := a2_3.blk (blk_new ((w.alloc (.cells #[.int .i64 t.w, .int .i64 t.h, .slice a n c] 25)).alloc (.cells #[.int .i64 r.w, .int .i64 r.h, .slice b l d] 25)) (.cells #[.int .i64 vx, .int .i64 vy] 27))
  have X3_0 := IB.new (((w.alloc (.cells #[.int .i64 t.w, .int .i64 t.h, .slice a n c] 25)).alloc (.cells #[.int .i64 r.w, .int .i64 r.h, .slice b l d] 25)).alloc (.cells #[.int .i64 vx, .int .i64 vy] 27)) 34 (zl 71)
  have E_0 := (((Ext.alloc w (.cells #[.int .i64 t.w, .int .i64 t.h, .slice a n c] 25)).trans (Ext.alloc (w.alloc (.cells #[.int .i64 t.w, .int .i64 t.h, .slice a n c] 25)) (.cells #[.int .i64 r.w, .int .i64 r.h, .slice b l d] 25))).trans (Ext.alloc ((w.alloc (.cells #[.int .i64 t.w, .int .i64 t.h, .slice a n c] 25)).alloc (.cells #[.int .i64 r.w, .int .i64 r.h, .slice b l d] 25)) (.cells #[.int .i64 vx, .int .i64 vy] 27))).trans (Ext.alloc (((w.alloc (.cells #[.int .i64 t.w, .int .i64 t.h, .slice a n c] 25)).alloc (.cells #[.int .i64 r.w, .int .i64 r.h, .slice b l d] 25)).alloc (.cells #[.int .i64 vx, .int .i64 vy] 27)) (.cells (ic (zl 71)) 34))
  simp only [World.size_alloc] at X1_0 X2_0 X3_0
  clear a0_1
  clear a0_2
  clear a0_3
  clear a1_2
  clear a1_3
  clear a2_3
  clear h0 h1
  obtain ⟨-, k0_0, k0_1, k0_2, -⟩ := bx3 X0_0
  obtain ⟨-, k1_0, k1_1, k1_2, -⟩ := bx3 X1_0
  obtain ⟨-, k2_0, k2_1, -⟩ := bx2 X2_0
  go_enter Tryd.func10, Tryd.ntmps10
  go_wp2_with (refine wpList_iallocz 34 rfl rfl 71 zeroq_M ?_; (try simp only [World.size_alloc]))
  refine (alike_at t r a b c d n l _ HN.out HL.out nc lc (s.ext E_0) (u.ext E_0)).mono ?_
  rw [D0.out]
  rintro e w_1 ⟨rfl, e_1⟩
  have X0_1 := e_1.blk X0_0
  have X1_1 := e_1.blk X1_0
  have X2_1 := e_1.blk X2_0
  have X3_1 := X3_0.ext e_1
  have E_1 := E_0.trans e_1
  clear k0_0 k0_1 k0_2 X0_0 k1_0 k1_1 k1_2 X1_0 k2_0 k2_1 X2_0 X3_0 E_0
  clear e_1
  obtain ⟨-, k0_0, k0_1, k0_2, -⟩ := bx3 X0_1
  obtain ⟨-, k1_0, k1_1, k1_2, -⟩ := bx3 X1_1
  obtain ⟨-, k2_0, k2_1, -⟩ := bx2 X2_1
  go_wp2_with fail
  refine (begins_any t x y a c n _).mono ?_
  rw [D1.out]
  rintro e w_2 ⟨rfl, e_2⟩
  have X0_2 := e_2.blk X0_1
  have X1_2 := e_2.blk X1_1
  have X2_2 := e_2.blk X2_1
  have X3_2 := X3_1.ext e_2
  have E_2 := E_1.trans e_2
  clear k0_0 k0_1 k0_2 X0_1 k1_0 k1_1 k1_2 X1_1 k2_0 k2_1 X2_1 X3_1 E_1
  clear e_2
  obtain ⟨-, k0_0, k0_1, k0_2, -⟩ := bx3 X0_2
  obtain ⟨-, k1_0, k1_1, k1_2, -⟩ := bx3 X1_2
  obtain ⟨-, k2_0, k2_1, -⟩ := bx2 X2_2
  have hbz := X3_2.lt
  go_wp2_with (refine wpList_istore 34 _ _ rfl rfl X3_2 0 71 rfl _ rfl (zl 71) zeroc_M size_Macro (zl_len 71) (by simp [zl]) ?_; intro wf pf gf; refine Hid.out ?_)
  rw [spl_all (by rw [zl_len])] at pf
  have Ef : Ext w wf := Ext.grown E_2 gf (fun q hq => by cases hq; omega)
  refine Lib.hid ?_
  go_wp2
  exact bodyPost_ret (v := .agg (ic (zl 71))) (results_cell_row rfl _ _ (w.heap.size + 1 + 1 + 1) 34 (ic (zl 71)) (0, 0) _ rfl pf Tryd.underlying34 rfl (by rw [ic_size, zl_len]; exact size_Macro)) rfl ⟨rfl, Ef⟩
set_option maxRecDepth 100000 in
set_option maxHeartbeats 2000000 in
theorem impl_InterMacro_no_2 (t r : Pic) (x y vx vy q : Int) (a b : Option Addr) (c d n l : Nat) (w : World) (hn : n = t.px.length) (hl : l = r.px.length) (nc : n ≤ 9223372036854775807) (lc : l ≤ 9223372036854775807) (s : Sl w a n (t.px.map (Value.int .i64))) (u : Sl w b l (r.px.map (Value.int .i64))) (h0 : alikeP t r) (h1 : (0 ≤ x) ∧ (x < t.w) ∧ (x % 8 = 0) ∧ (0 ≤ y) ∧ (y < t.h) ∧ (y % 8 = 0)) (h2 : ¬ (vv vx vy)) :
    Calls Tryd.prog 10 #[.agg #[.int .i64 t.w, .int .i64 t.h, .slice a n c], .agg #[.int .i64 r.w, .int .i64 r.h, .slice b l d], .int .i64 x, .int .i64 y, .agg #[.int .i64 vx, .int .i64 vy], .int .i64 q] w fun e w' => e = .returned (.agg (ic (zl 71))) ∧ Ext w w' := by
  have HN := Lib.hid hn
  have HL := Lib.hid hl
  clear hn hl
  have D0 := Lib.hid (show decide (alikeP t r) = true from decide_eq_true h0)
  have D1 := Lib.hid (show decide ((0 ≤ x) ∧ (x < t.w) ∧ (x % 8 = 0) ∧ (0 ≤ y) ∧ (y < t.h) ∧ (y % 8 = 0)) = true from decide_eq_true h1)
  have V2 := Lib.hid h2
  have a0_1 := Ext.alloc (w.alloc (.cells #[.int .i64 t.w, .int .i64 t.h, .slice a n c] 25)) (.cells #[.int .i64 r.w, .int .i64 r.h, .slice b l d] 25)
  have a0_2 := Ext.alloc ((w.alloc (.cells #[.int .i64 t.w, .int .i64 t.h, .slice a n c] 25)).alloc (.cells #[.int .i64 r.w, .int .i64 r.h, .slice b l d] 25)) (.cells #[.int .i64 vx, .int .i64 vy] 27)
  have a0_3 := Ext.alloc (((w.alloc (.cells #[.int .i64 t.w, .int .i64 t.h, .slice a n c] 25)).alloc (.cells #[.int .i64 r.w, .int .i64 r.h, .slice b l d] 25)).alloc (.cells #[.int .i64 vx, .int .i64 vy] 27)) (.cells (ic (zl 71)) 34)
  have X0_0 := a0_3.blk (a0_2.blk (a0_1.blk (blk_new w (.cells #[.int .i64 t.w, .int .i64 t.h, .slice a n c] 25))))
  have a1_2 := Ext.alloc ((w.alloc (.cells #[.int .i64 t.w, .int .i64 t.h, .slice a n c] 25)).alloc (.cells #[.int .i64 r.w, .int .i64 r.h, .slice b l d] 25)) (.cells #[.int .i64 vx, .int .i64 vy] 27)
  have a1_3 := Ext.alloc (((w.alloc (.cells #[.int .i64 t.w, .int .i64 t.h, .slice a n c] 25)).alloc (.cells #[.int .i64 r.w, .int .i64 r.h, .slice b l d] 25)).alloc (.cells #[.int .i64 vx, .int .i64 vy] 27)) (.cells (ic (zl 71)) 34)
  have X1_0 := a1_3.blk (a1_2.blk (blk_new (w.alloc (.cells #[.int .i64 t.w, .int .i64 t.h, .slice a n c] 25)) (.cells #[.int .i64 r.w, .int .i64 r.h, .slice b l d] 25)))
  have a2_3 := Ext.alloc (((w.alloc (.cells #[.int .i64 t.w, .int .i64 t.h, .slice a n c] 25)).alloc (.cells #[.int .i64 r.w, .int .i64 r.h, .slice b l d] 25)).alloc (.cells #[.int .i64 vx, .int .i64 vy] 27)) (.cells (ic (zl 71)) 34)
  have X2_0 := a2_3.blk (blk_new ((w.alloc (.cells #[.int .i64 t.w, .int .i64 t.h, .slice a n c] 25)).alloc (.cells #[.int .i64 r.w, .int .i64 r.h, .slice b l d] 25)) (.cells #[.int .i64 vx, .int .i64 vy] 27))
  have X3_0 := IB.new (((w.alloc (.cells #[.int .i64 t.w, .int .i64 t.h, .slice a n c] 25)).alloc (.cells #[.int .i64 r.w, .int .i64 r.h, .slice b l d] 25)).alloc (.cells #[.int .i64 vx, .int .i64 vy] 27)) 34 (zl 71)
  have E_0 := (((Ext.alloc w (.cells #[.int .i64 t.w, .int .i64 t.h, .slice a n c] 25)).trans (Ext.alloc (w.alloc (.cells #[.int .i64 t.w, .int .i64 t.h, .slice a n c] 25)) (.cells #[.int .i64 r.w, .int .i64 r.h, .slice b l d] 25))).trans (Ext.alloc ((w.alloc (.cells #[.int .i64 t.w, .int .i64 t.h, .slice a n c] 25)).alloc (.cells #[.int .i64 r.w, .int .i64 r.h, .slice b l d] 25)) (.cells #[.int .i64 vx, .int .i64 vy] 27))).trans (Ext.alloc (((w.alloc (.cells #[.int .i64 t.w, .int .i64 t.h, .slice a n c] 25)).alloc (.cells #[.int .i64 r.w, .int .i64 r.h, .slice b l d] 25)).alloc (.cells #[.int .i64 vx, .int .i64 vy] 27)) (.cells (ic (zl 71)) 34))
  simp only [World.size_alloc] at X1_0 X2_0 X3_0
  clear a0_1
  clear a0_2
  clear a0_3
  clear a1_2
  clear a1_3
  clear a2_3
  clear h0 h1 h2
  obtain ⟨-, k0_0, k0_1, k0_2, -⟩ := bx3 X0_0
  obtain ⟨-, k1_0, k1_1, k1_2, -⟩ := bx3 X1_0
  obtain ⟨-, k2_0, k2_1, -⟩ := bx2 X2_0
  go_enter Tryd.func10, Tryd.ntmps10
  go_wp2_with (refine wpList_iallocz 34 rfl rfl 71 zeroq_M ?_; (try simp only [World.size_alloc]))
  refine (alike_at t r a b c d n l _ HN.out HL.out nc lc (s.ext E_0) (u.ext E_0)).mono ?_
  rw [D0.out]
  rintro e w_1 ⟨rfl, e_1⟩
  have X0_1 := e_1.blk X0_0
  have X1_1 := e_1.blk X1_0
  have X2_1 := e_1.blk X2_0
  have X3_1 := X3_0.ext e_1
  have E_1 := E_0.trans e_1
  clear k0_0 k0_1 k0_2 X0_0 k1_0 k1_1 k1_2 X1_0 k2_0 k2_1 X2_0 X3_0 E_0
  clear e_1
  obtain ⟨-, k0_0, k0_1, k0_2, -⟩ := bx3 X0_1
  obtain ⟨-, k1_0, k1_1, k1_2, -⟩ := bx3 X1_1
  obtain ⟨-, k2_0, k2_1, -⟩ := bx2 X2_1
  go_wp2_with fail
  refine (begins_any t x y a c n _).mono ?_
  rw [D1.out]
  rintro e w_2 ⟨rfl, e_2⟩
  have X0_2 := e_2.blk X0_1
  have X1_2 := e_2.blk X1_1
  have X2_2 := e_2.blk X2_1
  have X3_2 := X3_1.ext e_2
  have E_2 := E_1.trans e_2
  clear k0_0 k0_1 k0_2 X0_1 k1_0 k1_1 k1_2 X1_1 k2_0 k2_1 X2_1 X3_1 E_1
  clear e_2
  obtain ⟨-, k0_0, k0_1, k0_2, -⟩ := bx3 X0_2
  obtain ⟨-, k1_0, k1_1, k1_2, -⟩ := bx3 X1_2
  obtain ⟨-, k2_0, k2_1, -⟩ := bx2 X2_2
  go_wp2_with fail
  refine (impl_VectorValid_no vx vy _ V2.out).mono ?_
  rintro e w_3 ⟨rfl, e_3⟩
  have X0_3 := e_3.blk X0_2
  have X1_3 := e_3.blk X1_2
  have X2_3 := e_3.blk X2_2
  have X3_3 := X3_2.ext e_3
  have E_3 := E_2.trans e_3
  clear k0_0 k0_1 k0_2 X0_2 k1_0 k1_1 k1_2 X1_2 k2_0 k2_1 X2_2 X3_2 E_2
  clear e_3
  obtain ⟨-, k0_0, k0_1, k0_2, -⟩ := bx3 X0_3
  obtain ⟨-, k1_0, k1_1, k1_2, -⟩ := bx3 X1_3
  obtain ⟨-, k2_0, k2_1, -⟩ := bx2 X2_3
  have hbz := X3_3.lt
  go_wp2_with (refine wpList_istore 34 _ _ rfl rfl X3_3 0 71 rfl _ rfl (zl 71) zeroc_M size_Macro (zl_len 71) (by simp [zl]) ?_; intro wf pf gf; refine Hid.out ?_)
  rw [spl_all (by rw [zl_len])] at pf
  have Ef : Ext w wf := Ext.grown E_3 gf (fun q hq => by cases hq; omega)
  refine Lib.hid ?_
  go_wp2
  exact bodyPost_ret (v := .agg (ic (zl 71))) (results_cell_row rfl _ _ (w.heap.size + 1 + 1 + 1) 34 (ic (zl 71)) (0, 0) _ rfl pf Tryd.underlying34 rfl (by rw [ic_size, zl_len]; exact size_Macro)) rfl ⟨rfl, Ef⟩
set_option maxRecDepth 100000 in
set_option maxHeartbeats 2000000 in
theorem impl_InterMacro_no_3 (t r : Pic) (x y vx vy q : Int) (a b : Option Addr) (c d n l : Nat) (w : World) (hn : n = t.px.length) (hl : l = r.px.length) (nc : n ≤ 9223372036854775807) (lc : l ≤ 9223372036854775807) (s : Sl w a n (t.px.map (Value.int .i64))) (u : Sl w b l (r.px.map (Value.int .i64))) (h0 : alikeP t r) (h1 : (0 ≤ x) ∧ (x < t.w) ∧ (x % 8 = 0) ∧ (0 ≤ y) ∧ (y < t.h) ∧ (y % 8 = 0)) (h2 : vv vx vy) (h3 : ¬ (0 ≤ q ∧ q ≤ 15)) :
    Calls Tryd.prog 10 #[.agg #[.int .i64 t.w, .int .i64 t.h, .slice a n c], .agg #[.int .i64 r.w, .int .i64 r.h, .slice b l d], .int .i64 x, .int .i64 y, .agg #[.int .i64 vx, .int .i64 vy], .int .i64 q] w fun e w' => e = .returned (.agg (ic (zl 71))) ∧ Ext w w' := by
  have HN := Lib.hid hn
  have HL := Lib.hid hl
  clear hn hl
  have D0 := Lib.hid (show decide (alikeP t r) = true from decide_eq_true h0)
  have D1 := Lib.hid (show decide ((0 ≤ x) ∧ (x < t.w) ∧ (x % 8 = 0) ∧ (0 ≤ y) ∧ (y < t.h) ∧ (y % 8 = 0)) = true from decide_eq_true h1)
  have V2 := Lib.hid h2
  have Q3 := Lib.hid h3
  have a0_1 := Ext.alloc (w.alloc (.cells #[.int .i64 t.w, .int .i64 t.h, .slice a n c] 25)) (.cells #[.int .i64 r.w, .int .i64 r.h, .slice b l d] 25)
  have a0_2 := Ext.alloc ((w.alloc (.cells #[.int .i64 t.w, .int .i64 t.h, .slice a n c] 25)).alloc (.cells #[.int .i64 r.w, .int .i64 r.h, .slice b l d] 25)) (.cells #[.int .i64 vx, .int .i64 vy] 27)
  have a0_3 := Ext.alloc (((w.alloc (.cells #[.int .i64 t.w, .int .i64 t.h, .slice a n c] 25)).alloc (.cells #[.int .i64 r.w, .int .i64 r.h, .slice b l d] 25)).alloc (.cells #[.int .i64 vx, .int .i64 vy] 27)) (.cells (ic (zl 71)) 34)
  have X0_0 := a0_3.blk (a0_2.blk (a0_1.blk (blk_new w (.cells #[.int .i64 t.w, .int .i64 t.h, .slice a n c] 25))))
  have a1_2 := Ext.alloc ((w.alloc (.cells #[.int .i64 t.w, .int .i64 t.h, .slice a n c] 25)).alloc (.cells #[.int .i64 r.w, .int .i64 r.h, .slice b l d] 25)) (.cells #[.int .i64 vx, .int .i64 vy] 27)
  have a1_3 := Ext.alloc (((w.alloc (.cells #[.int .i64 t.w, .int .i64 t.h, .slice a n c] 25)).alloc (.cells #[.int .i64 r.w, .int .i64 r.h, .slice b l d] 25)).alloc (.cells #[.int .i64 vx, .int .i64 vy] 27)) (.cells (ic (zl 71)) 34)
  have X1_0 := a1_3.blk (a1_2.blk (blk_new (w.alloc (.cells #[.int .i64 t.w, .int .i64 t.h, .slice a n c] 25)) (.cells #[.int .i64 r.w, .int .i64 r.h, .slice b l d] 25)))
  have a2_3 := Ext.alloc (((w.alloc (.cells #[.int .i64 t.w, .int .i64 t.h, .slice a n c] 25)).alloc (.cells #[.int .i64 r.w, .int .i64 r.h, .slice b l d] 25)).alloc (.cells #[.int .i64 vx, .int .i64 vy] 27)) (.cells (ic (zl 71)) 34)
  have X2_0 := a2_3.blk (blk_new ((w.alloc (.cells #[.int .i64 t.w, .int .i64 t.h, .slice a n c] 25)).alloc (.cells #[.int .i64 r.w, .int .i64 r.h, .slice b l d] 25)) (.cells #[.int .i64 vx, .int .i64 vy] 27))
  have X3_0 := IB.new (((w.alloc (.cells #[.int .i64 t.w, .int .i64 t.h, .slice a n c] 25)).alloc (.cells #[.int .i64 r.w, .int .i64 r.h, .slice b l d] 25)).alloc (.cells #[.int .i64 vx, .int .i64 vy] 27)) 34 (zl 71)
  have E_0 := (((Ext.alloc w (.cells #[.int .i64 t.w, .int .i64 t.h, .slice a n c] 25)).trans (Ext.alloc (w.alloc (.cells #[.int .i64 t.w, .int .i64 t.h, .slice a n c] 25)) (.cells #[.int .i64 r.w, .int .i64 r.h, .slice b l d] 25))).trans (Ext.alloc ((w.alloc (.cells #[.int .i64 t.w, .int .i64 t.h, .slice a n c] 25)).alloc (.cells #[.int .i64 r.w, .int .i64 r.h, .slice b l d] 25)) (.cells #[.int .i64 vx, .int .i64 vy] 27))).trans (Ext.alloc (((w.alloc (.cells #[.int .i64 t.w, .int .i64 t.h, .slice a n c] 25)).alloc (.cells #[.int .i64 r.w, .int .i64 r.h, .slice b l d] 25)).alloc (.cells #[.int .i64 vx, .int .i64 vy] 27)) (.cells (ic (zl 71)) 34))
  simp only [World.size_alloc] at X1_0 X2_0 X3_0
  clear a0_1
  clear a0_2
  clear a0_3
  clear a1_2
  clear a1_3
  clear a2_3
  clear h0 h1 h2 h3
  obtain ⟨-, k0_0, k0_1, k0_2, -⟩ := bx3 X0_0
  obtain ⟨-, k1_0, k1_1, k1_2, -⟩ := bx3 X1_0
  obtain ⟨-, k2_0, k2_1, -⟩ := bx2 X2_0
  go_enter Tryd.func10, Tryd.ntmps10
  go_wp2_with (refine wpList_iallocz 34 rfl rfl 71 zeroq_M ?_; (try simp only [World.size_alloc]))
  refine (alike_at t r a b c d n l _ HN.out HL.out nc lc (s.ext E_0) (u.ext E_0)).mono ?_
  rw [D0.out]
  rintro e w_1 ⟨rfl, e_1⟩
  have X0_1 := e_1.blk X0_0
  have X1_1 := e_1.blk X1_0
  have X2_1 := e_1.blk X2_0
  have X3_1 := X3_0.ext e_1
  have E_1 := E_0.trans e_1
  clear k0_0 k0_1 k0_2 X0_0 k1_0 k1_1 k1_2 X1_0 k2_0 k2_1 X2_0 X3_0 E_0
  clear e_1
  obtain ⟨-, k0_0, k0_1, k0_2, -⟩ := bx3 X0_1
  obtain ⟨-, k1_0, k1_1, k1_2, -⟩ := bx3 X1_1
  obtain ⟨-, k2_0, k2_1, -⟩ := bx2 X2_1
  go_wp2_with fail
  refine (begins_any t x y a c n _).mono ?_
  rw [D1.out]
  rintro e w_2 ⟨rfl, e_2⟩
  have X0_2 := e_2.blk X0_1
  have X1_2 := e_2.blk X1_1
  have X2_2 := e_2.blk X2_1
  have X3_2 := X3_1.ext e_2
  have E_2 := E_1.trans e_2
  clear k0_0 k0_1 k0_2 X0_1 k1_0 k1_1 k1_2 X1_1 k2_0 k2_1 X2_1 X3_1 E_1
  clear e_2
  obtain ⟨-, k0_0, k0_1, k0_2, -⟩ := bx3 X0_2
  obtain ⟨-, k1_0, k1_1, k1_2, -⟩ := bx3 X1_2
  obtain ⟨-, k2_0, k2_1, -⟩ := bx2 X2_2
  go_wp2_with fail
  refine (impl_VectorValid_yes vx vy _ V2.out).mono ?_
  rintro e w_3 ⟨rfl, e_3⟩
  have X0_3 := e_3.blk X0_2
  have X1_3 := e_3.blk X1_2
  have X2_3 := e_3.blk X2_2
  have X3_3 := X3_2.ext e_3
  have E_3 := E_2.trans e_3
  clear k0_0 k0_1 k0_2 X0_2 k1_0 k1_1 k1_2 X1_2 k2_0 k2_1 X2_2 X3_2 E_2
  clear e_3
  obtain ⟨-, k0_0, k0_1, k0_2, -⟩ := bx3 X0_3
  obtain ⟨-, k1_0, k1_1, k1_2, -⟩ := bx3 X1_3
  obtain ⟨-, k2_0, k2_1, -⟩ := bx2 X2_3
  go_wp2_with fail
  refine (qV_out q _ Q3.out).mono ?_
  rintro e w_s3 ⟨rfl, rfl⟩
  have hbz := X3_3.lt
  go_wp2_with (refine wpList_istore 34 _ _ rfl rfl X3_3 0 71 rfl _ rfl (zl 71) zeroc_M size_Macro (zl_len 71) (by simp [zl]) ?_; intro wf pf gf; refine Hid.out ?_)
  rw [spl_all (by rw [zl_len])] at pf
  have Ef : Ext w wf := Ext.grown E_3 gf (fun q hq => by cases hq; omega)
  refine Lib.hid ?_
  go_wp2
  exact bodyPost_ret (v := .agg (ic (zl 71))) (results_cell_row rfl _ _ (w.heap.size + 1 + 1 + 1) 34 (ic (zl 71)) (0, 0) _ rfl pf Tryd.underlying34 rfl (by rw [ic_size, zl_len]; exact size_Macro)) rfl ⟨rfl, Ef⟩
set_option maxRecDepth 100000 in
set_option maxHeartbeats 2000000 in
theorem impl_InterMacro_yes_4 (t r : Pic) (x y : Nat) (vx vy : Int) (q : Nat) (a b : Option Addr) (c d n l : Nat) (w : World) (hT : TabQ w) (hn : n = t.px.length) (hl : l = r.px.length) (nc : n ≤ 9223372036854775807) (lc : l ≤ 9223372036854775807) (s : Sl w a n (t.px.map (Value.int .i64))) (u : Sl w b l (r.px.map (Value.int .i64))) (hrv : r.valid) (htv : t.valid) (hxx : x ≤ 24) (hyy : y ≤ 24) (hvv : vv vx vy) (hq : q < 16) (h0 : alikeP t r) (h1 : (0 ≤ (x : Int)) ∧ ((x : Int) < t.w) ∧ ((x : Int) % 8 = 0) ∧ (0 ≤ (y : Int)) ∧ ((y : Int) < t.h) ∧ ((y : Int) % 8 = 0)) (h2 : vv vx vy) (h3 : 0 ≤ (q : Int) ∧ (q : Int) ≤ 15) :
    Calls Tryd.prog 10 #[.agg #[.int .i64 t.w, .int .i64 t.h, .slice a n c], .agg #[.int .i64 r.w, .int .i64 r.h, .slice b l d], .int .i64 (x : Nat), .int .i64 (y : Nat), .agg #[.int .i64 vx, .int .i64 vy], .int .i64 (q : Nat)] w fun e w' => e = .returned (.agg (ic (macI vx vy (intL t r x y vx vy q 4)).zs)) ∧ Ext w w' := by
  have HN := Lib.hid hn
  have HL := Lib.hid hl
  clear hn hl
  have D0 := Lib.hid (show decide (alikeP t r) = true from decide_eq_true h0)
  have D1 := Lib.hid (show decide ((0 ≤ (x : Int)) ∧ ((x : Int) < t.w) ∧ ((x : Int) % 8 = 0) ∧ (0 ≤ (y : Int)) ∧ ((y : Int) < t.h) ∧ ((y : Int) % 8 = 0)) = true from decide_eq_true h1)
  have V2 := Lib.hid h2
  have Q3 := Lib.hid h3
  have a0_1 := Ext.alloc (w.alloc (.cells #[.int .i64 t.w, .int .i64 t.h, .slice a n c] 25)) (.cells #[.int .i64 r.w, .int .i64 r.h, .slice b l d] 25)
  have a0_2 := Ext.alloc ((w.alloc (.cells #[.int .i64 t.w, .int .i64 t.h, .slice a n c] 25)).alloc (.cells #[.int .i64 r.w, .int .i64 r.h, .slice b l d] 25)) (.cells #[.int .i64 vx, .int .i64 vy] 27)
  have a0_3 := Ext.alloc (((w.alloc (.cells #[.int .i64 t.w, .int .i64 t.h, .slice a n c] 25)).alloc (.cells #[.int .i64 r.w, .int .i64 r.h, .slice b l d] 25)).alloc (.cells #[.int .i64 vx, .int .i64 vy] 27)) (.cells (ic (zl 71)) 34)
  have X0_0 := a0_3.blk (a0_2.blk (a0_1.blk (blk_new w (.cells #[.int .i64 t.w, .int .i64 t.h, .slice a n c] 25))))
  have a1_2 := Ext.alloc ((w.alloc (.cells #[.int .i64 t.w, .int .i64 t.h, .slice a n c] 25)).alloc (.cells #[.int .i64 r.w, .int .i64 r.h, .slice b l d] 25)) (.cells #[.int .i64 vx, .int .i64 vy] 27)
  have a1_3 := Ext.alloc (((w.alloc (.cells #[.int .i64 t.w, .int .i64 t.h, .slice a n c] 25)).alloc (.cells #[.int .i64 r.w, .int .i64 r.h, .slice b l d] 25)).alloc (.cells #[.int .i64 vx, .int .i64 vy] 27)) (.cells (ic (zl 71)) 34)
  have X1_0 := a1_3.blk (a1_2.blk (blk_new (w.alloc (.cells #[.int .i64 t.w, .int .i64 t.h, .slice a n c] 25)) (.cells #[.int .i64 r.w, .int .i64 r.h, .slice b l d] 25)))
  have a2_3 := Ext.alloc (((w.alloc (.cells #[.int .i64 t.w, .int .i64 t.h, .slice a n c] 25)).alloc (.cells #[.int .i64 r.w, .int .i64 r.h, .slice b l d] 25)).alloc (.cells #[.int .i64 vx, .int .i64 vy] 27)) (.cells (ic (zl 71)) 34)
  have X2_0 := a2_3.blk (blk_new ((w.alloc (.cells #[.int .i64 t.w, .int .i64 t.h, .slice a n c] 25)).alloc (.cells #[.int .i64 r.w, .int .i64 r.h, .slice b l d] 25)) (.cells #[.int .i64 vx, .int .i64 vy] 27))
  have X3_0 := IB.new (((w.alloc (.cells #[.int .i64 t.w, .int .i64 t.h, .slice a n c] 25)).alloc (.cells #[.int .i64 r.w, .int .i64 r.h, .slice b l d] 25)).alloc (.cells #[.int .i64 vx, .int .i64 vy] 27)) 34 (zl 71)
  have E_0 := (((Ext.alloc w (.cells #[.int .i64 t.w, .int .i64 t.h, .slice a n c] 25)).trans (Ext.alloc (w.alloc (.cells #[.int .i64 t.w, .int .i64 t.h, .slice a n c] 25)) (.cells #[.int .i64 r.w, .int .i64 r.h, .slice b l d] 25))).trans (Ext.alloc ((w.alloc (.cells #[.int .i64 t.w, .int .i64 t.h, .slice a n c] 25)).alloc (.cells #[.int .i64 r.w, .int .i64 r.h, .slice b l d] 25)) (.cells #[.int .i64 vx, .int .i64 vy] 27))).trans (Ext.alloc (((w.alloc (.cells #[.int .i64 t.w, .int .i64 t.h, .slice a n c] 25)).alloc (.cells #[.int .i64 r.w, .int .i64 r.h, .slice b l d] 25)).alloc (.cells #[.int .i64 vx, .int .i64 vy] 27)) (.cells (ic (zl 71)) 34))
  simp only [World.size_alloc] at X1_0 X2_0 X3_0
  clear a0_1
  clear a0_2
  clear a0_3
  clear a1_2
  clear a1_3
  clear a2_3
  clear h0 h1 h2 h3
  obtain ⟨-, k0_0, k0_1, k0_2, -⟩ := bx3 X0_0
  obtain ⟨-, k1_0, k1_1, k1_2, -⟩ := bx3 X1_0
  obtain ⟨-, k2_0, k2_1, -⟩ := bx2 X2_0
  go_enter Tryd.func10, Tryd.ntmps10
  go_wp2_with (refine wpList_iallocz 34 rfl rfl 71 zeroq_M ?_; (try simp only [World.size_alloc]))
  refine (alike_at t r a b c d n l _ HN.out HL.out nc lc (s.ext E_0) (u.ext E_0)).mono ?_
  rw [D0.out]
  rintro e w_1 ⟨rfl, e_1⟩
  have X0_1 := e_1.blk X0_0
  have X1_1 := e_1.blk X1_0
  have X2_1 := e_1.blk X2_0
  have X3_1 := X3_0.ext e_1
  have E_1 := E_0.trans e_1
  clear k0_0 k0_1 k0_2 X0_0 k1_0 k1_1 k1_2 X1_0 k2_0 k2_1 X2_0 X3_0 E_0
  clear e_1
  obtain ⟨-, k0_0, k0_1, k0_2, -⟩ := bx3 X0_1
  obtain ⟨-, k1_0, k1_1, k1_2, -⟩ := bx3 X1_1
  obtain ⟨-, k2_0, k2_1, -⟩ := bx2 X2_1
  go_wp2_with fail
  refine (begins_any t x y a c n _).mono ?_
  rw [D1.out]
  rintro e w_2 ⟨rfl, e_2⟩
  have X0_2 := e_2.blk X0_1
  have X1_2 := e_2.blk X1_1
  have X2_2 := e_2.blk X2_1
  have X3_2 := X3_1.ext e_2
  have E_2 := E_1.trans e_2
  clear k0_0 k0_1 k0_2 X0_1 k1_0 k1_1 k1_2 X1_1 k2_0 k2_1 X2_1 X3_1 E_1
  clear e_2
  obtain ⟨-, k0_0, k0_1, k0_2, -⟩ := bx3 X0_2
  obtain ⟨-, k1_0, k1_1, k1_2, -⟩ := bx3 X1_2
  obtain ⟨-, k2_0, k2_1, -⟩ := bx2 X2_2
  go_wp2_with fail
  refine (impl_VectorValid_yes vx vy _ V2.out).mono ?_
  rintro e w_3 ⟨rfl, e_3⟩
  have X0_3 := e_3.blk X0_2
  have X1_3 := e_3.blk X1_2
  have X2_3 := e_3.blk X2_2
  have X3_3 := X3_2.ext e_3
  have E_3 := E_2.trans e_3
  clear k0_0 k0_1 k0_2 X0_2 k1_0 k1_1 k1_2 X1_2 k2_0 k2_1 X2_2 X3_2 E_2
  clear e_3
  obtain ⟨-, k0_0, k0_1, k0_2, -⟩ := bx3 X0_3
  obtain ⟨-, k1_0, k1_1, k1_2, -⟩ := bx3 X1_3
  obtain ⟨-, k2_0, k2_1, -⟩ := bx2 X2_3
  go_wp2_with fail
  refine (qV_in q _ Q3.out).mono ?_
  rintro e w_s3 ⟨rfl, rfl⟩
  have hlo := X3_3.lt
  obtain ⟨B, hB⟩ : ∃ B, B = w.heap.size := ⟨_, rfl⟩
  rw [← hB] at X0_3 X1_3 X2_3 X3_3 hlo ⊢
  have hwB : w.heap.size ≤ B := by omega
  have HB := Lib.hid hB
  clear hB k2_0 k2_1
  obtain ⟨-, k2_0, k2_1, -⟩ := bx2 X2_3
  have ia := IB.new w_3 34 (zl 71)
  have ea := Ext.alloc w_3 (.cells (ic (zl 71)) 34)
  have Y0 := ea.blk X0_3
  have Y1 := ea.blk X1_3
  have Y2 := ea.blk X2_3
  have Y3 := X3_3.ext ea
  have F0 := E_3.trans ea
  clear X0_3 X1_3 X2_3 X3_3 E_3 ea k0_0 k0_1 k0_2 k1_0 k1_1 k1_2
  obtain ⟨O, hO⟩ : ∃ O, O = w_3.heap.size := ⟨_, rfl⟩
  go_wp2_with (first | (refine wpList_iallocz 34 rfl rfl 71 zeroq_M ?_; (try simp only [World.size_alloc])) | (refine wpList_istore 34 _ _ rfl rfl ia 0 71 rfl _ rfl (macI vx vy (zl 64)).zs (by exact macI_build vx vy) size_Macro (Mac.zs_len (macI_ok vx vy (zl_len 64))) (by simp [zl]) ?_; intro w5 i5 g5; refine Hid.out ?_))
  rw [spl_all (by rw [Mac.zs_len (macI_ok vx vy (zl_len 64)), zl_len])] at i5
  rw [← hO] at i5 g5 hlo ⊢
  have HO := Lib.hid hO
  clear hO ia
  have Z0 := blk_gr Y0 g5 (by simp; omega)
  have Z1 := blk_gr Y1 g5 (by simp; omega)
  have Z2 := blk_gr Y2 g5 (by simp; omega)
  have Z3 := Y3.gr g5 (by simp; omega)
  have F1 : Ext w w5 := Ext.grown F0 g5 (fun k e => by cases e; omega)
  clear Y0 Y1 Y2 Y3 F0 g5 k2_0 k2_1
  refine Lib.hid ?_
  obtain ⟨-, k1, k2, k3, -⟩ := bx3 Z1
  obtain ⟨-, k4, k5, -⟩ := bx2 Z2
  go_wp2_with fail
  refine (moved_any r x y vx vy b d l _ hrv HL.out (u.ext F1) (by omega) (by omega) (by omega) (by omega) hvv.1 hvv.2.1 hvv.2.2.1 hvv.2.2.2).mono ?_
  rintro e w6 ⟨a6, c6, rfl, o6, e6⟩
  have hO5 := i5.lt
  have S6ne : ∀ z, a6 = some z → z.block ≠ O := fun z hz => by have := (o6.lt z.block (by rw [hz]; rfl)).1; omega
  have hBO : B + 1 + 1 + 1 < O := hlo
  have S6 := Sl.of_owns o6
  have G0 := e6.blk Z0
  have G3 := Z3.ext e6
  have j6 := i5.ext e6
  have F2 := F1.trans e6
  clear Z0 Z1 Z2 Z3 F1 i5 e6 o6 k1 k2 k3 k4 k5 hvv hlo
  go_wp2_with fail
  go_loopw [47] (fun i wr => ∃ k : Nat, k ≤ 4 ∧ i = .int .i64 k ∧ Ext w wr ∧ Hid (wr.heap[B]? = some (.cells #[.int .i64 t.w, .int .i64 t.h, .slice a n c] 25 (0, 0))) ∧ IB wr (B + 1 + 1 + 1) 34 (zl 71) ∧ IB wr O 34 (macI vx vy (intL t r x y vx vy q k)).zs ∧ Hid (Sl wr a6 64 ((blkL r x y vx vy).map (Value.int .i64)))) (fun i _ => 4 - (intOf i).toNat)
  case atStart => exact ⟨0, by omega, rfl, F2, Lib.hid G0, G3, j6, Lib.hid S6⟩
  case round =>
    obtain ⟨k, hk, rfl, F3, H0, H3, jk, Sk⟩ := hrel
    clear F2 G0 G3 j6 S6
    have hLl := intL_len t r x y vx vy q hk
    have Hzl := Lib.hid (Mac.zs_len (macI_ok vx vy hLl))
    by_cases hlt : k < 4
    · have hd : decide ((k : Int) < 4) = true := by simp; omega
      have hst := Mac.spl_lv (macI_ok vx vy hLl) (k * 16) (cod (dif (prt t ((x + k % 2 * 4 : Nat) : Int) ((y + k / 2 * 4 : Nat) : Int)) (pof (blkL r x y vx vy) (k % 2 * 4) (k / 2 * 4))) q)
      have Hst := Lib.hid (show spl (macI vx vy (intL t r x y vx vy q k)).zs (7 + k * 16) (cod (dif (prt t ((x + k % 2 * 4 : Nat) : Int) ((y + k / 2 * 4 : Nat) : Int)) (pof (blkL r x y vx vy) (k % 2 * 4) (k / 2 * 4))) q) = (macI vx vy (intL t r x y vx vy q (k + 1))).zs from hst)
      have hxi : (x : Int) + (k : Int) % 2 * 4 = ((x + k % 2 * 4 : Nat) : Int) := by omega
      have hyj : (y : Int) + (k : Int) / 2 * 4 = ((y + k / 2 * 4 : Nat) : Int) := by omega
      obtain ⟨xi, hxie⟩ : ∃ v, v = x + k % 2 * 4 := ⟨_, rfl⟩
      obtain ⟨yj, hyje⟩ : ∃ v, v = y + k / 2 * 4 := ⟨_, rfl⟩
      rw [← hxie] at hxi Hst
      rw [← hyje] at hyj Hst
      have hxb : xi ≤ 100 := by omega
      have hyb : yj ≤ 100 := by omega
      have Hxi := Lib.hid hxi
      have Hyj := Lib.hid hyj
      clear hst hxi hyj hxie hyje hLl
      obtain ⟨-, k1, k2, k3, -⟩ := bx3 H0.out
      go_wp2_with fail
      refine (partAt_any k _ hlt).mono ?_
      rintro e wx1 ⟨rfl, rfl⟩
      go_wp2_with fail
      rw [Hxi.out, Hyj.out]
      refine (part_any t (xi : Int) (yj : Int) a c n _ htv HN.out (s.ext F3) (by omega) (by omega) (by omega) (by omega)).mono ?_
      rintro e w7 ⟨rfl, e7⟩
      have F4 := F3.trans e7
      have L0 := e7.blk H0.out
      have L3 := H3.ext e7
      have jl := jk.ext e7
      have Sl7 := Sk.out.ext e7
      clear F3 H0 H3 jk Sk e7 k1 k2 k3
      go_wp2_with fail
      refine (partOf_any (blkL r x y vx vy) (k % 2 * 4) (k / 2 * 4) (by omega) (by omega) a6 c6 _ Sl7).mono ?_
      rintro e w8 ⟨rfl, e8⟩
      have F5 := F4.trans e8
      have M0 := e8.blk L0
      have M3 := L3.ext e8
      have jm := jl.ext e8
      have Sl8 := Sl7.ext e8
      clear F4 L0 L3 jl Sl7 e8
      have hsp := prt_smp htv (xi : Int) (yj : Int)
      have hsq := pof_smp (blkL_smp hrv x y vx vy) (blkL_len r x y vx vy) (i := k % 2 * 4) (j := k / 2 * 4) (by omega) (by omega)
      have hl1 := prt_len t (xi : Int) (yj : Int)
      have hl2 := pof_len (blkL r x y vx vy) (k % 2 * 4) (k / 2 * 4)
      obtain ⟨U, hU⟩ : ∃ U, U = prt t (xi : Int) (yj : Int) := ⟨_, rfl⟩
      obtain ⟨V, hV⟩ : ∃ V, V = pof (blkL r x y vx vy) (k % 2 * 4) (k / 2 * 4) := ⟨_, rfl⟩
      rw [← hU] at hsp hl1 Hst ⊢
      rw [← hV] at hsq hl2 Hst ⊢
      have Hsp := Lib.hid hsp
      have Hsq := Lib.hid hsq
      have Hl1 := Lib.hid hl1
      have Hl2 := Lib.hid hl2
      clear hU hV hsp hsq hl1 hl2
      go_wp2_with fail
      refine (difference_any U V _ Hl1.out Hl2.out (smp_bd Hsp.out) (smp_bd Hsq.out)).mono ?_
      rintro e w9 ⟨rfl, e9⟩
      have F6 := F5.trans e9
      have N0 := e9.blk M0
      have N3 := M3.ext e9
      have jn := jm.ext e9
      have Sl9 := Sl8.ext e9
      clear F5 M0 M3 jm Sl8 e9
      go_wp2_with fail
      refine (impl_CodeBlock_any (dif U V) q _ (hT.ext F6) (dif_len _ _) (dif_rng Hsp.out Hsq.out Hl1.out Hl2.out) hq).mono ?_
      rintro e wa ⟨rfl, ea⟩
      have F7 := F6.trans ea
      have P0 := ea.blk N0
      have P3 := N3.ext ea
      have jp := jn.ext ea
      have Sla := Sl9.ext ea
      clear F6 N0 N3 jn Sl9 ea
      have Hcl := Lib.hid (cod_len (dif U V) q)
      go_wp2_with (refine wpList_istore 31 _ _ rfl rfl jp (7 + k * 16) 16 rfl _ rfl (cod (dif U V) q) rfl size_A16 Hcl.out (by rw [Hzl.out]; omega) ?_; intro wb jb gb; refine Hid.out ?_)
      rw [Hst.out] at jb
      have hOB : B + 1 + 1 + 1 < O := hBO
      have F8 : Ext w wb := Ext.grown F7 gb (fun q hq => by cases hq; omega)
      have R0 := blk_gr P0 gb (by simp; omega)
      have R3 := P3.gr gb (by simp; omega)
      have Slb := Sla.grown gb (fun z hz => by have := S6ne z hz; intro e; exact this (by simpa using e))
      clear F7 P0 P3 jp Sla gb
      refine Lib.hid ?_
      go_wp2
      go_roundw
      case rel => exact ⟨k + 1, by omega, by go_num, F8, Lib.hid R0, R3, jb, Lib.hid Slb⟩
      case measure => simp [intOf]; omega
    · obtain rfl : k = 4 := by omega
      go_wp2_with (first | (refine wpList_iload 34 _ rfl rfl jk 0 71 rfl _ Tryd.underlying34 rfl size_Macro (by rw [Hzl.out]; omega) _ (by rw [sub_all _ _ (Hzl.out)]) ?_) | (refine wpList_istore 34 _ _ rfl rfl H3 0 71 rfl _ rfl (macI vx vy (intL t r x y vx vy q 4)).zs rfl size_Macro (Hzl.out) (by simp [zl]) ?_; intro w6 p6 g6; refine Hid.out ?_))
      rw [spl_all (by rw [Hzl.out, zl_len])] at p6
      have E6 : Ext w w6 := Ext.grown F3 g6 (fun q hq => by cases hq; omega)
      refine Lib.hid ?_
      go_wp2
      exact bodyPost_ret (v := .agg (ic (macI vx vy (intL t r x y vx vy q 4)).zs)) (results_cell_row rfl _ _ (B + 1 + 1 + 1) 34 (ic (macI vx vy (intL t r x y vx vy q 4)).zs) (0, 0) _ rfl p6 Tryd.underlying34 rfl (by rw [ic_size, Hzl.out]; exact size_Macro)) rfl ⟨rfl, E6⟩
theorem impl_InterMacro_any (t r : Pic) (x y vx vy q : Int) (a b : Option Addr) (c d n l : Nat) (w : World) (hT : TabQ w) (hn : n = t.px.length) (hl : l = r.px.length) (nc : n ≤ 9223372036854775807) (lc : l ≤ 9223372036854775807) (s : Sl w a n (t.px.map (Value.int .i64))) (u : Sl w b l (r.px.map (Value.int .i64))) :
    Calls Tryd.prog 10 #[.agg #[.int .i64 t.w, .int .i64 t.h, .slice a n c], .agg #[.int .i64 r.w, .int .i64 r.h, .slice b l d], .int .i64 x, .int .i64 y, .agg #[.int .i64 vx, .int .i64 vy], .int .i64 q] w fun e w' => e = .returned (.agg (ic (interP t r x y vx vy q).zs)) ∧ Ext w w' := by
  by_cases h0 : alikeP t r
  · by_cases h1 : (0 ≤ x) ∧ (x < t.w) ∧ (x % 8 = 0) ∧ (0 ≤ y) ∧ (y < t.h) ∧ (y % 8 = 0)
    · by_cases h2 : vv vx vy
      · by_cases h3 : 0 ≤ q ∧ q ≤ 15
        · have ho : okI t r x y vx vy q := ⟨h0, ⟨h0.1, h1⟩, h2, h3⟩
          rw [interP_yes ho]
          have hx := h1.2.2.1
          have hw := h0.1.1
          have hh := h0.1.2.1
          have h := impl_InterMacro_yes_4 t r x.toNat y.toNat vx vy q.toNat a b c d n l w hT hn hl nc lc s u h0.2.1 h0.1 (by have := hw.2.1; omega) (by have := hh.2.1; omega) h2 (by omega) h0 (by rw [show ((x.toNat : Nat) : Int) = x by omega, show ((y.toNat : Nat) : Int) = y by omega]; exact h1) h2 (by omega)
          rw [show ((x.toNat : Nat) : Int) = x by omega, show ((y.toNat : Nat) : Int) = y by omega, show ((q.toNat : Nat) : Int) = q by omega] at h
          exact h
        · rw [interP_no (fun h => h3 h.2.2.2), mac0_zz]
          exact impl_InterMacro_no_3 t r x y vx vy q a b c d n l w hn hl nc lc s u h0 h1 h2 h3
      · rw [interP_no (fun h => h2 h.2.2.1), mac0_zz]
        exact impl_InterMacro_no_2 t r x y vx vy q a b c d n l w hn hl nc lc s u h0 h1 h2
    · rw [interP_no (fun h => h1 h.2.1.2), mac0_zz]
      exact impl_InterMacro_no_1 t r x y vx vy q a b c d n l w hn hl nc lc s u h0 h1
  · rw [interP_no (fun h => h0 h.1), mac0_zz]
    exact impl_InterMacro_no_0 t r x y vx vy q a b c d n l w hn hl nc lc s u h0
set_option maxRecDepth 100000 in
set_option maxHeartbeats 2000000 in
theorem l8Inter_yes (t r : Pic) (x y : Nat) (vx vy : Int) (q : Nat) (a b : Option Addr) (c d n l : Nat) (w : World) (hn : n = t.px.length) (hl : l = r.px.length) (nc : n ≤ 9223372036854775807) (lc : l ≤ 9223372036854775807) (s : Sl w a n (t.px.map (Value.int .i64))) (u : Sl w b l (r.px.map (Value.int .i64))) (hrv : r.valid) (htv : t.valid) (hxx : x ≤ 24) (hyy : y ≤ 24) (hvv : vv vx vy) (hq : q < 16) :
    Calls Tryd.prog 52 #[.agg #[.int .i64 t.w, .int .i64 t.h, .slice a n c], .agg #[.int .i64 r.w, .int .i64 r.h, .slice b l d], .int .i64 (x : Nat), .int .i64 (y : Nat), .agg #[.int .i64 vx, .int .i64 vy], .int .i64 (q : Nat)] w fun e w' => e = .returned (.agg (ic (macI vx vy (intL t r x y vx vy q 4)).zs)) ∧ Ext w w' := by
  have HN := Lib.hid hn
  have HL := Lib.hid hl
  have hvv0 := hvv
  clear hn hl
  have a0_1 := Ext.alloc (w.alloc (.cells #[.int .i64 t.w, .int .i64 t.h, .slice a n c] 25)) (.cells #[.int .i64 r.w, .int .i64 r.h, .slice b l d] 25)
  have a0_2 := Ext.alloc ((w.alloc (.cells #[.int .i64 t.w, .int .i64 t.h, .slice a n c] 25)).alloc (.cells #[.int .i64 r.w, .int .i64 r.h, .slice b l d] 25)) (.cells #[.int .i64 vx, .int .i64 vy] 27)
  have a0_3 := Ext.alloc (((w.alloc (.cells #[.int .i64 t.w, .int .i64 t.h, .slice a n c] 25)).alloc (.cells #[.int .i64 r.w, .int .i64 r.h, .slice b l d] 25)).alloc (.cells #[.int .i64 vx, .int .i64 vy] 27)) (.cells (ic (zl 71)) 34)
  have X0_0 := a0_3.blk (a0_2.blk (a0_1.blk (blk_new w (.cells #[.int .i64 t.w, .int .i64 t.h, .slice a n c] 25))))
  have a1_2 := Ext.alloc ((w.alloc (.cells #[.int .i64 t.w, .int .i64 t.h, .slice a n c] 25)).alloc (.cells #[.int .i64 r.w, .int .i64 r.h, .slice b l d] 25)) (.cells #[.int .i64 vx, .int .i64 vy] 27)
  have a1_3 := Ext.alloc (((w.alloc (.cells #[.int .i64 t.w, .int .i64 t.h, .slice a n c] 25)).alloc (.cells #[.int .i64 r.w, .int .i64 r.h, .slice b l d] 25)).alloc (.cells #[.int .i64 vx, .int .i64 vy] 27)) (.cells (ic (zl 71)) 34)
  have X1_0 := a1_3.blk (a1_2.blk (blk_new (w.alloc (.cells #[.int .i64 t.w, .int .i64 t.h, .slice a n c] 25)) (.cells #[.int .i64 r.w, .int .i64 r.h, .slice b l d] 25)))
  have a2_3 := Ext.alloc (((w.alloc (.cells #[.int .i64 t.w, .int .i64 t.h, .slice a n c] 25)).alloc (.cells #[.int .i64 r.w, .int .i64 r.h, .slice b l d] 25)).alloc (.cells #[.int .i64 vx, .int .i64 vy] 27)) (.cells (ic (zl 71)) 34)
  have X2_0 := a2_3.blk (blk_new ((w.alloc (.cells #[.int .i64 t.w, .int .i64 t.h, .slice a n c] 25)).alloc (.cells #[.int .i64 r.w, .int .i64 r.h, .slice b l d] 25)) (.cells #[.int .i64 vx, .int .i64 vy] 27))
  have X3_0 := IB.new (((w.alloc (.cells #[.int .i64 t.w, .int .i64 t.h, .slice a n c] 25)).alloc (.cells #[.int .i64 r.w, .int .i64 r.h, .slice b l d] 25)).alloc (.cells #[.int .i64 vx, .int .i64 vy] 27)) 34 (zl 71)
  have E_0 := (((Ext.alloc w (.cells #[.int .i64 t.w, .int .i64 t.h, .slice a n c] 25)).trans (Ext.alloc (w.alloc (.cells #[.int .i64 t.w, .int .i64 t.h, .slice a n c] 25)) (.cells #[.int .i64 r.w, .int .i64 r.h, .slice b l d] 25))).trans (Ext.alloc ((w.alloc (.cells #[.int .i64 t.w, .int .i64 t.h, .slice a n c] 25)).alloc (.cells #[.int .i64 r.w, .int .i64 r.h, .slice b l d] 25)) (.cells #[.int .i64 vx, .int .i64 vy] 27))).trans (Ext.alloc (((w.alloc (.cells #[.int .i64 t.w, .int .i64 t.h, .slice a n c] 25)).alloc (.cells #[.int .i64 r.w, .int .i64 r.h, .slice b l d] 25)).alloc (.cells #[.int .i64 vx, .int .i64 vy] 27)) (.cells (ic (zl 71)) 34))
  simp only [World.size_alloc] at X1_0 X2_0 X3_0
  clear a0_1
  clear a0_2
  clear a0_3
  clear a1_2
  clear a1_3
  clear a2_3
  obtain ⟨B, hB⟩ : ∃ B, B = w.heap.size := ⟨_, rfl⟩
  have ia := IB.new ((((w.alloc (.cells #[.int .i64 t.w, .int .i64 t.h, .slice a n c] 25)).alloc (.cells #[.int .i64 r.w, .int .i64 r.h, .slice b l d] 25)).alloc (.cells #[.int .i64 vx, .int .i64 vy] 27)).alloc (.cells (ic (zl 71)) 34)) 34 (zl 71)
  have ea := Ext.alloc ((((w.alloc (.cells #[.int .i64 t.w, .int .i64 t.h, .slice a n c] 25)).alloc (.cells #[.int .i64 r.w, .int .i64 r.h, .slice b l d] 25)).alloc (.cells #[.int .i64 vx, .int .i64 vy] 27)).alloc (.cells (ic (zl 71)) 34)) (.cells (ic (zl 71)) 34)
  have Y0 := ea.blk X0_0
  have Y1 := ea.blk X1_0
  have Y2 := ea.blk X2_0
  have Y3 := X3_0.ext ea
  have F0 := E_0.trans ea
  simp only [World.size_alloc] at ia
  clear X1_0 X3_0 E_0 ea X0_0
  obtain ⟨-, k2_0, k2_1, -⟩ := bx2 X2_0
  clear X2_0
  go_enter Tryd.func52, Tryd.ntmps52
  go_wp2_with (first | (refine wpList_iallocz 34 rfl rfl 71 zeroq_M ?_; (try simp only [World.size_alloc])) | (refine wpList_istore 34 _ _ rfl rfl ia 0 71 rfl _ rfl (macI vx vy (zl 64)).zs (by exact macI_build vx vy) size_Macro (Mac.zs_len (macI_ok vx vy (zl_len 64))) (by simp [zl]) ?_; intro w5 i5 g5; refine Hid.out ?_))
  rw [spl_all (by rw [Mac.zs_len (macI_ok vx vy (zl_len 64)), zl_len])] at i5
  try simp only [World.size_alloc]
  rw [← hB] at i5 g5 Y0 Y1 Y2 Y3 ⊢
  have hwB : w.heap.size ≤ B := by omega
  have HB := Lib.hid hB
  clear hB ia k2_0 k2_1
  obtain ⟨O, hO⟩ : ∃ O, O = B + 1 + 1 + 1 + 1 := ⟨_, rfl⟩
  rw [← hO] at i5 g5 ⊢
  have hBO : B + 1 + 1 + 1 < O := by omega
  have HO := Lib.hid hO
  clear hO
  have Z0 := blk_gr Y0 g5 (by simp; omega)
  have Z1 := blk_gr Y1 g5 (by simp; omega)
  have Z2 := blk_gr Y2 g5 (by simp; omega)
  have Z3 := Y3.gr g5 (by simp; omega)
  have F1 : Ext w w5 := Ext.grown F0 g5 (fun k e => by cases e; omega)
  clear Y0 Y1 Y2 Y3 F0 g5
  refine Lib.hid ?_
  obtain ⟨-, k1, k2, k3, -⟩ := bx3 Z0
  go_wp2_with fail
  refine (l7Block_any t x y 0 0 a c n _ htv HN.out (s.ext F1) (by omega) (by omega) (by omega) (by omega) (by omega) (by omega) (by omega) (by omega)).mono ?_
  rintro e w4 ⟨a4, c4, rfl, o4, e4⟩
  have hO4 := i5.lt
  have S4ne : ∀ z, a4 = some z → z.block ≠ O := fun z hz => by have := (o4.lt z.block (by rw [hz]; rfl)).1; omega
  have S4 := Sl.of_owns o4
  have G0 := e4.blk Z0
  have G1 := e4.blk Z1
  have G2 := e4.blk Z2
  have G3 := Z3.ext e4
  have j5 := i5.ext e4
  have F2 := F1.trans e4
  clear Z0 Z1 Z2 Z3 F1 i5 e4 o4 k1 k2 k3
  obtain ⟨-, k1, k2, k3, -⟩ := bx3 G1
  obtain ⟨-, k4, k5, -⟩ := bx2 G2
  go_wp2_with fail
  refine (l7Block_any r x y vx vy b d l _ hrv HL.out (u.ext F2) (by omega) (by omega) (by omega) (by omega) hvv.1 hvv.2.1 hvv.2.2.1 hvv.2.2.2).mono ?_
  rintro e w6 ⟨a6, c6, rfl, o6, e6⟩
  have hO5 := j5.lt
  have S6ne : ∀ z, a6 = some z → z.block ≠ O := fun z hz => by have := (o6.lt z.block (by rw [hz]; rfl)).1; omega
  have S6 := Sl.of_owns o6
  have S5 := S4.ext e6
  have H3' := G3.ext e6
  have j6 := j5.ext e6
  have F2' := F2.trans e6
  clear G0 G1 G2 G3 F2 j5 e6 o6 k1 k2 k3 k4 k5 S4 hvv
  go_wp2_with fail
  go_loopw [16] (fun i wr => ∃ k : Nat, k ≤ 4 ∧ i = .int .i64 k ∧ Ext w wr ∧ IB wr (B + 1 + 1 + 1) 34 (zl 71) ∧ IB wr O 34 (macI vx vy (intL t r x y vx vy q k)).zs ∧ Hid (Sl wr a6 64 ((blkL r x y vx vy).map (Value.int .i64))) ∧ Hid (Sl wr a4 64 ((blkL t x y 0 0).map (Value.int .i64)))) (fun i _ => 4 - (intOf i).toNat)
  case atStart => exact ⟨0, by omega, rfl, F2', H3', j6, Lib.hid S6, Lib.hid S5⟩
  case round =>
    obtain ⟨k, hk, rfl, F3, H3, jk, Sk, Tk⟩ := hrel
    clear F2' H3' j6 S6 S5
    have hLl := intL_len t r x y vx vy q hk
    have Hzl := Lib.hid (Mac.zs_len (macI_ok vx vy hLl))
    by_cases hlt : k < 4
    · have hd : decide ((k : Int) < 4) = true := by simp; omega
      have hst := Mac.spl_lv (macI_ok vx vy hLl) (k * 16) (cod (dif (prt t ((x + k % 2 * 4 : Nat) : Int) ((y + k / 2 * 4 : Nat) : Int)) (pof (blkL r x y vx vy) (k % 2 * 4) (k / 2 * 4))) q)
      have Hst := Lib.hid (show spl (macI vx vy (intL t r x y vx vy q k)).zs (7 + k * 16) (cod (dif (prt t ((x + k % 2 * 4 : Nat) : Int) ((y + k / 2 * 4 : Nat) : Int)) (pof (blkL r x y vx vy) (k % 2 * 4) (k / 2 * 4))) q) = (macI vx vy (intL t r x y vx vy q (k + 1))).zs from hst)
      have hpb := pof_blk t (x : Int) (y : Int) (i := k % 2 * 4) (j := k / 2 * 4) (by omega) (by omega)
      rw [← Int.natCast_add, ← Int.natCast_add] at hpb
      have Hpb := Lib.hid hpb
      clear hst hLl hpb
      go_wp2_with fail
      refine (l8Part_any (blkL t x y 0 0) k hlt a4 c4 _ (Tk.out.ext (Below.refl _ _))).mono ?_
      rintro e w7 ⟨rfl, e7⟩
      rw [Hpb.out]
      have hsp := prt_smp htv ((x + k % 2 * 4 : Nat) : Int) ((y + k / 2 * 4 : Nat) : Int)
      have hl1 := prt_len t ((x + k % 2 * 4 : Nat) : Int) ((y + k / 2 * 4 : Nat) : Int)
      obtain ⟨U, hU⟩ : ∃ U, U = prt t ((x + k % 2 * 4 : Nat) : Int) ((y + k / 2 * 4 : Nat) : Int) := ⟨_, rfl⟩
      rw [← hU] at hsp hl1 Hst Hpb ⊢
      have Hsp := Lib.hid hsp
      have Hl1 := Lib.hid hl1
      clear hU hsp hl1
      have F4 := F3.trans e7
      have L3 := H3.ext e7
      have jl := jk.ext e7
      have Sl7 := Sk.out.ext e7
      have Tl7 := Tk.out.ext e7
      clear F3 H3 jk Sk Tk e7
      go_wp2_with fail
      refine (l8Part_any (blkL r x y vx vy) k hlt a6 c6 _ Sl7).mono ?_
      rintro e w8 ⟨rfl, e8⟩
      have F5 := F4.trans e8
      have M3 := L3.ext e8
      have jm := jl.ext e8
      have Sl8 := Sl7.ext e8
      have Tl8 := Tl7.ext e8
      clear F4 L3 jl Sl7 Tl7 e8
      have hsq := pof_smp (blkL_smp hrv x y vx vy) (blkL_len r x y vx vy) (i := k % 2 * 4) (j := k / 2 * 4) (by omega) (by omega)
      have hl2 := pof_len (blkL r x y vx vy) (k % 2 * 4) (k / 2 * 4)
      obtain ⟨V, hV⟩ : ∃ V, V = pof (blkL r x y vx vy) (k % 2 * 4) (k / 2 * 4) := ⟨_, rfl⟩
      rw [← hV] at hsq hl2 Hst ⊢
      have Hsq := Lib.hid hsq
      have Hl2 := Lib.hid hl2
      clear hV hsq hl2
      go_wp2_with fail
      refine (l8Minus_any U V _ Hl1.out Hl2.out (smp_bd Hsp.out) (smp_bd Hsq.out)).mono ?_
      rintro e w9 ⟨rfl, e9⟩
      have F6 := F5.trans e9
      have N3 := M3.ext e9
      have jn := jm.ext e9
      have Sl9 := Sl8.ext e9
      have Tl9 := Tl8.ext e9
      clear F5 M3 jm Sl8 Tl8 e9
      go_wp2_with fail
      refine (spec_CodeBlock_any (dif U V) q _ (dif_len _ _) (dif_rng Hsp.out Hsq.out Hl1.out Hl2.out) hq).mono ?_
      rintro e wa ⟨rfl, ea⟩
      have F7 := F6.trans ea
      have P3 := N3.ext ea
      have jp := jn.ext ea
      have Sla := Sl9.ext ea
      have Tla := Tl9.ext ea
      clear F6 N3 jn Sl9 Tl9 ea
      have Hcl := Lib.hid (cod_len (dif U V) q)
      go_wp2_with (refine wpList_istore 31 _ _ rfl rfl jp (7 + k * 16) 16 rfl _ rfl (cod (dif U V) q) rfl size_A16 Hcl.out (by rw [Hzl.out]; omega) ?_; intro wb jb gb; refine Hid.out ?_)
      rw [Hst.out] at jb
      have F8 : Ext w wb := Ext.grown F7 gb (fun q hq => by cases hq; omega)
      have R3 := P3.gr gb (by simp; omega)
      have Slb := Sla.grown gb (fun z hz => by have := S6ne z hz; intro e; exact this (by simpa using e))
      have Tlb := Tla.grown gb (fun z hz => by have := S4ne z hz; intro e; exact this (by simpa using e))
      clear F7 P3 jp Sla Tla gb
      refine Lib.hid ?_
      go_wp2
      go_roundw
      case rel => exact ⟨k + 1, by omega, by go_num, F8, R3, jb, Lib.hid Slb, Lib.hid Tlb⟩
      case measure => simp [intOf]; omega
    · obtain rfl : k = 4 := by omega
      go_wp2_with (first | (refine wpList_iload 34 _ rfl rfl jk 0 71 rfl _ Tryd.underlying34 rfl size_Macro (by rw [Hzl.out]; omega) _ (by rw [sub_all _ _ (Hzl.out)]) ?_) | (refine wpList_istore 34 _ _ rfl rfl H3 0 71 rfl _ rfl (macI vx vy (intL t r x y vx vy q 4)).zs rfl size_Macro (Hzl.out) (by simp [zl]) ?_; intro w6 p6 g6; refine Hid.out ?_))
      rw [spl_all (by rw [Hzl.out, zl_len])] at p6
      have E6 : Ext w w6 := Ext.grown F3 g6 (fun q hq => by cases hq; omega)
      refine Lib.hid ?_
      go_wp2
      exact bodyPost_ret (v := .agg (ic (macI vx vy (intL t r x y vx vy q 4)).zs)) (results_cell_row rfl _ _ (B + 1 + 1 + 1) 34 (ic (macI vx vy (intL t r x y vx vy q 4)).zs) (0, 0) _ rfl p6 Tryd.underlying34 rfl (by rw [ic_size, Hzl.out]; exact size_Macro)) rfl ⟨rfl, E6⟩
set_option maxRecDepth 100000 in
set_option maxHeartbeats 2000000 in
theorem spec_InterMacro_no_0 (t r : Pic) (x y vx vy q : Int) (a b : Option Addr) (c d n l : Nat) (w : World) (hn : n = t.px.length) (hl : l = r.px.length) (nc : n ≤ 9223372036854775807) (lc : l ≤ 9223372036854775807) (s : Sl w a n (t.px.map (Value.int .i64))) (u : Sl w b l (r.px.map (Value.int .i64)))  (h0 : ¬ (alikeP t r)) :
    Calls Tryd.prog 11 #[.agg #[.int .i64 t.w, .int .i64 t.h, .slice a n c], .agg #[.int .i64 r.w, .int .i64 r.h, .slice b l d], .int .i64 x, .int .i64 y, .agg #[.int .i64 vx, .int .i64 vy], .int .i64 q] w fun e w' => e = .returned (.agg (ic (zl 71))) ∧ Ext w w' := by
  have HN := Lib.hid hn
  have HL := Lib.hid hl
  clear hn hl
  have D0 := Lib.hid (show decide (alikeP t r) = false from decide_eq_false h0)
  have a0_1 := Ext.alloc (w.alloc (.cells #[.int .i64 t.w, .int .i64 t.h, .slice a n c] 25)) (.cells #[.int .i64 r.w, .int .i64 r.h, .slice b l d] 25)
  have a0_2 := Ext.alloc ((w.alloc (.cells #[.int .i64 t.w, .int .i64 t.h, .slice a n c] 25)).alloc (.cells #[.int .i64 r.w, .int .i64 r.h, .slice b l d] 25)) (.cells #[.int .i64 vx, .int .i64 vy] 27)
  have a0_3 := Ext.alloc (((w.alloc (.cells #[.int .i64 t.w, .int .i64 t.h, .slice a n c] 25)).alloc (.cells #[.int .i64 r.w, .int .i64 r.h, .slice b l d] 25)).alloc (.cells #[.int .i64 vx, .int .i64 vy] 27)) (.cells (ic (zl 71)) 34)
  have X0_0 := a0_3.blk (a0_2.blk (a0_1.blk (blk_new w (.cells #[.int .i64 t.w, .int .i64 t.h, .slice a n c] 25))))
  have a1_2 := Ext.alloc ((w.alloc (.cells #[.int .i64 t.w, .int .i64 t.h, .slice a n c] 25)).alloc (.cells #[.int .i64 r.w, .int .i64 r.h, .slice b l d] 25)) (.cells #[.int .i64 vx, .int .i64 vy] 27)
  have a1_3 := Ext.alloc (((w.alloc (.cells #[.int .i64 t.w, .int .i64 t.h, .slice a n c] 25)).alloc (.cells #[.int .i64 r.w, .int .i64 r.h, .slice b l d] 25)).alloc (.cells #[.int .i64 vx, .int .i64 vy] 27)) (.cells (ic (zl 71)) 34)
  have X1_0 := a1_3.blk (a1_2.blk (blk_new (w.alloc (.cells #[.int .i64 t.w, .int .i64 t.h, .slice a n c] 25)) (.cells #[.int .i64 r.w, .int .i64 r.h, .slice b l d] 25)))
  have a2_3 := Ext.alloc (((w.alloc (.cells #[.int .i64 t.w, .int .i64 t.h, .slice a n c] 25)).alloc (.cells #[.int .i64 r.w, .int .i64 r.h, .slice b l d] 25)).alloc (.cells #[.int .i64 vx, .int .i64 vy] 27)) (.cells (ic (zl 71)) 34)
  have X2_0 := a2_3.blk (blk_new ((w.alloc (.cells #[.int .i64 t.w, .int .i64 t.h, .slice a n c] 25)).alloc (.cells #[.int .i64 r.w, .int .i64 r.h, .slice b l d] 25)) (.cells #[.int .i64 vx, .int .i64 vy] 27))
  have X3_0 := IB.new (((w.alloc (.cells #[.int .i64 t.w, .int .i64 t.h, .slice a n c] 25)).alloc (.cells #[.int .i64 r.w, .int .i64 r.h, .slice b l d] 25)).alloc (.cells #[.int .i64 vx, .int .i64 vy] 27)) 34 (zl 71)
  have E_0 := (((Ext.alloc w (.cells #[.int .i64 t.w, .int .i64 t.h, .slice a n c] 25)).trans (Ext.alloc (w.alloc (.cells #[.int .i64 t.w, .int .i64 t.h, .slice a n c] 25)) (.cells #[.int .i64 r.w, .int .i64 r.h, .slice b l d] 25))).trans (Ext.alloc ((w.alloc (.cells #[.int .i64 t.w, .int .i64 t.h, .slice a n c] 25)).alloc (.cells #[.int .i64 r.w, .int .i64 r.h, .slice b l d] 25)) (.cells #[.int .i64 vx, .int .i64 vy] 27))).trans (Ext.alloc (((w.alloc (.cells #[.int .i64 t.w, .int .i64 t.h, .slice a n c] 25)).alloc (.cells #[.int .i64 r.w, .int .i64 r.h, .slice b l d] 25)).alloc (.cells #[.int .i64 vx, .int .i64 vy] 27)) (.cells (ic (zl 71)) 34))
  simp only [World.size_alloc] at X1_0 X2_0 X3_0
  clear a0_1
  clear a0_2
  clear a0_3
  clear a1_2
  clear a1_3
  clear a2_3
  clear h0
  obtain ⟨-, k0_0, k0_1, k0_2, -⟩ := bx3 X0_0
  obtain ⟨-, k1_0, k1_1, k1_2, -⟩ := bx3 X1_0
  obtain ⟨-, k2_0, k2_1, -⟩ := bx2 X2_0
  go_enter Tryd.func11, Tryd.ntmps11
  go_wp2_with (refine wpList_iallocz 34 rfl rfl 71 zeroq_M ?_; (try simp only [World.size_alloc]))
  refine (l1Same_at t r a b c d n l _ HN.out HL.out nc lc (s.ext E_0) (u.ext E_0)).mono ?_
  rw [D0.out]
  rintro e w_1 ⟨rfl, e_1⟩
  have X0_1 := e_1.blk X0_0
  have X1_1 := e_1.blk X1_0
  have X2_1 := e_1.blk X2_0
  have X3_1 := X3_0.ext e_1
  have E_1 := E_0.trans e_1
  clear k0_0 k0_1 k0_2 X0_0 k1_0 k1_1 k1_2 X1_0 k2_0 k2_1 X2_0 X3_0 E_0
  clear e_1
  obtain ⟨-, k0_0, k0_1, k0_2, -⟩ := bx3 X0_1
  obtain ⟨-, k1_0, k1_1, k1_2, -⟩ := bx3 X1_1
  obtain ⟨-, k2_0, k2_1, -⟩ := bx2 X2_1
  have hbz := X3_1.lt
  go_wp2_with (refine wpList_istore 34 _ _ rfl rfl X3_1 0 71 rfl _ rfl (zl 71) zeroc_M size_Macro (zl_len 71) (by simp [zl]) ?_; intro wf pf gf; refine Hid.out ?_)
  rw [spl_all (by rw [zl_len])] at pf
  have Ef : Ext w wf := Ext.grown E_1 gf (fun q hq => by cases hq; omega)
  refine Lib.hid ?_
  go_wp2
  exact bodyPost_ret (v := .agg (ic (zl 71))) (results_cell_row rfl _ _ (w.heap.size + 1 + 1 + 1) 34 (ic (zl 71)) (0, 0) _ rfl pf Tryd.underlying34 rfl (by rw [ic_size, zl_len]; exact size_Macro)) rfl ⟨rfl, Ef⟩
set_option maxRecDepth 100000 in
set_option maxHeartbeats 2000000 in
theorem spec_InterMacro_no_1 (t r : Pic) (x y vx vy q : Int) (a b : Option Addr) (c d n l : Nat) (w : World) (hn : n = t.px.length) (hl : l = r.px.length) (nc : n ≤ 9223372036854775807) (lc : l ≤ 9223372036854775807) (s : Sl w a n (t.px.map (Value.int .i64))) (u : Sl w b l (r.px.map (Value.int .i64))) (h0 : alikeP t r) (h1 : ¬ (placeP t x y)) :
    Calls Tryd.prog 11 #[.agg #[.int .i64 t.w, .int .i64 t.h, .slice a n c], .agg #[.int .i64 r.w, .int .i64 r.h, .slice b l d], .int .i64 x, .int .i64 y, .agg #[.int .i64 vx, .int .i64 vy], .int .i64 q] w fun e w' => e = .returned (.agg (ic (zl 71))) ∧ Ext w w' := by
  have HN := Lib.hid hn
  have HL := Lib.hid hl
  clear hn hl
  have D0 := Lib.hid (show decide (alikeP t r) = true from decide_eq_true h0)
  have D1 := Lib.hid (show decide (placeP t x y) = false from decide_eq_false h1)
  have a0_1 := Ext.alloc (w.alloc (.cells #[.int .i64 t.w, .int .i64 t.h, .slice a n c] 25)) (.cells #[.int .i64 r.w, .int .i64 r.h, .slice b l d] 25)
  have a0_2 := Ext.alloc ((w.alloc (.cells #[.int .i64 t.w, .int .i64 t.h, .slice a n c] 25)).alloc (.cells #[.int .i64 r.w, .int .i64 r.h, .slice b l d] 25)) (.cells #[.int .i64 vx, .int .i64 vy] 27)
  have a0_3 := Ext.alloc (((w.alloc (.cells #[.int .i64 t.w, .int .i64 t.h, .slice a n c] 25)).alloc (.cells #[.int .i64 r.w, .int .i64 r.h, .slice b l d] 25)).alloc (.cells #[.int .i64 vx, .int .i64 vy] 27)) (.cells (ic (zl 71)) 34)
  have X0_0 := a0_3.blk (a0_2.blk (a0_1.blk (blk_new w (.cells #[.int .i64 t.w, .int .i64 t.h, .slice a n c] 25))))
  have a1_2 := Ext.alloc ((w.alloc (.cells #[.int .i64 t.w, .int .i64 t.h, .slice a n c] 25)).alloc (.cells #[.int .i64 r.w, .int .i64 r.h, .slice b l d] 25)) (.cells #[.int .i64 vx, .int .i64 vy] 27)
  have a1_3 := Ext.alloc (((w.alloc (.cells #[.int .i64 t.w, .int .i64 t.h, .slice a n c] 25)).alloc (.cells #[.int .i64 r.w, .int .i64 r.h, .slice b l d] 25)).alloc (.cells #[.int .i64 vx, .int .i64 vy] 27)) (.cells (ic (zl 71)) 34)
  have X1_0 := a1_3.blk (a1_2.blk (blk_new (w.alloc (.cells #[.int .i64 t.w, .int .i64 t.h, .slice a n c] 25)) (.cells #[.int .i64 r.w, .int .i64 r.h, .slice b l d] 25)))
  have a2_3 := Ext.alloc (((w.alloc (.cells #[.int .i64 t.w, .int .i64 t.h, .slice a n c] 25)).alloc (.cells #[.int .i64 r.w, .int .i64 r.h, .slice b l d] 25)).alloc (.cells #[.int .i64 vx, .int .i64 vy] 27)) (.cells (ic (zl 71)) 34)
  have X2_0 := a2_3.blk (blk_new ((w.alloc (.cells #[.int .i64 t.w, .int .i64 t.h, .slice a n c] 25)).alloc (.cells #[.int .i64 r.w, .int .i64 r.h, .slice b l d] 25)) (.cells #[.int .i64 vx, .int .i64 vy] 27))
  have X3_0 := IB.new (((w.alloc (.cells #[.int .i64 t.w, .int .i64 t.h, .slice a n c] 25)).alloc (.cells #[.int .i64 r.w, .int .i64 r.h, .slice b l d] 25)).alloc (.cells #[.int .i64 vx, .int .i64 vy] 27)) 34 (zl 71)
  have E_0 := (((Ext.alloc w (.cells #[.int .i64 t.w, .int .i64 t.h, .slice a n c] 25)).trans (Ext.alloc (w.alloc (.cells #[.int .i64 t.w, .int .i64 t.h, .slice a n c] 25)) (.cells #[.int .i64 r.w, .int .i64 r.h, .slice b l d] 25))).trans (Ext.alloc ((w.alloc (.cells #[.int .i64 t.w, .int .i64 t.h, .slice a n c] 25)).alloc (.cells #[.int .i64 r.w, .int .i64 r.h, .slice b l d] 25)) (.cells #[.int .i64 vx, .int .i64 vy] 27))).trans (Ext.alloc (((w.alloc (.cells #[.int .i64 t.w, .int .i64 t.h, .slice a n c] 25)).alloc (.cells #[.int .i64 r.w, .int .i64 r.h, .slice b l d] 25)).alloc (.cells #[.int .i64 vx, .int .i64 vy] 27)) (.cells (ic (zl 71)) 34))
  simp only [World.size_alloc] at X1_0 X2_0 X3_0
  clear a0_1
  clear a0_2
  clear a0_3
  clear a1_2
  clear a1_3
  clear a2_3
  clear h0 h1
  obtain ⟨-, k0_0, k0_1, k0_2, -⟩ := bx3 X0_0
  obtain ⟨-, k1_0, k1_1, k1_2, -⟩ := bx3 X1_0
  obtain ⟨-, k2_0, k2_1, -⟩ := bx2 X2_0
  go_enter Tryd.func11, Tryd.ntmps11
  go_wp2_with (refine wpList_iallocz 34 rfl rfl 71 zeroq_M ?_; (try simp only [World.size_alloc]))
  refine (l1Same_at t r a b c d n l _ HN.out HL.out nc lc (s.ext E_0) (u.ext E_0)).mono ?_
  rw [D0.out]
  rintro e w_1 ⟨rfl, e_1⟩
  have X0_1 := e_1.blk X0_0
  have X1_1 := e_1.blk X1_0
  have X2_1 := e_1.blk X2_0
  have X3_1 := X3_0.ext e_1
  have E_1 := E_0.trans e_1
  clear k0_0 k0_1 k0_2 X0_0 k1_0 k1_1 k1_2 X1_0 k2_0 k2_1 X2_0 X3_0 E_0
  clear e_1
  obtain ⟨-, k0_0, k0_1, k0_2, -⟩ := bx3 X0_1
  obtain ⟨-, k1_0, k1_1, k1_2, -⟩ := bx3 X1_1
  obtain ⟨-, k2_0, k2_1, -⟩ := bx2 X2_1
  go_wp2_with fail
  refine (l7Place_at t x y a c n _ HN.out nc (s.ext E_1)).mono ?_
  rw [D1.out]
  rintro e w_2 ⟨rfl, e_2⟩
  have X0_2 := e_2.blk X0_1
  have X1_2 := e_2.blk X1_1
  have X2_2 := e_2.blk X2_1
  have X3_2 := X3_1.ext e_2
  have E_2 := E_1.trans e_2
  clear k0_0 k0_1 k0_2 X0_1 k1_0 k1_1 k1_2 X1_1 k2_0 k2_1 X2_1 X3_1 E_1
  clear e_2
  obtain ⟨-, k0_0, k0_1, k0_2, -⟩ := bx3 X0_2
  obtain ⟨-, k1_0, k1_1, k1_2, -⟩ := bx3 X1_2
  obtain ⟨-, k2_0, k2_1, -⟩ := bx2 X2_2
  have hbz := X3_2.lt
  go_wp2_with (refine wpList_istore 34 _ _ rfl rfl X3_2 0 71 rfl _ rfl (zl 71) zeroc_M size_Macro (zl_len 71) (by simp [zl]) ?_; intro wf pf gf; refine Hid.out ?_)
  rw [spl_all (by rw [zl_len])] at pf
  have Ef : Ext w wf := Ext.grown E_2 gf (fun q hq => by cases hq; omega)
  refine Lib.hid ?_
  go_wp2
  exact bodyPost_ret (v := .agg (ic (zl 71))) (results_cell_row rfl _ _ (w.heap.size + 1 + 1 + 1) 34 (ic (zl 71)) (0, 0) _ rfl pf Tryd.underlying34 rfl (by rw [ic_size, zl_len]; exact size_Macro)) rfl ⟨rfl, Ef⟩
set_option maxRecDepth 100000 in
set_option maxHeartbeats 2000000 in
theorem spec_InterMacro_no_2 (t r : Pic) (x y vx vy q : Int) (a b : Option Addr) (c d n l : Nat) (w : World) (hn : n = t.px.length) (hl : l = r.px.length) (nc : n ≤ 9223372036854775807) (lc : l ≤ 9223372036854775807) (s : Sl w a n (t.px.map (Value.int .i64))) (u : Sl w b l (r.px.map (Value.int .i64))) (h0 : alikeP t r) (h1 : placeP t x y) (h2 : ¬ (vv vx vy)) :
    Calls Tryd.prog 11 #[.agg #[.int .i64 t.w, .int .i64 t.h, .slice a n c], .agg #[.int .i64 r.w, .int .i64 r.h, .slice b l d], .int .i64 x, .int .i64 y, .agg #[.int .i64 vx, .int .i64 vy], .int .i64 q] w fun e w' => e = .returned (.agg (ic (zl 71))) ∧ Ext w w' := by
  have HN := Lib.hid hn
  have HL := Lib.hid hl
  clear hn hl
  have D0 := Lib.hid (show decide (alikeP t r) = true from decide_eq_true h0)
  have D1 := Lib.hid (show decide (placeP t x y) = true from decide_eq_true h1)
  have V2 := Lib.hid h2
  have a0_1 := Ext.alloc (w.alloc (.cells #[.int .i64 t.w, .int .i64 t.h, .slice a n c] 25)) (.cells #[.int .i64 r.w, .int .i64 r.h, .slice b l d] 25)
  have a0_2 := Ext.alloc ((w.alloc (.cells #[.int .i64 t.w, .int .i64 t.h, .slice a n c] 25)).alloc (.cells #[.int .i64 r.w, .int .i64 r.h, .slice b l d] 25)) (.cells #[.int .i64 vx, .int .i64 vy] 27)
  have a0_3 := Ext.alloc (((w.alloc (.cells #[.int .i64 t.w, .int .i64 t.h, .slice a n c] 25)).alloc (.cells #[.int .i64 r.w, .int .i64 r.h, .slice b l d] 25)).alloc (.cells #[.int .i64 vx, .int .i64 vy] 27)) (.cells (ic (zl 71)) 34)
  have X0_0 := a0_3.blk (a0_2.blk (a0_1.blk (blk_new w (.cells #[.int .i64 t.w, .int .i64 t.h, .slice a n c] 25))))
  have a1_2 := Ext.alloc ((w.alloc (.cells #[.int .i64 t.w, .int .i64 t.h, .slice a n c] 25)).alloc (.cells #[.int .i64 r.w, .int .i64 r.h, .slice b l d] 25)) (.cells #[.int .i64 vx, .int .i64 vy] 27)
  have a1_3 := Ext.alloc (((w.alloc (.cells #[.int .i64 t.w, .int .i64 t.h, .slice a n c] 25)).alloc (.cells #[.int .i64 r.w, .int .i64 r.h, .slice b l d] 25)).alloc (.cells #[.int .i64 vx, .int .i64 vy] 27)) (.cells (ic (zl 71)) 34)
  have X1_0 := a1_3.blk (a1_2.blk (blk_new (w.alloc (.cells #[.int .i64 t.w, .int .i64 t.h, .slice a n c] 25)) (.cells #[.int .i64 r.w, .int .i64 r.h, .slice b l d] 25)))
  have a2_3 := Ext.alloc (((w.alloc (.cells #[.int .i64 t.w, .int .i64 t.h, .slice a n c] 25)).alloc (.cells #[.int .i64 r.w, .int .i64 r.h, .slice b l d] 25)).alloc (.cells #[.int .i64 vx, .int .i64 vy] 27)) (.cells (ic (zl 71)) 34)
  have X2_0 := a2_3.blk (blk_new ((w.alloc (.cells #[.int .i64 t.w, .int .i64 t.h, .slice a n c] 25)).alloc (.cells #[.int .i64 r.w, .int .i64 r.h, .slice b l d] 25)) (.cells #[.int .i64 vx, .int .i64 vy] 27))
  have X3_0 := IB.new (((w.alloc (.cells #[.int .i64 t.w, .int .i64 t.h, .slice a n c] 25)).alloc (.cells #[.int .i64 r.w, .int .i64 r.h, .slice b l d] 25)).alloc (.cells #[.int .i64 vx, .int .i64 vy] 27)) 34 (zl 71)
  have E_0 := (((Ext.alloc w (.cells #[.int .i64 t.w, .int .i64 t.h, .slice a n c] 25)).trans (Ext.alloc (w.alloc (.cells #[.int .i64 t.w, .int .i64 t.h, .slice a n c] 25)) (.cells #[.int .i64 r.w, .int .i64 r.h, .slice b l d] 25))).trans (Ext.alloc ((w.alloc (.cells #[.int .i64 t.w, .int .i64 t.h, .slice a n c] 25)).alloc (.cells #[.int .i64 r.w, .int .i64 r.h, .slice b l d] 25)) (.cells #[.int .i64 vx, .int .i64 vy] 27))).trans (Ext.alloc (((w.alloc (.cells #[.int .i64 t.w, .int .i64 t.h, .slice a n c] 25)).alloc (.cells #[.int .i64 r.w, .int .i64 r.h, .slice b l d] 25)).alloc (.cells #[.int .i64 vx, .int .i64 vy] 27)) (.cells (ic (zl 71)) 34))
  simp only [World.size_alloc] at X1_0 X2_0 X3_0
  clear a0_1
  clear a0_2
  clear a0_3
  clear a1_2
  clear a1_3
  clear a2_3
  clear h0 h1 h2
  obtain ⟨-, k0_0, k0_1, k0_2, -⟩ := bx3 X0_0
  obtain ⟨-, k1_0, k1_1, k1_2, -⟩ := bx3 X1_0
  obtain ⟨-, k2_0, k2_1, -⟩ := bx2 X2_0
  go_enter Tryd.func11, Tryd.ntmps11
  go_wp2_with (refine wpList_iallocz 34 rfl rfl 71 zeroq_M ?_; (try simp only [World.size_alloc]))
  refine (l1Same_at t r a b c d n l _ HN.out HL.out nc lc (s.ext E_0) (u.ext E_0)).mono ?_
  rw [D0.out]
  rintro e w_1 ⟨rfl, e_1⟩
  have X0_1 := e_1.blk X0_0
  have X1_1 := e_1.blk X1_0
  have X2_1 := e_1.blk X2_0
  have X3_1 := X3_0.ext e_1
  have E_1 := E_0.trans e_1
  clear k0_0 k0_1 k0_2 X0_0 k1_0 k1_1 k1_2 X1_0 k2_0 k2_1 X2_0 X3_0 E_0
  clear e_1
  obtain ⟨-, k0_0, k0_1, k0_2, -⟩ := bx3 X0_1
  obtain ⟨-, k1_0, k1_1, k1_2, -⟩ := bx3 X1_1
  obtain ⟨-, k2_0, k2_1, -⟩ := bx2 X2_1
  go_wp2_with fail
  refine (l7Place_at t x y a c n _ HN.out nc (s.ext E_1)).mono ?_
  rw [D1.out]
  rintro e w_2 ⟨rfl, e_2⟩
  have X0_2 := e_2.blk X0_1
  have X1_2 := e_2.blk X1_1
  have X2_2 := e_2.blk X2_1
  have X3_2 := X3_1.ext e_2
  have E_2 := E_1.trans e_2
  clear k0_0 k0_1 k0_2 X0_1 k1_0 k1_1 k1_2 X1_1 k2_0 k2_1 X2_1 X3_1 E_1
  clear e_2
  obtain ⟨-, k0_0, k0_1, k0_2, -⟩ := bx3 X0_2
  obtain ⟨-, k1_0, k1_1, k1_2, -⟩ := bx3 X1_2
  obtain ⟨-, k2_0, k2_1, -⟩ := bx2 X2_2
  go_wp2_with fail
  refine (spec_VectorValid_no vx vy _ V2.out).mono ?_
  rintro e w_3 ⟨rfl, e_3⟩
  have X0_3 := e_3.blk X0_2
  have X1_3 := e_3.blk X1_2
  have X2_3 := e_3.blk X2_2
  have X3_3 := X3_2.ext e_3
  have E_3 := E_2.trans e_3
  clear k0_0 k0_1 k0_2 X0_2 k1_0 k1_1 k1_2 X1_2 k2_0 k2_1 X2_2 X3_2 E_2
  clear e_3
  obtain ⟨-, k0_0, k0_1, k0_2, -⟩ := bx3 X0_3
  obtain ⟨-, k1_0, k1_1, k1_2, -⟩ := bx3 X1_3
  obtain ⟨-, k2_0, k2_1, -⟩ := bx2 X2_3
  have hbz := X3_3.lt
  go_wp2_with (refine wpList_istore 34 _ _ rfl rfl X3_3 0 71 rfl _ rfl (zl 71) zeroc_M size_Macro (zl_len 71) (by simp [zl]) ?_; intro wf pf gf; refine Hid.out ?_)
  rw [spl_all (by rw [zl_len])] at pf
  have Ef : Ext w wf := Ext.grown E_3 gf (fun q hq => by cases hq; omega)
  refine Lib.hid ?_
  go_wp2
  exact bodyPost_ret (v := .agg (ic (zl 71))) (results_cell_row rfl _ _ (w.heap.size + 1 + 1 + 1) 34 (ic (zl 71)) (0, 0) _ rfl pf Tryd.underlying34 rfl (by rw [ic_size, zl_len]; exact size_Macro)) rfl ⟨rfl, Ef⟩
set_option maxRecDepth 100000 in
set_option maxHeartbeats 2000000 in
theorem spec_InterMacro_no_3 (t r : Pic) (x y vx vy q : Int) (a b : Option Addr) (c d n l : Nat) (w : World) (hn : n = t.px.length) (hl : l = r.px.length) (nc : n ≤ 9223372036854775807) (lc : l ≤ 9223372036854775807) (s : Sl w a n (t.px.map (Value.int .i64))) (u : Sl w b l (r.px.map (Value.int .i64))) (h0 : alikeP t r) (h1 : placeP t x y) (h2 : vv vx vy) (h3 : ¬ (0 ≤ q ∧ q ≤ 15)) :
    Calls Tryd.prog 11 #[.agg #[.int .i64 t.w, .int .i64 t.h, .slice a n c], .agg #[.int .i64 r.w, .int .i64 r.h, .slice b l d], .int .i64 x, .int .i64 y, .agg #[.int .i64 vx, .int .i64 vy], .int .i64 q] w fun e w' => e = .returned (.agg (ic (zl 71))) ∧ Ext w w' := by
  have HN := Lib.hid hn
  have HL := Lib.hid hl
  clear hn hl
  have D0 := Lib.hid (show decide (alikeP t r) = true from decide_eq_true h0)
  have D1 := Lib.hid (show decide (placeP t x y) = true from decide_eq_true h1)
  have V2 := Lib.hid h2
  have Q3 := Lib.hid h3
  have a0_1 := Ext.alloc (w.alloc (.cells #[.int .i64 t.w, .int .i64 t.h, .slice a n c] 25)) (.cells #[.int .i64 r.w, .int .i64 r.h, .slice b l d] 25)
  have a0_2 := Ext.alloc ((w.alloc (.cells #[.int .i64 t.w, .int .i64 t.h, .slice a n c] 25)).alloc (.cells #[.int .i64 r.w, .int .i64 r.h, .slice b l d] 25)) (.cells #[.int .i64 vx, .int .i64 vy] 27)
  have a0_3 := Ext.alloc (((w.alloc (.cells #[.int .i64 t.w, .int .i64 t.h, .slice a n c] 25)).alloc (.cells #[.int .i64 r.w, .int .i64 r.h, .slice b l d] 25)).alloc (.cells #[.int .i64 vx, .int .i64 vy] 27)) (.cells (ic (zl 71)) 34)
  have X0_0 := a0_3.blk (a0_2.blk (a0_1.blk (blk_new w (.cells #[.int .i64 t.w, .int .i64 t.h, .slice a n c] 25))))
  have a1_2 := Ext.alloc ((w.alloc (.cells #[.int .i64 t.w, .int .i64 t.h, .slice a n c] 25)).alloc (.cells #[.int .i64 r.w, .int .i64 r.h, .slice b l d] 25)) (.cells #[.int .i64 vx, .int .i64 vy] 27)
  have a1_3 := Ext.alloc (((w.alloc (.cells #[.int .i64 t.w, .int .i64 t.h, .slice a n c] 25)).alloc (.cells #[.int .i64 r.w, .int .i64 r.h, .slice b l d] 25)).alloc (.cells #[.int .i64 vx, .int .i64 vy] 27)) (.cells (ic (zl 71)) 34)
  have X1_0 := a1_3.blk (a1_2.blk (blk_new (w.alloc (.cells #[.int .i64 t.w, .int .i64 t.h, .slice a n c] 25)) (.cells #[.int .i64 r.w, .int .i64 r.h, .slice b l d] 25)))
  have a2_3 := Ext.alloc (((w.alloc (.cells #[.int .i64 t.w, .int .i64 t.h, .slice a n c] 25)).alloc (.cells #[.int .i64 r.w, .int .i64 r.h, .slice b l d] 25)).alloc (.cells #[.int .i64 vx, .int .i64 vy] 27)) (.cells (ic (zl 71)) 34)
  have X2_0 := a2_3.blk (blk_new ((w.alloc (.cells #[.int .i64 t.w, .int .i64 t.h, .slice a n c] 25)).alloc (.cells #[.int .i64 r.w, .int .i64 r.h, .slice b l d] 25)) (.cells #[.int .i64 vx, .int .i64 vy] 27))
  have X3_0 := IB.new (((w.alloc (.cells #[.int .i64 t.w, .int .i64 t.h, .slice a n c] 25)).alloc (.cells #[.int .i64 r.w, .int .i64 r.h, .slice b l d] 25)).alloc (.cells #[.int .i64 vx, .int .i64 vy] 27)) 34 (zl 71)
  have E_0 := (((Ext.alloc w (.cells #[.int .i64 t.w, .int .i64 t.h, .slice a n c] 25)).trans (Ext.alloc (w.alloc (.cells #[.int .i64 t.w, .int .i64 t.h, .slice a n c] 25)) (.cells #[.int .i64 r.w, .int .i64 r.h, .slice b l d] 25))).trans (Ext.alloc ((w.alloc (.cells #[.int .i64 t.w, .int .i64 t.h, .slice a n c] 25)).alloc (.cells #[.int .i64 r.w, .int .i64 r.h, .slice b l d] 25)) (.cells #[.int .i64 vx, .int .i64 vy] 27))).trans (Ext.alloc (((w.alloc (.cells #[.int .i64 t.w, .int .i64 t.h, .slice a n c] 25)).alloc (.cells #[.int .i64 r.w, .int .i64 r.h, .slice b l d] 25)).alloc (.cells #[.int .i64 vx, .int .i64 vy] 27)) (.cells (ic (zl 71)) 34))
  simp only [World.size_alloc] at X1_0 X2_0 X3_0
  clear a0_1
  clear a0_2
  clear a0_3
  clear a1_2
  clear a1_3
  clear a2_3
  clear h0 h1 h2 h3
  obtain ⟨-, k0_0, k0_1, k0_2, -⟩ := bx3 X0_0
  obtain ⟨-, k1_0, k1_1, k1_2, -⟩ := bx3 X1_0
  obtain ⟨-, k2_0, k2_1, -⟩ := bx2 X2_0
  go_enter Tryd.func11, Tryd.ntmps11
  go_wp2_with (refine wpList_iallocz 34 rfl rfl 71 zeroq_M ?_; (try simp only [World.size_alloc]))
  refine (l1Same_at t r a b c d n l _ HN.out HL.out nc lc (s.ext E_0) (u.ext E_0)).mono ?_
  rw [D0.out]
  rintro e w_1 ⟨rfl, e_1⟩
  have X0_1 := e_1.blk X0_0
  have X1_1 := e_1.blk X1_0
  have X2_1 := e_1.blk X2_0
  have X3_1 := X3_0.ext e_1
  have E_1 := E_0.trans e_1
  clear k0_0 k0_1 k0_2 X0_0 k1_0 k1_1 k1_2 X1_0 k2_0 k2_1 X2_0 X3_0 E_0
  clear e_1
  obtain ⟨-, k0_0, k0_1, k0_2, -⟩ := bx3 X0_1
  obtain ⟨-, k1_0, k1_1, k1_2, -⟩ := bx3 X1_1
  obtain ⟨-, k2_0, k2_1, -⟩ := bx2 X2_1
  go_wp2_with fail
  refine (l7Place_at t x y a c n _ HN.out nc (s.ext E_1)).mono ?_
  rw [D1.out]
  rintro e w_2 ⟨rfl, e_2⟩
  have X0_2 := e_2.blk X0_1
  have X1_2 := e_2.blk X1_1
  have X2_2 := e_2.blk X2_1
  have X3_2 := X3_1.ext e_2
  have E_2 := E_1.trans e_2
  clear k0_0 k0_1 k0_2 X0_1 k1_0 k1_1 k1_2 X1_1 k2_0 k2_1 X2_1 X3_1 E_1
  clear e_2
  obtain ⟨-, k0_0, k0_1, k0_2, -⟩ := bx3 X0_2
  obtain ⟨-, k1_0, k1_1, k1_2, -⟩ := bx3 X1_2
  obtain ⟨-, k2_0, k2_1, -⟩ := bx2 X2_2
  go_wp2_with fail
  refine (spec_VectorValid_yes vx vy _ V2.out).mono ?_
  rintro e w_3 ⟨rfl, e_3⟩
  have X0_3 := e_3.blk X0_2
  have X1_3 := e_3.blk X1_2
  have X2_3 := e_3.blk X2_2
  have X3_3 := X3_2.ext e_3
  have E_3 := E_2.trans e_3
  clear k0_0 k0_1 k0_2 X0_2 k1_0 k1_1 k1_2 X1_2 k2_0 k2_1 X2_2 X3_2 E_2
  clear e_3
  obtain ⟨-, k0_0, k0_1, k0_2, -⟩ := bx3 X0_3
  obtain ⟨-, k1_0, k1_1, k1_2, -⟩ := bx3 X1_3
  obtain ⟨-, k2_0, k2_1, -⟩ := bx2 X2_3
  go_wp2_with fail
  refine (l1In_no _ _ _ _ (by have := Q3.out; omega)).mono ?_
  rintro e w_s3 ⟨rfl, rfl⟩
  have hbz := X3_3.lt
  go_wp2_with (refine wpList_istore 34 _ _ rfl rfl X3_3 0 71 rfl _ rfl (zl 71) zeroc_M size_Macro (zl_len 71) (by simp [zl]) ?_; intro wf pf gf; refine Hid.out ?_)
  rw [spl_all (by rw [zl_len])] at pf
  have Ef : Ext w wf := Ext.grown E_3 gf (fun q hq => by cases hq; omega)
  refine Lib.hid ?_
  go_wp2
  exact bodyPost_ret (v := .agg (ic (zl 71))) (results_cell_row rfl _ _ (w.heap.size + 1 + 1 + 1) 34 (ic (zl 71)) (0, 0) _ rfl pf Tryd.underlying34 rfl (by rw [ic_size, zl_len]; exact size_Macro)) rfl ⟨rfl, Ef⟩
set_option maxRecDepth 100000 in
set_option maxHeartbeats 2000000 in
theorem spec_InterMacro_yes_4 (t r : Pic) (x y : Nat) (vx vy : Int) (q : Nat) (a b : Option Addr) (c d n l : Nat) (w : World) (hn : n = t.px.length) (hl : l = r.px.length) (nc : n ≤ 9223372036854775807) (lc : l ≤ 9223372036854775807) (s : Sl w a n (t.px.map (Value.int .i64))) (u : Sl w b l (r.px.map (Value.int .i64))) (hrv : r.valid) (htv : t.valid) (hxx : x ≤ 24) (hyy : y ≤ 24) (hvv : vv vx vy) (hq : q < 16) (h0 : alikeP t r) (h1 : placeP t x y) (h2 : vv vx vy) (h3 : 0 ≤ (q : Int) ∧ (q : Int) ≤ 15) :
    Calls Tryd.prog 11 #[.agg #[.int .i64 t.w, .int .i64 t.h, .slice a n c], .agg #[.int .i64 r.w, .int .i64 r.h, .slice b l d], .int .i64 (x : Nat), .int .i64 (y : Nat), .agg #[.int .i64 vx, .int .i64 vy], .int .i64 (q : Nat)] w fun e w' => e = .returned (.agg (ic (macI vx vy (intL t r x y vx vy q 4)).zs)) ∧ Ext w w' := by
  have HN := Lib.hid hn
  have HL := Lib.hid hl
  clear hn hl
  have D0 := Lib.hid (show decide (alikeP t r) = true from decide_eq_true h0)
  have D1 := Lib.hid (show decide (placeP t x y) = true from decide_eq_true h1)
  have V2 := Lib.hid h2
  have Q3 := Lib.hid h3
  have a0_1 := Ext.alloc (w.alloc (.cells #[.int .i64 t.w, .int .i64 t.h, .slice a n c] 25)) (.cells #[.int .i64 r.w, .int .i64 r.h, .slice b l d] 25)
  have a0_2 := Ext.alloc ((w.alloc (.cells #[.int .i64 t.w, .int .i64 t.h, .slice a n c] 25)).alloc (.cells #[.int .i64 r.w, .int .i64 r.h, .slice b l d] 25)) (.cells #[.int .i64 vx, .int .i64 vy] 27)
  have a0_3 := Ext.alloc (((w.alloc (.cells #[.int .i64 t.w, .int .i64 t.h, .slice a n c] 25)).alloc (.cells #[.int .i64 r.w, .int .i64 r.h, .slice b l d] 25)).alloc (.cells #[.int .i64 vx, .int .i64 vy] 27)) (.cells (ic (zl 71)) 34)
  have X0_0 := a0_3.blk (a0_2.blk (a0_1.blk (blk_new w (.cells #[.int .i64 t.w, .int .i64 t.h, .slice a n c] 25))))
  have a1_2 := Ext.alloc ((w.alloc (.cells #[.int .i64 t.w, .int .i64 t.h, .slice a n c] 25)).alloc (.cells #[.int .i64 r.w, .int .i64 r.h, .slice b l d] 25)) (.cells #[.int .i64 vx, .int .i64 vy] 27)
  have a1_3 := Ext.alloc (((w.alloc (.cells #[.int .i64 t.w, .int .i64 t.h, .slice a n c] 25)).alloc (.cells #[.int .i64 r.w, .int .i64 r.h, .slice b l d] 25)).alloc (.cells #[.int .i64 vx, .int .i64 vy] 27)) (.cells (ic (zl 71)) 34)
  have X1_0 := a1_3.blk (a1_2.blk (blk_new (w.alloc (.cells #[.int .i64 t.w, .int .i64 t.h, .slice a n c] 25)) (.cells #[.int .i64 r.w, .int .i64 r.h, .slice b l d] 25)))
  have a2_3 := Ext.alloc (((w.alloc (.cells #[.int .i64 t.w, .int .i64 t.h, .slice a n c] 25)).alloc (.cells #[.int .i64 r.w, .int .i64 r.h, .slice b l d] 25)).alloc (.cells #[.int .i64 vx, .int .i64 vy] 27)) (.cells (ic (zl 71)) 34)
  have X2_0 := a2_3.blk (blk_new ((w.alloc (.cells #[.int .i64 t.w, .int .i64 t.h, .slice a n c] 25)).alloc (.cells #[.int .i64 r.w, .int .i64 r.h, .slice b l d] 25)) (.cells #[.int .i64 vx, .int .i64 vy] 27))
  have X3_0 := IB.new (((w.alloc (.cells #[.int .i64 t.w, .int .i64 t.h, .slice a n c] 25)).alloc (.cells #[.int .i64 r.w, .int .i64 r.h, .slice b l d] 25)).alloc (.cells #[.int .i64 vx, .int .i64 vy] 27)) 34 (zl 71)
  have E_0 := (((Ext.alloc w (.cells #[.int .i64 t.w, .int .i64 t.h, .slice a n c] 25)).trans (Ext.alloc (w.alloc (.cells #[.int .i64 t.w, .int .i64 t.h, .slice a n c] 25)) (.cells #[.int .i64 r.w, .int .i64 r.h, .slice b l d] 25))).trans (Ext.alloc ((w.alloc (.cells #[.int .i64 t.w, .int .i64 t.h, .slice a n c] 25)).alloc (.cells #[.int .i64 r.w, .int .i64 r.h, .slice b l d] 25)) (.cells #[.int .i64 vx, .int .i64 vy] 27))).trans (Ext.alloc (((w.alloc (.cells #[.int .i64 t.w, .int .i64 t.h, .slice a n c] 25)).alloc (.cells #[.int .i64 r.w, .int .i64 r.h, .slice b l d] 25)).alloc (.cells #[.int .i64 vx, .int .i64 vy] 27)) (.cells (ic (zl 71)) 34))
  simp only [World.size_alloc] at X1_0 X2_0 X3_0
  clear a0_1
  clear a0_2
  clear a0_3
  clear a1_2
  clear a1_3
  clear a2_3
  clear h0 h1 h2 h3
  obtain ⟨-, k0_0, k0_1, k0_2, -⟩ := bx3 X0_0
  obtain ⟨-, k1_0, k1_1, k1_2, -⟩ := bx3 X1_0
  obtain ⟨-, k2_0, k2_1, -⟩ := bx2 X2_0
  go_enter Tryd.func11, Tryd.ntmps11
  go_wp2_with (refine wpList_iallocz 34 rfl rfl 71 zeroq_M ?_; (try simp only [World.size_alloc]))
  refine (l1Same_at t r a b c d n l _ HN.out HL.out nc lc (s.ext E_0) (u.ext E_0)).mono ?_
  rw [D0.out]
  rintro e w_1 ⟨rfl, e_1⟩
  have X0_1 := e_1.blk X0_0
  have X1_1 := e_1.blk X1_0
  have X2_1 := e_1.blk X2_0
  have X3_1 := X3_0.ext e_1
  have E_1 := E_0.trans e_1
  clear k0_0 k0_1 k0_2 X0_0 k1_0 k1_1 k1_2 X1_0 k2_0 k2_1 X2_0 X3_0 E_0
  clear e_1
  obtain ⟨-, k0_0, k0_1, k0_2, -⟩ := bx3 X0_1
  obtain ⟨-, k1_0, k1_1, k1_2, -⟩ := bx3 X1_1
  obtain ⟨-, k2_0, k2_1, -⟩ := bx2 X2_1
  go_wp2_with fail
  refine (l7Place_at t x y a c n _ HN.out nc (s.ext E_1)).mono ?_
  rw [D1.out]
  rintro e w_2 ⟨rfl, e_2⟩
  have X0_2 := e_2.blk X0_1
  have X1_2 := e_2.blk X1_1
  have X2_2 := e_2.blk X2_1
  have X3_2 := X3_1.ext e_2
  have E_2 := E_1.trans e_2
  clear k0_0 k0_1 k0_2 X0_1 k1_0 k1_1 k1_2 X1_1 k2_0 k2_1 X2_1 X3_1 E_1
  clear e_2
  obtain ⟨-, k0_0, k0_1, k0_2, -⟩ := bx3 X0_2
  obtain ⟨-, k1_0, k1_1, k1_2, -⟩ := bx3 X1_2
  obtain ⟨-, k2_0, k2_1, -⟩ := bx2 X2_2
  go_wp2_with fail
  refine (spec_VectorValid_yes vx vy _ V2.out).mono ?_
  rintro e w_3 ⟨rfl, e_3⟩
  have X0_3 := e_3.blk X0_2
  have X1_3 := e_3.blk X1_2
  have X2_3 := e_3.blk X2_2
  have X3_3 := X3_2.ext e_3
  have E_3 := E_2.trans e_3
  clear k0_0 k0_1 k0_2 X0_2 k1_0 k1_1 k1_2 X1_2 k2_0 k2_1 X2_2 X3_2 E_2
  clear e_3
  obtain ⟨-, k0_0, k0_1, k0_2, -⟩ := bx3 X0_3
  obtain ⟨-, k1_0, k1_1, k1_2, -⟩ := bx3 X1_3
  obtain ⟨-, k2_0, k2_1, -⟩ := bx2 X2_3
  go_wp2_with fail
  refine (l1In_yes _ _ _ _ Q3.out.1 Q3.out.2).mono ?_
  rintro e w_s3 ⟨rfl, rfl⟩
  have hbz := X3_3.lt
  go_wp2_with fail
  refine (l8Inter_yes t r x y vx vy q a b c d n l _ HN.out HL.out nc lc (s.ext E_3) (u.ext E_3) hrv htv hxx hyy hvv hq).mono ?_
  rintro e wz ⟨rfl, ez⟩
  have Xz := X3_3.ext ez
  have Ez := E_3.trans ez
  have Hzl := Lib.hid (Mac.zs_len (macI_ok vx vy (intL_len t r x y vx vy q (Nat.le_refl 4))))
  clear X3_3 E_3 ez
  go_wp2_with (refine wpList_istore 34 _ _ rfl rfl Xz 0 71 rfl _ rfl (macI vx vy (intL t r x y vx vy q 4)).zs rfl size_Macro Hzl.out (by simp [zl]) ?_; intro w6 p6 g6; refine Hid.out ?_)
  rw [spl_all (by rw [Hzl.out, zl_len])] at p6
  have E6 : Ext w w6 := Ext.grown Ez g6 (fun q hq => by cases hq; omega)
  refine Lib.hid ?_
  go_wp2
  exact bodyPost_ret (v := .agg (ic (macI vx vy (intL t r x y vx vy q 4)).zs)) (results_cell_row rfl _ _ (w.heap.size + 1 + 1 + 1) 34 (ic (macI vx vy (intL t r x y vx vy q 4)).zs) (0, 0) _ rfl p6 Tryd.underlying34 rfl (by rw [ic_size, Hzl.out]; exact size_Macro)) rfl ⟨rfl, E6⟩
theorem spec_InterMacro_any (t r : Pic) (x y vx vy q : Int) (a b : Option Addr) (c d n l : Nat) (w : World) (hn : n = t.px.length) (hl : l = r.px.length) (nc : n ≤ 9223372036854775807) (lc : l ≤ 9223372036854775807) (s : Sl w a n (t.px.map (Value.int .i64))) (u : Sl w b l (r.px.map (Value.int .i64))) :
    Calls Tryd.prog 11 #[.agg #[.int .i64 t.w, .int .i64 t.h, .slice a n c], .agg #[.int .i64 r.w, .int .i64 r.h, .slice b l d], .int .i64 x, .int .i64 y, .agg #[.int .i64 vx, .int .i64 vy], .int .i64 q] w fun e w' => e = .returned (.agg (ic (interP t r x y vx vy q).zs)) ∧ Ext w w' := by
  by_cases h0 : alikeP t r
  · by_cases h1 : placeP t x y
    · by_cases h2 : vv vx vy
      · by_cases h3 : 0 ≤ q ∧ q ≤ 15
        · have ho : okI t r x y vx vy q := ⟨h0, h1, h2, h3⟩
          rw [interP_yes ho]
          have hh1 := h1.2
          have hw := h0.1.1
          have hh := h0.1.2.1
          have h := spec_InterMacro_yes_4 t r x.toNat y.toNat vx vy q.toNat a b c d n l w hn hl nc lc s u h0.2.1 h0.1 (by have := hw.2.1; omega) (by have := hh.2.1; omega) h2 (by omega) h0 (by rw [show ((x.toNat : Nat) : Int) = x by omega, show ((y.toNat : Nat) : Int) = y by omega]; exact h1) h2 (by omega)
          rw [show ((x.toNat : Nat) : Int) = x by omega, show ((y.toNat : Nat) : Int) = y by omega, show ((q.toNat : Nat) : Int) = q by omega] at h
          exact h
        · rw [interP_no (fun h => h3 h.2.2.2), mac0_zz]
          exact spec_InterMacro_no_3 t r x y vx vy q a b c d n l w hn hl nc lc s u h0 h1 h2 h3
      · rw [interP_no (fun h => h2 h.2.2.1), mac0_zz]
        exact spec_InterMacro_no_2 t r x y vx vy q a b c d n l w hn hl nc lc s u h0 h1 h2
    · rw [interP_no (fun h => h1 h.2.1), mac0_zz]
      exact spec_InterMacro_no_1 t r x y vx vy q a b c d n l w hn hl nc lc s u h0 h1
  · rw [interP_no (fun h => h0 h.1), mac0_zz]
    exact spec_InterMacro_no_0 t r x y vx vy q a b c d n l w hn hl nc lc s u h0
end Go.Proofs.YtbnhaegidfbgbaaDoor
namespace Go.Proofs.YtbnhaegidfbgbaaDoor
open Go.RowKit
set_option maxHeartbeats 1000000
def absZ (n : Int) : Int := if n < 0 then -n else n
def sumA (c : List Int) (k : Nat) : Int := sumZ (fun i => absZ (nth c i)) k
def tcost (a b : List Int) : Int := sumA (had (dif a b)) 16 / 4
theorem IB.sl {w : World} {b T n : Nat} {zs : List Int} (h : IB w b T zs) (hl : zs.length = n) : Sl w (some ⟨b, 0, none⟩) n (zs.map (Value.int .i64)) := by
  refine ⟨by simp [hl], fun i hi => ⟨b, 0, rfl, ?_⟩⟩
  rw [Nat.zero_add, h.cell (i := i) (by omega)]
  simp [nth, show i < zs.length by omega]
end Go.Proofs.YtbnhaegidfbgbaaDoor
namespace Go.Proofs.YtbnhaegidfbgbaaDoor
open Go.RowKit
set_option maxHeartbeats 1000000
/-- The best of the first modes, and its cost. -/
def bb (a : List Int) (e : Ed) : Nat → Nat × Int
  | 0 => (0, 0)
  | k + 1 => if k = 0 ∨ tcost a (prd k e) < (bb a e k).2 then (k, tcost a (prd k e)) else bb a e k
def bst (a : List Int) (e : Ed) : Nat := (bb a e 5).1
end Go.Proofs.YtbnhaegidfbgbaaDoor
