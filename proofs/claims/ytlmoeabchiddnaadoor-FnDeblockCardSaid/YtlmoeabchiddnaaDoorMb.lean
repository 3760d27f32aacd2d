/- Macroblocks: what is valid; the program's and the reference's tests. -/
import Derived.Test.YtlmoeabchiddnaaDoorMa
import Derived.Test.YtlmoeabchiddnaaDoorIe
namespace Go.Proofs.YtlmoeabchiddnaaDoor
open Go.RowKit
set_option maxHeartbeats 400000
structure Mac where
  kind : Int
  x : Int
  y : Int
  modes : List Int
  lv : List Int
/-- Four modes, four blocks of sixteen levels. -/
structure Mac.ok (m : Mac) : Prop where
  modes : m.modes.length = 4
  lv : m.lv.length = 64
/-- The 71 integers of a macroblock. -/
def Mac.zs (m : Mac) : List Int := m.kind :: m.x :: m.y :: (m.modes ++ m.lv)
def mac0 : Mac := ⟨0, 0, 0, List.replicate 4 0, List.replicate 64 0⟩
theorem mac0_ok : mac0.ok := ⟨rfl, rfl⟩
theorem Mac.zs_len {m : Mac} (h : m.ok) : m.zs.length = 71 := by simp [Mac.zs, h.modes, h.lv]
theorem Mac.zs_kind (m : Mac) : nth m.zs 0 = m.kind := rfl
theorem Mac.zs_x (m : Mac) : nth m.zs 1 = m.x := rfl
theorem Mac.zs_y (m : Mac) : nth m.zs 2 = m.y := rfl
theorem Mac.zs_mv {m : Mac} : ic (sub m.zs 1 2) = #[.int .i64 m.x, .int .i64 m.y] := rfl
theorem Mac.zs_modes {m : Mac} (h : m.ok) : sub m.zs 3 4 = m.modes := by
  simp only [Mac.zs, sub, List.drop_succ_cons, List.drop_zero]
  rw [List.take_append_of_le_length (by rw [h.modes]; exact Nat.le_refl _), List.take_of_length_le (by rw [h.modes]; exact Nat.le_refl _)]
theorem Mac.zs_lv {m : Mac} (h : m.ok) : sub m.zs 7 64 = m.lv := by
  simp only [Mac.zs, sub, List.drop_succ_cons]
  rw [List.drop_append_of_le_length (by rw [h.modes]; exact Nat.le_refl _), List.drop_of_length_le (by rw [h.modes]; exact Nat.le_refl _), List.nil_append, List.take_of_length_le (by rw [h.lv]; exact Nat.le_refl _)]
theorem Mac.zs_blk {m : Mac} (h : m.ok) (k : Nat) (hk : k < 4) : sub m.zs (7 + k * 16) 16 = sub m.lv (k * 16) 16 := by
  rw [← Mac.zs_lv h, sub_sub _ _ _ _ _ (by omega)]
theorem Mac.nth_mode {m : Mac} (h : m.ok) (k : Nat) (hk : k < 4) : nth m.zs (3 + k) = nth m.modes k := by
  rw [← Mac.zs_modes h, nth_sub _ _ _ _ hk]
theorem Mac.nth_lv {m : Mac} (h : m.ok) (k : Nat) (hk : k < 64) : nth m.zs (7 + k) = nth m.lv k := by
  rw [← Mac.zs_lv h, nth_sub _ _ _ _ hk]
def zero4 : List Int := List.replicate 4 0
def zero64 : List Int := List.replicate 64 0
/-- What MacroValid asks. -/
def Mac.valid (m : Mac) : Prop := (0 ≤ m.kind ∧ m.kind ≤ 2) ∧ (-16 ≤ m.x ∧ m.x ≤ 16 ∧ -16 ≤ m.y ∧ m.y ≤ 16) ∧ (m.kind ≠ 1 → m.x = 0 ∧ m.y = 0) ∧ (m.kind ≠ 2 → m.modes = zero4) ∧ (m.kind = 2 → ∀ j, j < 4 → 0 ≤ nth m.modes j ∧ nth m.modes j ≤ 4) ∧ (m.kind = 0 → m.lv = zero64) ∧ inB 4080 m.lv = true
noncomputable instance (m : Mac) : Decidable m.valid := Classical.propDecidable _
/-- Blocks of sixteen: all within the bound. -/
theorem inB_blocks {B : Int} {zs : List Int} (h : zs.length = 64) : inB B zs = true ↔ ∀ k, k < 4 → inB B (sub zs (k * 16) 16) = true := by
  constructor
  · intro hb k hk
    refine inB_yes fun j hj => ?_
    rw [sub_len _ _ _ (by omega)] at hj
    rw [nth_sub _ _ _ _ hj]
    exact inB_iff.1 hb _ (by omega)
  · intro hb
    refine inB_yes fun j hj => ?_
    have h1 := inB_iff.1 (hb (j / 16) (by omega)) (j % 16) (by rw [sub_len _ _ _ (by omega)]; omega)
    rw [nth_sub _ _ _ _ (by omega), show j / 16 * 16 + j % 16 = j by omega] at h1
    exact h1
theorem nth_zero4 {j : Nat} (h : j < 4) : nth zero4 j = 0 := by
  match j, h with
  | 0, _ => rfl
  | 1, _ => rfl
  | 2, _ => rfl
  | 3, _ => rfl
section
variable {P : Program}
theorem wpList_veql {ops : Array Oper} {rest : List Oper} {o : Oper} {a : Act} {w : World} {Q : Exit → Act → World → Prop} (t : TypeId) (x y : Operand) (t2 : TypeId) (ho : o.op = .binOp .eql t x y t2) (hgd : Region.wanted o (yielded ops a.tmps) = true)
    (cs ds : Array Value) (hx : a.eval x = .agg cs) (hy : a.eval y = .agg ds) (r : Bool) (hrun : ∀ w, (Op.equalIn 10000 t (.agg cs) (.agg ds)).run P w = .ok r w) (hm : P.eqGuardType P.depth t = false)
    (hK : wpList P ops Q rest (a.put o.dst (.bool r)) w) : wpList P ops Q (o :: rest) a w := by
  refine wpList_wanted hgd fun _ hK' => ?_
  unfold Oper.wp execOp
  simp [ho, hx, hy, Sem.run_bind, run_eqGuard_agg w .eql t x y _ _ hm, run_eql_struct w t, hrun, Result.andThen]
  exact hK' _ _ hK
theorem wpList_vneq {ops : Array Oper} {rest : List Oper} {o : Oper} {a : Act} {w : World} {Q : Exit → Act → World → Prop} (t : TypeId) (x y : Operand) (t2 : TypeId) (ho : o.op = .binOp .neq t x y t2) (hgd : Region.wanted o (yielded ops a.tmps) = true)
    (cs ds : Array Value) (hx : a.eval x = .agg cs) (hy : a.eval y = .agg ds) (r : Bool) (hrun : ∀ w, (Op.equalIn 10000 t (.agg cs) (.agg ds)).run P w = .ok r w) (hm : P.eqGuardType P.depth t = false)
    (hK : wpList P ops Q rest (a.put o.dst (.bool (!r))) w) : wpList P ops Q (o :: rest) a w := by
  refine wpList_wanted hgd fun _ hK' => ?_
  unfold Oper.wp execOp
  simp [ho, hx, hy, Sem.run_bind, run_eqGuard_agg w .neq t x y _ _ hm, run_neq_struct w t, hrun, Result.andThen]
  exact hK' _ _ (by simpa using hK)
end
/-- A valid vector. -/
def vv (x y : Int) : Prop := -16 ≤ x ∧ x ≤ 16 ∧ -16 ≤ y ∧ y ≤ 16
set_option maxRecDepth 100000 in
theorem vec_eq (x y : Int) (r : Bool) (hr : decide (x = 0 ∧ y = 0) = r) (w : World) : (Op.equalIn 10000 31 (.agg #[.int .i64 x, .int .i64 y]) (.agg #[.int .i64 0, .int .i64 0])).run Tryd.prog w = .ok r w := by
  have hf : Tryd.prog.underlying 31 = some (.struct (Tryd.prog.fieldsOf 31)) := by kernel_rfl
  have hp : Tryd.prog.stoodInHeld 31 = false := by kernel_rfl
  subst hr
  rw [run_equalIn_struct w 9999 _ _ _ hf hp]
  have hag : (isAgg 3).run Tryd.prog w = .ok false w := by
    unfold isAgg
    rw [Sem.run_bind, run_underlying Tryd.underlying3 w]
    simp
  have p1 : ∀ (u v : Int), (part 3 #[.int .i64 u, .int .i64 v] 0).run Tryd.prog w = .ok (.int .i64 u) w := fun u v => by simp [part, Sem.run_bind, hag]
  have p2 : ∀ (u v : Int), (part 3 #[.int .i64 u, .int .i64 v] 1).run Tryd.prog w = .ok (.int .i64 v) w := fun u v => by simp [part, Sem.run_bind, hag]
  have q : ∀ (u v : Int), (Op.equalIn 9999 3 (.int .i64 u) (.int .i64 v)).run Tryd.prog w = .ok (u == v) w := fun u v => run_equalIn_int w 9998 _ _ _ _ _ Tryd.underlying3
  simp only [Program.fieldsOf, Tryd.underlying31, Op.eqFields, Sem.run_bind, p1, p2, q, Result.andThen_ok]
  by_cases hx : x = 0
  · subst hx
    by_cases hy : y = 0
    · subst hy; simp [p1, p2, q, Result.andThen]
    · simp [p1, p2, q, Result.andThen, hy]
  · simp [p1, p2, q, Result.andThen, hx]
theorem guard_Vector : Tryd.prog.eqGuardType Tryd.prog.depth 31 = false := by kernel_rfl
theorem guard_A4 : Tryd.prog.eqGuardType Tryd.prog.depth 24 = false := by kernel_rfl
theorem guard_A16A4 : Tryd.prog.eqGuardType Tryd.prog.depth 26 = false := by kernel_rfl
theorem size_A4 : (Tryd.prog.info? 24).map (·.size) = some 4 := by kernel_rfl
theorem size_A16A4 : (Tryd.prog.info? 26).map (·.size) = some 64 := by kernel_rfl
theorem size_Vector : (Tryd.prog.info? 31).map (·.size) = some 2 := by kernel_rfl
theorem size_Macro : (Tryd.prog.info? 33).map (·.size) = some 71 := by kernel_rfl
theorem zero_A4 : (Tryd.prog.info? 24).map (·.zero) = some (some (.agg (ic (List.replicate 4 0)))) := by kernel_rfl
theorem zero_A16A4 : (Tryd.prog.info? 26).map (·.zero) = some (some (.agg (ic (List.replicate 64 0)))) := by kernel_rfl
theorem eqE_int : EqE Tryd.prog 3 1 9999 := EqE.int Tryd.underlying3 9998
theorem eqE_A16 : EqE Tryd.prog 25 16 9999 := EqE.arr (n := 16) Tryd.underlying25 size_int size_A16 (EqE.int Tryd.underlying3 9997)
theorem impl_VectorValid_yes (x y : Int) (w : World) (h : vv x y) :
    Calls Tryd.prog 87 #[.agg #[.int .i64 x, .int .i64 y]] w fun e w' => e = .returned (.bool true) ∧ Ext w w' := by
  obtain ⟨h1, h2, h3, h4⟩ := h
  go_enter Tryd.func87, Tryd.ntmps87
  go_wp2
  go_ret
  exact ⟨by first | rfl | (simp; done) | (simp; omega), Ext.alloc _ _⟩
theorem impl_VectorValid_no (x y : Int) (w : World) (h : ¬ vv x y) :
    Calls Tryd.prog 87 #[.agg #[.int .i64 x, .int .i64 y]] w fun e w' => e = .returned (.bool false) ∧ Ext w w' := by
  unfold vv at h
  by_cases h1 : -16 ≤ x
  · by_cases h2 : x ≤ 16
    · by_cases h3 : -16 ≤ y
      · have h4 : ¬ y ≤ 16 := fun h4 => h ⟨h1, h2, h3, h4⟩
        clear h
        go_enter Tryd.func87, Tryd.ntmps87
        go_wp2
        go_ret
        exact ⟨by first | rfl | (simp; done) | (simp; omega), Ext.alloc _ _⟩
      · clear h
        go_enter Tryd.func87, Tryd.ntmps87
        go_wp2
        go_ret
        exact ⟨by first | rfl | (simp; done) | (simp; omega), Ext.alloc _ _⟩
    · clear h
      go_enter Tryd.func87, Tryd.ntmps87
      go_wp2
      go_ret
      exact ⟨by first | rfl | (simp; done) | (simp; omega), Ext.alloc _ _⟩
  · clear h
    go_enter Tryd.func87, Tryd.ntmps87
    go_wp2
    go_ret
    exact ⟨by first | rfl | (simp; done) | (simp; omega), Ext.alloc _ _⟩
end Go.Proofs.YtlmoeabchiddnaaDoor
