/- Equality of arrays of integers (nested too); zero arrays. -/
import Derived.Test.YtlmoeabchiddnaaDoorIa
import Derived.Laws.StructEq
namespace Go.Proofs.YtlmoeabchiddnaaDoor
open Go.RowKit
set_option maxHeartbeats 400000
section
variable {P : Program}
/-- Elements of type e, of c integers each, are compared as lists. -/
def EqE (P : Program) (e : TypeId) (c : Nat) (d : Nat) : Prop := ∀ (w : World) (xs ys : List Int) (off : Nat), off + c ≤ xs.length → off + c ≤ ys.length →
  ∃ a b, (part e (ic xs) off).run P w = .ok a w ∧ (part e (ic ys) off).run P w = .ok b w ∧ (Op.equalIn d e a b).run P w = .ok (decide (sub xs off c = sub ys off c)) w
theorem EqE.int {e : TypeId} (he : P.underlying e = some (.int .i64)) (d : Nat) : EqE P e 1 (d + 1) := by
  intro w xs ys off h1 h2
  have hag : (isAgg e).run P w = .ok false w := by
    unfold isAgg
    rw [Sem.run_bind, run_underlying he w]
    simp
  refine ⟨.int .i64 (nth xs off), .int .i64 (nth ys off), ?_, ?_, ?_⟩
  · simp [part, Sem.run_bind, hag, ic_get xs off (by omega)]
  · simp [part, Sem.run_bind, hag, ic_get ys off (by omega)]
  · rw [run_equalIn_int w d e .i64 .i64 _ _ he, sub_one xs off (by omega), sub_one ys off (by omega)]
    congr 1
    by_cases h : nth xs off = nth ys off
    · simp [h]
    · simp [h]
theorem eqItems_run {e : TypeId} {c d : Nat} (hE : EqE P e c d) (w : World) (xs ys : List Int) : ∀ (is : List Nat), (∀ i ∈ is, i * c + c ≤ xs.length ∧ i * c + c ≤ ys.length) →
    (Op.eqItems d e c (ic xs) (ic ys) is).run P w = .ok (decide (∀ i ∈ is, sub xs (i * c) c = sub ys (i * c) c)) w
  | [], _ => by simp [Op.eqItems]
  | i :: is, h => by
    obtain ⟨a, b, h1, h2, h3⟩ := hE w xs ys (i * c) (h i (by simp)).1 (h i (by simp)).2
    have ih := eqItems_run hE w xs ys is (fun j hj => h j (by simp [hj]))
    simp only [Op.eqItems, Sem.run_bind, h1, h2, h3, Result.andThen_ok]
    by_cases hs : sub xs (i * c) c = sub ys (i * c) c
    · simp only [hs, decide_true, Bool.not_true, Bool.false_eq_true, if_false, ih]
      congr 1
      simp [hs]
    · simp only [hs, decide_false, Bool.not_false, if_true, Sem.run_pure]
      congr 1
      simp [hs]
theorem sub_sub (zs : List Int) (o n p m : Nat) (h : p + m ≤ n) : sub (sub zs o n) p m = sub zs (o + p) m := by
  unfold sub
  rw [List.drop_take, List.drop_drop, List.take_take]
  congr 1
  omega
theorem sub_ext {xs ys : List Int} {o n c : Nat} (h1 : o + n * c ≤ xs.length) (h2 : o + n * c ≤ ys.length) : (∀ i ∈ List.range n, sub (sub xs o (n * c)) (i * c) c = sub (sub ys o (n * c)) (i * c) c) ↔ sub xs o (n * c) = sub ys o (n * c) := by
  constructor
  · intro h
    refine ext_nth (by rw [sub_len _ _ _ h1, sub_len _ _ _ h2]) fun j hj => ?_
    rw [sub_len _ _ _ h1] at hj
    have hc : 0 < c := by
      rcases Nat.eq_zero_or_pos c with h0 | h0
      · subst h0; simp at hj
      · exact h0
    have hd : j / c < n := Nat.div_lt_of_lt_mul (by rw [Nat.mul_comm]; exact hj)
    have hm : j % c < c := Nat.mod_lt _ hc
    have e := h (j / c) (by simpa using hd)
    have e1 : j / c * c + j % c = j := by rw [Nat.mul_comm]; exact Nat.div_add_mod j c
    have e2 : nth (sub (sub xs o (n * c)) (j / c * c) c) (j % c) = nth (sub (sub ys o (n * c)) (j / c * c) c) (j % c) := by rw [e]
    rw [nth_sub _ _ _ _ hm, nth_sub _ _ _ _ hm, e1] at e2
    exact e2
  · intro h i _
    rw [h]
theorem EqE.arr {t e : TypeId} {n c d : Nat} (ht : P.underlying t = some (.array n e)) (hi : (P.info? e).map (·.size) = some c) (hti : (P.info? t).map (·.size) = some (n * c)) (hE : EqE P e c d) : EqE P t (n * c) (d + 1) := by
  intro w xs ys off h1 h2
  cases hq : P.info? e with
  | none => simp [hq] at hi
  | some ii =>
    have hs : ii.size = c := by simpa [hq] using hi
    have hce : P.cellsOf e = c := by simp [Program.cellsOf, hq, hs]
    have hag := isAgg_of (P := P) w ht rfl
    cases hqt : P.info? t with
    | none => simp [hqt] at hti
    | some jj =>
      have hst : jj.size = n * c := by simpa [hqt] using hti
      refine ⟨.agg (ic (sub xs off (n * c))), .agg (ic (sub ys off (n * c))), ?_, ?_, ?_⟩
      · simp [part, Sem.run_bind, hag, sizeOf, typeInfo, hqt, hst, ic_extract]
      · simp [part, Sem.run_bind, hag, sizeOf, typeInfo, hqt, hst, ic_extract]
      · rw [run_equalIn_array w d _ _ ht hq, hce, eqItems_run hE w _ _ (List.range n) (fun i hi' => by
          rw [sub_len _ _ _ h1, sub_len _ _ _ h2]
          have hin : i < n := by simpa using hi'
          have : (i + 1) * c ≤ n * c := Nat.mul_le_mul_right _ hin
          rw [Nat.succ_mul] at this
          exact ⟨this, this⟩)]
        congr 1
        exact decide_eq_decide.2 (sub_ext h1 h2)
/-- x == y, arrays of integers. -/
theorem run_eql_ints {t : TypeId} {n c : Nat} {e : TypeId} (ht : P.underlying t = some (.array n e)) (hi : (P.info? e).map (·.size) = some c) (hE : EqE P e c 9999) (w : World) (xs ys : List Int) (h1 : xs.length = n * c) (h2 : ys.length = n * c) :
    (Op.equalIn 10000 t (.agg (ic xs)) (.agg (ic ys))).run P w = .ok (decide (xs = ys)) w := by
  cases hq : P.info? e with
  | none => simp [hq] at hi
  | some ii =>
    have hs : ii.size = c := by simpa [hq] using hi
    have hce : P.cellsOf e = c := by simp [Program.cellsOf, hq, hs]
    rw [run_equalIn_array w 9999 _ _ ht hq, hce, eqItems_run hE w _ _ (List.range n) (fun i hi' => by
      rw [h1, h2]
      have hin : i < n := by simpa using hi'
      have : (i + 1) * c ≤ n * c := Nat.mul_le_mul_right _ hin
      rw [Nat.succ_mul] at this
      exact ⟨this, this⟩)]
    congr 1
    have e := sub_ext (xs := xs) (ys := ys) (o := 0) (n := n) (c := c) (by omega) (by omega)
    rw [sub_all xs _ h1, sub_all ys _ h2] at e
    exact decide_eq_decide.2 e
theorem wpList_ieql {ops : Array Oper} {rest : List Oper} {o : Oper} {a : Act} {w : World} {Q : Exit → Act → World → Prop} (t : TypeId) (x y : Operand) (t2 : TypeId) (ho : o.op = .binOp .eql t x y t2) (hgd : Region.wanted o (yielded ops a.tmps) = true)
    (cs ds : Array Value) (hx : a.eval x = .agg cs) (hy : a.eval y = .agg ds) (xs ys : List Int) (hcs : cs = ic xs) (hds : ds = ic ys) {n c : Nat} {e : TypeId} (ht : P.underlying t = some (.array n e)) (hi : (P.info? e).map (·.size) = some c) (hE : EqE P e c 9999) (h1 : xs.length = n * c) (h2 : ys.length = n * c)
    (hm : P.eqGuardType P.depth t = false) (r : Bool) (hr : decide (xs = ys) = r) (hK : wpList P ops Q rest (a.put o.dst (.bool r)) w) : wpList P ops Q (o :: rest) a w := by
  subst hcs hds hr
  refine wpList_wanted hgd fun _ hK' => ?_
  unfold Oper.wp execOp
  simp [ho, hx, hy, Sem.run_bind, run_eqGuard_agg w .eql t x y _ _ hm, run_eql_struct w t, run_eql_ints ht hi hE w xs ys h1 h2, Result.andThen]
  exact hK' _ _ hK
theorem wpList_ineq {ops : Array Oper} {rest : List Oper} {o : Oper} {a : Act} {w : World} {Q : Exit → Act → World → Prop} (t : TypeId) (x y : Operand) (t2 : TypeId) (ho : o.op = .binOp .neq t x y t2) (hgd : Region.wanted o (yielded ops a.tmps) = true)
    (cs ds : Array Value) (hx : a.eval x = .agg cs) (hy : a.eval y = .agg ds) (xs ys : List Int) (hcs : cs = ic xs) (hds : ds = ic ys) {n c : Nat} {e : TypeId} (ht : P.underlying t = some (.array n e)) (hi : (P.info? e).map (·.size) = some c) (hE : EqE P e c 9999) (h1 : xs.length = n * c) (h2 : ys.length = n * c)
    (hm : P.eqGuardType P.depth t = false) (r : Bool) (hr : decide (xs = ys) = r) (hK : wpList P ops Q rest (a.put o.dst (.bool (!r))) w) : wpList P ops Q (o :: rest) a w := by
  subst hcs hds hr
  refine wpList_wanted hgd fun _ hK' => ?_
  unfold Oper.wp execOp
  simp [ho, hx, hy, Sem.run_bind, run_eqGuard_agg w .neq t x y _ _ hm, run_neq_struct w t, run_eql_ints ht hi hE w xs ys h1 h2, Result.andThen]
  exact hK' _ _ (by simpa using hK)
/-- [n]T{}, T an array of integers or an integer. -/
theorem wpList_izero {ops : Array Oper} {rest : List Oper} {o : Oper} {a : Act} {w : World} {Q : Exit → Act → World → Prop} (t : TypeId) (ho : o.op = .build t #[]) (hgd : Region.wanted o (yielded ops a.tmps) = true)
    {n c : Nat} {e : TypeId} (ht : P.underlying t = some (.array n e)) (hi : (P.info? e).map (·.size) = some c) (N : Nat) (hz : (P.info? t).map (·.zero) = some (some (.agg (ic (List.replicate N 0)))))
    (hK : wpList P ops Q rest (a.put o.dst (.agg (ic (List.replicate N 0)))) w) : wpList P ops Q (o :: rest) a w := by
  refine wpList_wanted hgd fun _ hK' => ?_
  cases hq : P.info? e with
  | none => simp [hq] at hi
  | some ii =>
    cases hqt : P.info? t with
    | none => simp [hqt] at hz
    | some jj =>
      have hzz : jj.zero = some (.agg (ic (List.replicate N 0))) := by simpa [hqt] using hz
      unfold Oper.wp execOp
      simp [ho, Instr.build, zeroValue, typeInfo, hqt, hzz, run_underlying ht, sizeOf, hq, Instr.fill, Value.cells, Sem.run_bind, Result.andThen]
      exact hK' _ _ hK
/-- new(T), T of integers alone. -/
theorem wpList_ialloc {ops : Array Oper} {rest : List Oper} {o : Oper} {a : Act} {w : World} {Q : Exit → Act → World → Prop} (t : TypeId) (ho : o.op = .alloc t) (hgd : Region.wanted o (yielded ops a.tmps) = true)
    (N : Nat) (hz : (P.info? t).map (·.zero) = some (some (.agg (ic (List.replicate N 0)))))
    (hK : wpList P ops Q rest (a.put o.dst (.pointer (some ⟨w.heap.size, 0, none⟩))) (w.alloc (.cells (ic (List.replicate N 0)) t))) : wpList P ops Q (o :: rest) a w := by
  refine wpList_wanted hgd fun _ hK' => ?_
  cases hqt : P.info? t with
  | none => simp [hqt] at hz
  | some jj =>
    have hzz : jj.zero = some (.agg (ic (List.replicate N 0))) := by simpa [hqt] using hz
    unfold Oper.wp execOp
    simp [ho, Instr.alloc, zeroValue, typeInfo, hqt, hzz, Value.cells, newVar, newRow, Sem.run_bind, Result.andThen]
    exact hK' _ _ hK
/-- n zeros. -/
def zl (n : Nat) : List Int := List.replicate n 0
theorem zl_len (n : Nat) : (zl n).length = n := by simp [zl]
/-- [n]T{}, T an array of integers or an integer. -/
theorem wpList_izeroz {ops : Array Oper} {rest : List Oper} {o : Oper} {a : Act} {w : World} {Q : Exit → Act → World → Prop} (t : TypeId) (ho : o.op = .build t #[]) (hgd : Region.wanted o (yielded ops a.tmps) = true)
    {n c : Nat} {e : TypeId} (ht : P.underlying t = some (.array n e)) (hi : (P.info? e).map (·.size) = some c) (N : Nat) (hz : (P.info? t).map (·.zero) = some (some (.agg (ic (zl N)))))
    (hK : wpList P ops Q rest (a.put o.dst (.agg (ic (zl N)))) w) : wpList P ops Q (o :: rest) a w := by
  refine wpList_wanted hgd fun _ hK' => ?_
  cases hq : P.info? e with
  | none => simp [hq] at hi
  | some ii =>
    cases hqt : P.info? t with
    | none => simp [hqt] at hz
    | some jj =>
      have hzz : jj.zero = some (.agg (ic (zl N))) := by simpa [hqt] using hz
      unfold Oper.wp execOp
      simp [ho, Instr.build, zeroValue, typeInfo, hqt, hzz, run_underlying ht, sizeOf, hq, Instr.fill, Value.cells, Sem.run_bind, Result.andThen]
      exact hK' _ _ hK
/-- new(T), T of integers alone. -/
theorem wpList_iallocz {ops : Array Oper} {rest : List Oper} {o : Oper} {a : Act} {w : World} {Q : Exit → Act → World → Prop} (t : TypeId) (ho : o.op = .alloc t) (hgd : Region.wanted o (yielded ops a.tmps) = true)
    (N : Nat) (hz : (P.info? t).map (·.zero) = some (some (.agg (ic (zl N)))))
    (hK : wpList P ops Q rest (a.put o.dst (.pointer (some ⟨w.heap.size, 0, none⟩))) (w.alloc (.cells (ic (zl N)) t))) : wpList P ops Q (o :: rest) a w := by
  refine wpList_wanted hgd fun _ hK' => ?_
  cases hqt : P.info? t with
  | none => simp [hqt] at hz
  | some jj =>
    have hzz : jj.zero = some (.agg (ic (zl N))) := by simpa [hqt] using hz
    unfold Oper.wp execOp
    simp [ho, Instr.alloc, zeroValue, typeInfo, hqt, hzz, Value.cells, newVar, newRow, Sem.run_bind, Result.andThen]
    exact hK' _ _ hK
end
end Go.Proofs.YtlmoeabchiddnaaDoor
