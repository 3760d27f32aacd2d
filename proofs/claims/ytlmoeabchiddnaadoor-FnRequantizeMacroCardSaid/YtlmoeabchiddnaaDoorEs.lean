/- Equality of structs of integers: macroblocks compared. -/
import Derived.Test.YtlmoeabchiddnaaDoorIe
import Derived.Test.YtlmoeabchiddnaaDoorMb
namespace Go.Proofs.YtlmoeabchiddnaaDoor
open Go.RowKit
set_option maxHeartbeats 400000
section
variable {P : Program}
/-- Fields that follow one another from o to n, each compared as lists. -/
def EqF (P : Program) (d n : Nat) : List Field → Nat → Prop
  | [], o => o = n
  | f :: fs, o => f.name ≠ "_" ∧ f.offset = o ∧ ∃ c, EqE P f.type c d ∧ o + c ≤ n ∧ EqF P d n fs (o + c)
theorem sub_split (zs : List Int) (o c m : Nat) : sub zs o (c + m) = sub zs o c ++ sub zs (o + c) m := by
  unfold sub
  rw [List.take_add, List.drop_drop]
theorem EqF.run {d n : Nat} (w : World) (xs ys : List Int) (hx : n ≤ xs.length) (hy : n ≤ ys.length) : ∀ (fs : List Field) (o : Nat), EqF P d n fs o →
    (Op.eqFields d (ic xs) (ic ys) fs).run P w = .ok (decide (sub xs o (n - o) = sub ys o (n - o))) w
  | [], o, h => by
    have h' : o = n := h
    subst h'
    simp [Op.eqFields, sub]
  | f :: fs, o, h => by
    obtain ⟨h1, h2, c, hE, hc, h3⟩ := h
    obtain ⟨a, b, p1, p2, p3⟩ := hE w xs ys o (by omega) (by omega)
    have ih := EqF.run w xs ys hx hy fs (o + c) h3
    have e : n - o = c + (n - (o + c)) := by omega
    rw [e, sub_split, sub_split]
    simp only [Op.eqFields, ne_eq, h1, not_false_eq_true, if_true, Sem.run_bind, h2, p1, p2, p3, Result.andThen_ok, ih]
    by_cases hs : sub xs o c = sub ys o c
    · simp only [hs, decide_true, Bool.not_true, Bool.false_eq_true, if_false, ih]
      congr 1
      simp
    · simp only [hs, decide_false, Bool.not_false, if_true, Sem.run_pure]
      congr 1
      symm
      rw [decide_eq_false_iff_not]
      intro h
      exact hs (List.append_inj_left h (by rw [sub_len _ _ _ (by omega), sub_len _ _ _ (by omega)]))
theorem fieldsOf_eq {t : TypeId} {fs : Array Field} (ht : P.underlying t = some (.struct fs)) : P.fieldsOf t = fs := by simp [Program.fieldsOf, ht]
theorem EqE.struct {t : TypeId} {n d : Nat} {fs : Array Field} (ht : P.underlying t = some (.struct fs)) (hp : P.stoodInHeld t = false) (hti : (P.info? t).map (·.size) = some n) (hF : EqF P d n fs.toList 0) : EqE P t n (d + 1) := by
  have he := fieldsOf_eq ht
  subst he
  intro w xs ys off h1 h2
  have hag := isAgg_of (P := P) w ht rfl
  cases hqt : P.info? t with
  | none => simp [hqt] at hti
  | some jj =>
    have hst : jj.size = n := by simpa [hqt] using hti
    refine ⟨.agg (ic (sub xs off n)), .agg (ic (sub ys off n)), ?_, ?_, ?_⟩
    · simp [part, Sem.run_bind, hag, sizeOf, typeInfo, hqt, hst, ic_extract]
    · simp [part, Sem.run_bind, hag, sizeOf, typeInfo, hqt, hst, ic_extract]
    · rw [run_equalIn_struct w d t _ _ ht hp, EqF.run w _ _ (by rw [sub_len _ _ _ h1]; omega) (by rw [sub_len _ _ _ h2]; omega) _ 0 hF, Nat.sub_zero, sub_all _ _ (sub_len _ _ _ h1), sub_all _ _ (sub_len _ _ _ h2)]
theorem run_eql_struct_ints {t : TypeId} {n : Nat} {fs : Array Field} (ht : P.underlying t = some (.struct fs)) (hp : P.stoodInHeld t = false) (hF : EqF P 9999 n fs.toList 0) (w : World) (xs ys : List Int) (h1 : xs.length = n) (h2 : ys.length = n) :
    (Op.equalIn 10000 t (.agg (ic xs)) (.agg (ic ys))).run P w = .ok (decide (xs = ys)) w := by
  have he := fieldsOf_eq ht
  subst he
  rw [run_equalIn_struct w 9999 t _ _ ht hp, EqF.run w _ _ (by omega) (by omega) _ 0 hF, Nat.sub_zero, sub_all _ _ h1, sub_all _ _ h2]
/-- x == y, structs of integers. -/
theorem wpList_seql {ops : Array Oper} {rest : List Oper} {o : Oper} {a : Act} {w : World} {Q : Exit → Act → World → Prop} (t : TypeId) (x y : Operand) (t2 : TypeId) (ho : o.op = .binOp .eql t x y t2) (hgd : Region.wanted o (yielded ops a.tmps) = true)
    (cs ds : Array Value) (hx : a.eval x = .agg cs) (hy : a.eval y = .agg ds) (xs ys : List Int) (hcs : cs = ic xs) (hds : ds = ic ys) {n : Nat} {fs : Array Field} (ht : P.underlying t = some (.struct fs)) (hp : P.stoodInHeld t = false) (hF : EqF P 9999 n fs.toList 0) (h1 : xs.length = n) (h2 : ys.length = n)
    (hm : P.eqGuardType P.depth t = false) (r : Bool) (hr : decide (xs = ys) = r) (hK : wpList P ops Q rest (a.put o.dst (.bool r)) w) : wpList P ops Q (o :: rest) a w := by
  subst hcs hds hr
  refine wpList_wanted hgd fun _ hK' => ?_
  unfold Oper.wp execOp
  simp [ho, hx, hy, Sem.run_bind, run_eqGuard_agg w .eql t x y _ _ hm, run_eql_struct w t, run_eql_struct_ints ht hp hF w xs ys h1 h2, Result.andThen]
  exact hK' _ _ hK
theorem wpList_sneq {ops : Array Oper} {rest : List Oper} {o : Oper} {a : Act} {w : World} {Q : Exit → Act → World → Prop} (t : TypeId) (x y : Operand) (t2 : TypeId) (ho : o.op = .binOp .neq t x y t2) (hgd : Region.wanted o (yielded ops a.tmps) = true)
    (cs ds : Array Value) (hx : a.eval x = .agg cs) (hy : a.eval y = .agg ds) (xs ys : List Int) (hcs : cs = ic xs) (hds : ds = ic ys) {n : Nat} {fs : Array Field} (ht : P.underlying t = some (.struct fs)) (hp : P.stoodInHeld t = false) (hF : EqF P 9999 n fs.toList 0) (h1 : xs.length = n) (h2 : ys.length = n)
    (hm : P.eqGuardType P.depth t = false) (r : Bool) (hr : decide (xs = ys) = r) (hK : wpList P ops Q rest (a.put o.dst (.bool (!r))) w) : wpList P ops Q (o :: rest) a w := by
  subst hcs hds hr
  refine wpList_wanted hgd fun _ hK' => ?_
  unfold Oper.wp execOp
  simp [ho, hx, hy, Sem.run_bind, run_eqGuard_agg w .neq t x y _ _ hm, run_neq_struct w t, run_eql_struct_ints ht hp hF w xs ys h1 h2, Result.andThen]
  exact hK' _ _ (by simpa using hK)
end
theorem eqV : EqE Tryd.prog 31 2 9999 := EqE.struct (d := 9998) Tryd.underlying31 (by kernel_rfl) (by kernel_rfl) ⟨by decide, rfl, 1, EqE.int Tryd.underlying3 9997, by omega, by decide, rfl, 1, EqE.int Tryd.underlying3 9997, by omega, rfl⟩
theorem eqA4 : EqE Tryd.prog 24 4 9999 := EqE.arr (n := 4) Tryd.underlying24 size_int (by kernel_rfl) (EqE.int Tryd.underlying3 9997)
theorem eqA64 : EqE Tryd.prog 26 64 9999 := EqE.arr (n := 4) Tryd.underlying26 size_A16 (by kernel_rfl) (EqE.arr (n := 16) (d := 9997) Tryd.underlying25 size_int size_A16 (EqE.int Tryd.underlying3 9996))
/-- The macroblocks' fields as lists. -/
theorem eqM {fs : Array Field} (h : Tryd.prog.underlying 33 = some (.struct fs)) : EqF Tryd.prog 9999 71 fs.toList 0 := by
  rw [Tryd.underlying33] at h
  cases h
  exact ⟨by decide, rfl, 1, EqE.int Tryd.underlying3 9998, by omega, by decide, rfl, 2, eqV, by omega, by decide, rfl, 4, eqA4, by omega, by decide, rfl, 64, eqA64, by omega, rfl⟩
theorem hpM : Tryd.prog.stoodInHeld 33 = false := by kernel_rfl
theorem hmM : Tryd.prog.eqGuardType Tryd.prog.depth 33 = false := by kernel_rfl
end Go.Proofs.YtlmoeabchiddnaaDoor
