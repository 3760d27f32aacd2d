/- append(dst, src...) onto a row of the call's own, whatever the source. -/
import Derived.Test.YtmokncpppmchfaaDoorBase
import Derived.RegionTactic
namespace Go.Proofs.YtmokncpppmchfaaDoor
open Go.RowKit
section
variable {P : Program} (w : World)
theorem run_app_nil (base : Nat) (t ty e : TypeId) (i : TypeInfo) (size : Nat) (ht : P.underlying t = some (.slice e)) (hi : P.info? e = some i)
    (v : Value) (n : Nat) (xs : List Value) (hown : w.ownsRow base e size v n xs) (c : Nat) : (Builtin.append_ #[t, t] ty #[v, .slice none 0 c]).run P w = .ok v w := by
  rcases hown.2 with ⟨rfl, rfl⟩ | ⟨g, cap, cur, rfl, _, _, hnc, _⟩
  · simp [Builtin.append_, run_underlying ht, sizeOf, typeInfo, hi, Builtin.lenOf, Builtin.firstCells]
  · simp [Builtin.append_, run_underlying ht, sizeOf, typeInfo, hi, Builtin.lenOf, Builtin.firstCells, hnc, storeCells]
theorem Sl.cellsOf {a : Addr} {m : Nat} {us : List Value} (h : Sl w (some a) m us) (hm : 0 < m) : ∀ j u, us[j]? = some u → w.cell? (a.add j) = some u := by
  intro j u hu
  have hj : j < us.length := (List.getElem?_eq_some_iff.1 hu).1
  obtain ⟨b, off, ha, hc⟩ := h.2 j (by rw [← h.1]; exact hj)
  simp only [Option.some.injEq] at ha
  subst ha
  rw [Addr.add_lit, hc]
  simp [List.getD, hu]
theorem wpList_apps {ops : Array Oper} {rest : List Oper} {o : Oper} {a : Act} {Q : Exit → Act → World → Prop} {base e : Nat} {v : Value} {n : Nat} {xs : List Value}
    (hown : w.ownsRow base e 1 v n xs) (hbase : base ≤ w.heap.size)
    (hg : o.guard = none) (s x : Operand) (t : TypeId) (ho : o.op = .call { callee := .builtin .append, args := #[s, x], argTypes := #[t, t] })
    (z : Value) (bytes : Nat) (h1 : P.underlying t = some (.slice e)) (h2 : (P.info? e).map (fun i => (i.zero, i.size, i.bytes)) = some (some z, 1, bytes)) (hz1 : z.cells.size = 1)
    (hs : a.eval s = v) (A : Option Addr) (m c : Nat) (us : List Value) (hx : a.eval x = .slice A m c) (src : Sl w A m us) (hu1 : ∀ u ∈ us, u.oneCell' = true)
    (hb : (n + m) * bytes ≤ 140737488355328) (hn : n + m < 2 ^ 62)
    (h : ∀ v' w', w'.ownsRow base e 1 v' (n + m) (xs ++ us) → w.grownBy w' v.ownBlock → wpList P ops Q rest (a.put o.dst v') w') : wpList P ops Q (o :: rest) a w := by
  obtain ⟨i0, hi, hz0, hz1', hz2⟩ := info_parts h2
  cases A with
  | none =>
    have hm : m = 0 := by
      refine Classical.byContradiction fun h0 => ?_
      obtain ⟨b, off, ha, -⟩ := src.2 0 (by omega)
      cases ha
    subst hm
    have hus : us = [] := List.eq_nil_of_length_eq_zero src.1
    subst hus
    refine wpList_plain hg fun _ hK => ?_
    have hrun := run_app_nil (P := P) w base t o.type e i0 1 h1 hi v n xs hown c
    unfold Oper.wp execOp
    simp only [ho, resolve, invoke, builtin, Sem.run_bind, Sem.run_pure, Result.andThen_ok, List.map_toArray, List.map_cons, List.map_nil, hs, hx, hrun]
    exact hK _ _ (h v w (by simpa using hown) (World.grownBy.refl w _))
  | some ad =>
    refine wpList_append_own _ hg s x t ho base e i0 z 1 bytes h1 hi hz0 hz1' hz2 hz1 (by decide) v n xs hs hown ad m c us hx (by rw [src.1]; omega) ?_ hu1 (by unfold maxLen; omega) hb hbase ?_
    · by_cases hm : 0 < m
      · exact src.cellsOf _ hm
      · have hus : us = [] := List.eq_nil_of_length_eq_zero (by rw [src.1]; omega)
        subst hus
        intro j u hj
        simp at hj
    · intro v' w' a1 a2 _
      exact h v' w' a1 a2
end
end Go.Proofs.YtmokncpppmchfaaDoor
