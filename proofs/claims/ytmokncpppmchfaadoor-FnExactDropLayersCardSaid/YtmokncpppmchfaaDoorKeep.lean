/- append onto a row of the call's own keeps each row no longer than it. -/
import Derived.Test.YtmokncpppmchfaaDoorBase
namespace Go.Proofs.YtmokncpppmchfaaDoor
open Go.RowKit
section
variable {P : Program} (w : World)
theorem run_append_keep (base : Nat) (t ty e : TypeId) (i : TypeInfo) (z : Value) (size bytes : Nat) (ht : P.underlying t = some (.slice e)) (hi : P.info? e = some i) (hz : i.zero = some z)
    (hsize : i.size = size) (hby : i.bytes = bytes) (hzs : z.cells.size = size) (hsz : 0 < size)
    (v : Value) (n : Nat) (xs : List Value) (hown : w.ownsRow base e size v n xs)
    (a : Addr) (m c : Nat) (news : List Value) (hl : news.length = m * size) (hnews : ∀ j u, news[j]? = some u → w.cell? (a.add j) = some u) (h1 : ∀ u ∈ news, u.oneCell' = true)
    (h63 : n + m ≤ maxLen) (hbytes : (n + m) * bytes ≤ 140737488355328) (hbase : base ≤ w.heap.size) :
    ∃ v' w', (Builtin.append_ #[t, t] ty #[v, .slice (some a) m c]).run P w = .ok v' w' ∧ w'.ownsRow base e size v' (n + m) (xs ++ news) ∧ w.grownBy w' v.ownBlock ∧
      (∀ b' n' own xs', n' ≤ n → w.ownsRow b' e size own n' xs' → w'.ownsRow b' e size own n' xs') := by
  obtain ⟨v', w', hr, h2, h3, -⟩ := run_append_own (P := P) w base t ty e i z size bytes ht hi hz hsize hby hzs hsz v n xs hown a m c news hl hnews h1 h63 hbytes hbase
  refine ⟨v', w', hr, h2, h3, fun b' n' own xs' hn' ho => ?_⟩
  by_cases hne : own.ownBlock = none ∨ own.ownBlock ≠ v.ownBlock
  · exact ho.kept h3 hne
  · have hsm : n + m ≤ 9223372036854775807 := by simp only [maxLen] at h63; omega
    rcases id hown.2 with ⟨rfl, rfl⟩ | ⟨g, cap, cur, rfl, hbg, hg, hnc, hcm, hcs, htake⟩
    · exact absurd (show own.ownBlock = none ∨ _ from by
        cases h : own.ownBlock with
        | none => exact .inl rfl
        | some q => exact .inr (by simp [Value.ownBlock])) hne
    · subst hsize
      by_cases hroom : n + m ≤ cap
      · have hfit : n * i.size + news.length ≤ cur.size := by rw [hl, hcs, ← Nat.add_mul]; exact Nat.mul_le_mul_right _ hroom
        have hr2 := run_append_room (P := P) w t ty e i ht hi g n cap cur hg a m c news hl hnews h1 hroom hfit
        rw [hr] at hr2
        simp only [Result.ok.injEq] at hr2
        obtain ⟨-, rfl⟩ := hr2
        rcases id ho.2 with ⟨rfl, -⟩ | ⟨g', cap', cur', rfl, hb', hg', hnc', hcm', hcs', htake'⟩
        · exact absurd (.inl rfl) hne
        · have hgg : g' = g := by
            have : ¬ (some g' : Option Nat) ≠ some g := fun h => hne (.inr h)
            simpa using this
          subst hgg
          rw [hg] at hg'
          simp only [Option.some.injEq, Obj.cells.injEq, and_true] at hg'
          subst hg'
          refine ⟨ho.1, .inr ⟨g', cap', _, rfl, hb', setRow_heap w g' cur _ e _ hg, hnc', hcm', ?_, ?_⟩⟩
          · simp only [List.size_toArray, List.length_append, List.length_take, List.length_drop, Array.length_toList]
            omega
          · have hle : n' * i.size ≤ n * i.size := Nat.mul_le_mul_right _ hn'
            have hlen : (cur.toList.take (n * i.size)).length = n * i.size := by
              rw [List.length_take, Array.length_toList]; omega
            rw [List.toList_toArray, List.append_assoc, List.take_append_of_le_length (by rw [hlen]; exact hle), List.take_take, Nat.min_eq_left hle]
            exact htake'
      · have holds : ∀ j u, xs[j]? = some u → w.cell? ((⟨g, 0, none⟩ : Addr).add j) = some u := hown.cells (g := g) rfl
        have hr2 := run_append_grow (P := P) w t ty e i z ht hi hz ⟨g, 0, none⟩ n cap xs hown.1 holds a m c news hl hnews (by omega) (by omega) (growslice_fits (by omega) (by rw [hby]; exact hbytes))
        rw [hr] at hr2
        simp only [Result.ok.injEq] at hr2
        obtain ⟨-, rfl⟩ := hr2
        exact ho.kept (row := none) ⟨rfl, rfl, rfl, by simp, fun k hk _ => (World.grownBy_alloc w.drew _ none).block k hk (by simp)⟩ (by cases own.ownBlock <;> simp)
/-- an operation that is wanted. -/
theorem wpList_want {ops : Array Oper} {rest : List Oper} {o : Oper} {a : Act} {Q : Exit → Act → World → Prop} {w : World} (hw : Region.wanted o (yielded ops a.tmps) = true)
    (h : ∀ K : Act → World → Prop, (∀ a w, wpList P ops Q rest a w → K a w) → o.wp P a w K Q) : wpList P ops Q (o :: rest) a w :=
  wpList_step fun K hK => by rw [if_pos hw]; exact h K hK
theorem wpList_appk {ops : Array Oper} {rest : List Oper} {o : Oper} {a : Act} {Q : Exit → Act → World → Prop} {base e size : Nat} {v : Value} {n : Nat} {xs : List Value}
    (hw : Region.wanted o (yielded ops a.tmps) = true)
    (hown : w.ownsRow base e size v n xs) (hbase : base ≤ w.heap.size)
    (s x : Operand) (t : TypeId) (ho : o.op = .call { callee := .builtin .append, args := #[s, x], argTypes := #[t, t] })
    (z : Value) (bytes : Nat) (h1 : P.underlying t = some (.slice e)) (h2 : (P.info? e).map (fun i => (i.zero, i.size, i.bytes)) = some (some z, size, bytes)) (hz1 : z.cells.size = size) (hsz : 0 < size)
    (hs : a.eval s = v) (ad : Addr) (m c : Nat) (us : List Value) (hx : a.eval x = .slice (some ad) m c) (hl : us.length = m * size) (hcell : ∀ (j : Nat) q, us[j]? = some q → w.cell? (ad.add j) = some q) (hu1 : ∀ u ∈ us, u.oneCell' = true)
    (hb : (n + m) * bytes ≤ 140737488355328) (hn : n + m < 2 ^ 62)
    (h : ∀ v' w', w'.ownsRow base e size v' (n + m) (xs ++ us) → w.grownBy w' v.ownBlock → (∀ b' n' own xs', n' ≤ n → w.ownsRow b' e size own n' xs' → w'.ownsRow b' e size own n' xs') → wpList P ops Q rest (a.put o.dst v') w') : wpList P ops Q (o :: rest) a w := by
  obtain ⟨i0, hi, hz0, hz1', hz2⟩ := info_parts h2
  obtain ⟨v', w', hr, k2, k3, k4⟩ := run_append_keep (P := P) w base t o.type e i0 z size bytes h1 hi hz0 hz1' hz2 hz1 hsz v n xs hown ad m c us hl hcell hu1 (by unfold maxLen; omega) hb hbase
  refine wpList_want hw fun K hK => ?_
  unfold Oper.wp execOp
  simp only [ho, resolve, invoke, builtin, Sem.run_bind, Sem.run_pure, Result.andThen_ok, List.map_toArray, List.map_cons, List.map_nil, hs, hx, hr]
  exact hK _ _ (h v' w' k2 k3 k4)
/-- append that does not fit. -/
theorem wpList_appn {ops : Array Oper} {rest : List Oper} {o : Oper} {a : Act} {Q : Exit → Act → World → Prop} {base e size g cap : Nat} {n : Nat} {xs : List Value}
    (hw : Region.wanted o (yielded ops a.tmps) = true)
    (hown : w.ownsRow base e size (.slice (some ⟨g, 0, none⟩) n cap) n xs) (hbase : base ≤ w.heap.size)
    (s x : Operand) (t : TypeId) (ho : o.op = .call { callee := .builtin .append, args := #[s, x], argTypes := #[t, t] })
    (z : Value) (bytes : Nat) (h1 : P.underlying t = some (.slice e)) (h2 : (P.info? e).map (fun i => (i.zero, i.size, i.bytes)) = some (some z, size, bytes)) (hz1 : z.cells.size = size) (hsz : 0 < size)
    (hs : a.eval s = .slice (some ⟨g, 0, none⟩) n cap) (ad : Addr) (m c : Nat) (us : List Value) (hx : a.eval x = .slice (some ad) m c) (hl : us.length = m * size) (hcell : ∀ (j : Nat) q, us[j]? = some q → w.cell? (ad.add j) = some q) (hu1 : ∀ u ∈ us, u.oneCell' = true)
    (hb : (n + m) * bytes ≤ 140737488355328) (hn : n + m < 2 ^ 62) (hcap : cap < n + m)
    (h : ∀ v' w', w'.ownsRow base e size v' (n + m) (xs ++ us) → Ext w w' → wpList P ops Q rest (a.put o.dst v') w') : wpList P ops Q (o :: rest) a w := by
  obtain ⟨i0, hi, hz0, hz1', hz2⟩ := info_parts h2
  obtain ⟨v', w', hr, k2, k3, k4⟩ := run_append_keep (P := P) w base t o.type e i0 z size bytes h1 hi hz0 hz1' hz2 hz1 hsz _ n xs hown ad m c us hl hcell hu1 (by unfold maxLen; omega) hb hbase
  have hE : Ext w w' := by
    subst hz1'
    have holds : ∀ j u, xs[j]? = some u → w.cell? ((⟨g, 0, none⟩ : Addr).add j) = some u := hown.cells (g := g) rfl
    have hr2 := run_append_grow (P := P) w t o.type e i0 z h1 hi hz0 ⟨g, 0, none⟩ n cap xs hown.1 holds ad m c us hl hcell (by omega) (by omega) (growslice_fits (by omega) (by rw [hz2]; exact hb))
    rw [hr] at hr2
    simp only [Result.ok.injEq] at hr2
    obtain ⟨-, rfl⟩ := hr2
    exact (Ext.drewN w 1).trans (Ext.alloc _ _)
  refine wpList_want hw fun K hK => ?_
  unfold Oper.wp execOp
  simp only [ho, resolve, invoke, builtin, Sem.run_bind, Sem.run_pure, Result.andThen_ok, List.map_toArray, List.map_cons, List.map_nil, hs, hx, hr]
  exact hK _ _ (h v' w' k2 hE)
end
end Go.Proofs.YtmokncpppmchfaaDoor
