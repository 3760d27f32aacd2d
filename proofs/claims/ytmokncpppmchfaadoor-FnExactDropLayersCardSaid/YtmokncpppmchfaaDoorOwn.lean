/- Rows of the call's own, kept. -/
import Derived.Test.YtmokncpppmchfaaDoorBase
namespace Go.Proofs.YtmokncpppmchfaaDoor
open Go.RowKit
theorem own_gr {w w' : World} {base e size n b : Nat} {v : Value} {xs : List Value} (h : w.ownsRow base e size v n xs) (g : w.grownBy w' (some b)) (hb : b < base) : w'.ownsRow base e size v n xs := by
  refine h.kept g ?_
  cases hv : v.ownBlock with
  | none => exact .inl rfl
  | some k => right; have := (h.lt k hv).1; simp; omega
theorem own_ne_blk {w : World} {base e size n q : Nat} {v : Value} {xs : List Value} {arr : Array Value} {T : TypeId} (h : w.ownsRow base e size v n xs) (hq : w.heap[q]? = some (.cells arr T (0, 0))) (hne : e ≠ T) : v.ownBlock = none ∨ v.ownBlock ≠ some q := by
  rcases h.2 with ⟨rfl, -⟩ | ⟨g, cap, cur, rfl, -, p1, -⟩
  · exact .inl rfl
  · right
    intro he
    simp [Value.ownBlock] at he
    subst he
    rw [p1] at hq
    simp at hq
    exact hne hq.2
theorem blk_gr {w w' : World} {b : Nat} {o : Obj} {row : Option Nat} (h : w.heap[b]? = some o) (g : w.grownBy w' row) (hne : row ≠ some b) : w'.heap[b]? = some o := by
  rw [g.block b (lt_of_block h) (fun e => hne e.symm)]; exact h
end Go.Proofs.YtmokncpppmchfaaDoor
