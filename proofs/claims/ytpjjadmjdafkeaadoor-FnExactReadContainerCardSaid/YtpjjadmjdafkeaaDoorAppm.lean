/- append(dst, x, y, ..) onto a row of the call's own. -/
import Derived.Test.YtpjjadmjdafkeaaDoorApp
import Derived.Test.YtpjjadmjdafkeaaDoorD2
namespace Go.Proofs.YtpjjadmjdafkeaaDoor
open Go.RowKit
/-- append(s, x, y, ..), the new values of one cell each in the block just laid. -/
theorem wpList_appm {P : Program} (wr : World) {ops : Array Oper} {rest : List Oper} {o : Oper} {a : Act} {Q : Exit → Act → World → Prop} {base e : Nat} {v : Value} {n : Nat} {xs : List Value}
    (hown : wr.ownsRow base e 1 v n xs) (hbase : base ≤ wr.heap.size) (arr : Array Value) (m : Nat) (hm : arr.size = m)
    (hg : o.guard = none) (s x : Operand) (t : TypeId) (ho : o.op = .call { callee := .builtin .append, args := #[s, x], argTypes := #[t, t] })
    (z : Value) (bytes : Nat) (h1 : P.underlying t = some (.slice e)) (h2 : (P.info? e).map (fun i => (i.zero, i.size, i.bytes)) = some (some z, 1, bytes)) (hz1 : z.cells.size = 1)
    (hs : a.eval s = v) (hx : a.eval x = .slice (some ⟨wr.heap.size, 0, none⟩) m m) (hu1 : ∀ u ∈ arr.toList, u.oneCell' = true)
    (hb : (n + m) * bytes ≤ 140737488355328) (hn : n + m < 2 ^ 62)
    (h : ∀ v' w', w'.ownsRow base e 1 v' (n + m) (xs ++ arr.toList) → wr.grownBy w' v.ownBlock → wpList P ops Q rest (a.put o.dst v') w') : wpList P ops Q (o :: rest) a (wr.alloc (.cells arr e)) := by
  refine wpList_apps _ (hown.alloc _) (by simp; omega) hg s x t ho z bytes h1 h2 hz1 hs (some ⟨wr.heap.size, 0, none⟩) m m arr.toList hx ?_ hu1 hb hn ?_
  · have := Sl_new wr arr.toList e
    rw [Array.length_toList, hm, Array.toArray_toList] at this
    exact this
  · intro v' w' k1 k2
    exact h v' w' k1 (grownBy_trans (World.grownBy_alloc _ _ _) k2)
end Go.Proofs.YtpjjadmjdafkeaaDoor
