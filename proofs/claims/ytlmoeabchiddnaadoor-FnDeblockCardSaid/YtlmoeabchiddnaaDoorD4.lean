/- Drawing: the arguments of the buffer's laws. -/
import Derived.Test.YtlmoeabchiddnaaDoorD3
import Derived.Test.YtlmoeabchiddnaaDoorOwn
namespace Go.Proofs.YtlmoeabchiddnaaDoor
open Go.RowKit
set_option maxHeartbeats 400000

/-- A block without bytes is not the reader's data. -/
theorem Rd.setG {w : World} {b p g j : Nat} {v : Value} {arr : Array Value} {T : TypeId} (h : Rd w b p) (hg : w.heap[g]? = some (.cells arr T (0, 0))) (harr : ∀ (i : Nat) (z : Int), arr[i]? ≠ some (.int .u8 z)) (hne : g ≠ b) : Rd (w.setCell ⟨g, j, none⟩ v) b p := by
  obtain ⟨a, m, c, zs, h1, h2, h3, h4, h5⟩ := h
  refine ⟨a, m, c, zs, blk_set_other h1 (Ne.symm hne), h2, ?_, h4, h5⟩
  by_cases hm : m = 0
  · subst hm; exact ⟨h3.1, fun i hi => by omega⟩
  · have gr : w.grownBy (w.setCell ⟨g, j, none⟩ v) (some g) := ⟨rfl, rfl, rfl, by simp, fun k _ hk => heap_setCell_other w ⟨g, j, none⟩ k _ (fun e => hk (by simp [e]))⟩
    refine h3.grown gr (fun x hx e => ?_)
    obtain ⟨b1, o1, h6, h7⟩ := h3.int (show 0 < m by omega)
    rw [hx] at h6
    simp at h6 e
    subst h6
    simp at e
    subst e
    simp [World.cell?, hg] at h7
    exact harr _ _ h7

theorem Rd.gr {w w' : World} {b p : Nat} {row : Option Nat} (h : Rd w b p) (g : w.grownBy w' row) (hr : ∀ k, row = some k → b < k) : Rd w' b p := by
  obtain ⟨a, m, c, zs, h1, h2, h3, h4, h5⟩ := h
  refine ⟨a, m, c, zs, by rw [g.block b (lt_of_block h1) (fun e => by have := hr b e.symm; omega)]; exact h1, h2, ?_, h4, h5⟩
  rcases h4 with h4 | h4
  · subst h4; exact ⟨h3.1, fun i hi => by omega⟩
  · exact h3.grown g (fun x hx e => by have := h4 x hx; have := hr _ e.symm; omega)
theorem grown_any {a b c : World} {r row : Option Nat} (h : a.grownBy b r) (k : b.grownBy c row) (hr : ∀ q, row = some q → a.heap.size ≤ q) : a.grownBy c r :=
  ⟨k.os.trans h.os, k.tape.trans h.tape, k.output.trans h.output, Nat.le_trans h.size k.size, fun i hi hne => (k.block i (Nat.lt_of_lt_of_le hi h.size) (fun e => by have := hr i e.symm; omega)).trans (h.block i hi hne)⟩
theorem DG.own {w wx wy : World} {b P C k : Nat} {row : Option Nat} (h : DG w b P C k wx) (g : wx.grownBy wy row) (hv : ∀ q, row = some q → w.heap.size ≤ q) (hb : b < w.heap.size) : DG w b P C k wy := by
  obtain ⟨h1, q, h2, h3⟩ := h
  exact ⟨grown_any h1 g hv, q, h2, h3.gr g (fun k hk => by have := hv k hk; omega)⟩
theorem app_elems {P : Program} (w : World) {ops : Array Oper} {rest : List Oper} {o : Oper} {a : Act} {Q : Exit → Act → World → Prop} {base e : Nat} {v : Value} {n : Nat} {xs : List Value}
    (hown : w.ownsRow base e 1 v n xs) (hbase : base ≤ w.heap.size)
    (hg : o.guard = none) (s x : Operand) (t : TypeId) (ho : o.op = .call { callee := .builtin .append, args := #[s, x], argTypes := #[t, t] })
    (z : Value) (bytes : Nat) (h1 : P.underlying t = some (.slice e)) (h2 : (P.info? e).map (fun i => (i.zero, i.size, i.bytes)) = some (some z, 1, bytes)) (hz1 : z.cells.size = 1)
    (hs : a.eval s = v) (p : Addr) (m c : Nat) (us : List Value) (hx : a.eval x = .slice (some p) m c) (hm : us.length = m) (hcell : ∀ (j : Nat) q, us[j]? = some q → w.cell? (p.add j) = some q) (hu1 : ∀ u ∈ us, u.oneCell' = true)
    (hb : (n + m) * bytes ≤ 140737488355328) (hn : n + m < 2 ^ 62)
    (h : ∀ v' w', w'.ownsRow base e 1 v' (n + m) (xs ++ us) → w.grownBy w' v.ownBlock → wpList P ops Q rest (a.put o.dst v') w') : wpList P ops Q (o :: rest) a w := by
  obtain ⟨i0, hi, hz0, hz1', hz2⟩ := info_parts h2
  refine wpList_append_own _ hg s x t ho base e i0 z 1 bytes h1 hi hz0 hz1' hz2 hz1 (by decide) v n xs hs hown p m c us hx (by omega) ?_ ?_ ?_ hb ?_ ?_
  · intro j q hq; exact hcell j q hq
  · intro q hq; exact hu1 q hq
  · unfold maxLen; omega
  · omega
  · intro v' w' a1 a2 a3
    exact h v' w' a1 a2

end Go.Proofs.YtlmoeabchiddnaaDoor
