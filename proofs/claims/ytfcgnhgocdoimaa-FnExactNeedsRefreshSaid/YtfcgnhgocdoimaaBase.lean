/- Vocabulary for the walks of this seat: what a slice reads as, what a call owns. -/
import Derived.Test.YtfcgnhgocdoimaaRows
import Derived.WalkKit
import Derived.WalkSpells
import Derived.WalkLawsBesides
import Derived.Lib.Hide
import Derived.BigQuiet
import Derived.Deep.QuietTactic
import Derived.Deep.LoopGhost
import Derived.Deep.RegionHeld3
import Derived.Deep.RegionWith
namespace Go.Proofs.Ytfcgnhgocdoimaa
open Go.RowKit

/-- The i-th number of a list, 0 past its end. -/
def nth (zs : List Int) (i : Nat) : Int := zs.getD i 0
def nthB (zs : List Bool) (i : Nat) : Bool := zs.getD i false
theorem nth_eq (zs : List Int) (i : Nat) (h : i < zs.length) : nth zs i = zs[i] := by simp [nth, h]
theorem nthB_eq (zs : List Bool) (i : Nat) (h : i < zs.length) : nthB zs i = zs[i] := by simp [nthB, h]

/-- The slice at address a of n one-cell elements reads as xs. -/
def Sl (w : World) (a : Option Addr) (n : Nat) (xs : List Value) : Prop :=
  xs.length = n ∧ ∀ i, i < n → ∃ b off, a = some ⟨b, off, none⟩ ∧ w.cell? ⟨b, off + i, none⟩ = some (xs.getD i undef)

/-- What was there stays as it was. -/
abbrev Ext (w w' : World) : Prop := Below w.heap.size w w'

theorem Ext.trans {a b c : World} (h : Ext a b) (k : Ext b c) : Ext a c := Below.trans h (Below.mono k h.size)
theorem Ext.drewN (w : World) (n : Nat) : Ext w (w.drewN n) := ⟨rfl, rfl, rfl, Nat.le_refl _, fun _ _ => rfl⟩
theorem Ext.trans_drewN {a b : World} (h : Ext a b) (n : Nat) : Ext a (b.drewN n) := Ext.trans h (Ext.drewN b n)
theorem Ext.grown {a w w' : World} {row : Option Nat} (h : Ext a w) (hg : w.grownBy w' row) (hr : ∀ k, row = some k → a.heap.size ≤ k) : Ext a w' :=
  Below.grown h hg h.size hr

theorem Sl.len {w : World} {a : Option Addr} {n : Nat} {xs : List Value} (h : Sl w a n xs) : xs.length = n := h.1
theorem Sl.ext {w w' : World} {a : Option Addr} {n : Nat} {xs : List Value} (h : Sl w a n xs) (e : Ext w w') : Sl w' a n xs := by
  refine ⟨h.1, fun i hi => ?_⟩
  obtain ⟨b, off, ha, hc⟩ := h.2 i hi
  exact ⟨b, off, ha, by rw [Below.cell e (World.block_lt_of_cell? w _ hc)]; exact hc⟩
theorem Sl.drewN {w : World} {a : Option Addr} {n : Nat} {xs : List Value} (h : Sl w a n xs) (m : Nat) : Sl (w.drewN m) a n xs := h
theorem Sl.grown {w w' : World} {a : Option Addr} {n : Nat} {xs : List Value} {row : Option Nat} (h : Sl w a n xs) (hg : w.grownBy w' row) (hr : ∀ x, a = some x → some x.block ≠ row) : Sl w' a n xs := by
  refine ⟨h.1, fun i hi => ?_⟩
  obtain ⟨b, off, ha, hc⟩ := h.2 i hi
  exact ⟨b, off, ha, hg.cell hc (hr ⟨b, off, none⟩ ha)⟩
theorem Sl.nil (w : World) (a : Option Addr) : Sl w a 0 [] := ⟨rfl, fun i hi => by omega⟩
theorem Sl.int {k : IntKind} {w : World} {a : Option Addr} {n : Nat} {zs : List Int} (h : Sl w a n (zs.map (Value.int k))) {i : Nat} (hi : i < n) :
    ∃ b off, a = some ⟨b, off, none⟩ ∧ w.cell? ⟨b, off + i, none⟩ = some (.int k (nth zs i)) := by
  obtain ⟨b, off, ha, hc⟩ := h.2 i hi
  have hl : i < zs.length := by have := h.1; simp at this; omega
  refine ⟨b, off, ha, ?_⟩
  rw [hc]; simp [nth, hl]
theorem Sl.bool {w : World} {a : Option Addr} {n : Nat} {zs : List Bool} (h : Sl w a n (zs.map Value.bool)) {i : Nat} (hi : i < n) :
    ∃ b off, a = some ⟨b, off, none⟩ ∧ w.cell? ⟨b, off + i, none⟩ = some (.bool (nthB zs i)) := by
  obtain ⟨b, off, ha, hc⟩ := h.2 i hi
  have hl : i < zs.length := by have := h.1; simp at this; omega
  refine ⟨b, off, ha, ?_⟩
  rw [hc]; simp [nthB, hl]
theorem Sl.int_len {k : IntKind} {w : World} {a : Option Addr} {n : Nat} {zs : List Int} (h : Sl w a n (zs.map (Value.int k))) : zs.length = n := by
  have := h.1; simpa using this
theorem Sl.bool_len {w : World} {a : Option Addr} {n : Nat} {zs : List Bool} (h : Sl w a n (zs.map Value.bool)) : zs.length = n := by
  have := h.1; simpa using this

/-- An owned row reads as what is owned. -/
theorem Sl.of_owns {w : World} {base e n : Nat} {a : Option Addr} {cap : Nat} {xs : List Value} (h : w.ownsRow base e 1 (.slice a n cap) n xs) : Sl w a n xs := by
  refine ⟨by have := h.1; omega, fun i hi => ?_⟩
  rcases h.2 with ⟨_, h0⟩ | ⟨g, c, cur, hv, _⟩
  · omega
  · simp only [Value.slice.injEq] at hv
    obtain ⟨rfl, _, rfl⟩ := hv
    refine ⟨g, 0, rfl, ?_⟩
    have hl : i < xs.length := by have := h.1; omega
    rw [Nat.zero_add, h.cellAt i (by omega)]
    simp [hl]

theorem nth_snoc_lt (zs : List Int) (z : Int) (i : Nat) (h : i < zs.length) : nth (zs ++ [z]) i = nth zs i := by
  simp [nth, List.getElem?_append_left h]
theorem nth_snoc_eq (zs : List Int) (z : Int) : nth (zs ++ [z]) zs.length = z := by simp [nth]
theorem ext_nth {xs ys : List Int} (hl : xs.length = ys.length) (h : ∀ i, i < xs.length → nth xs i = nth ys i) : xs = ys := by
  apply List.ext_getElem hl
  intro i h1 h2
  have := h i h1
  rw [nth_eq _ _ h1, nth_eq _ _ h2] at this
  exact this
theorem ext_nthB {xs ys : List Bool} (hl : xs.length = ys.length) (h : ∀ i, i < xs.length → nthB xs i = nthB ys i) : xs = ys := by
  apply List.ext_getElem hl
  intro i h1 h2
  have := h i h1
  rw [nthB_eq _ _ h1, nthB_eq _ _ h2] at this
  exact this
theorem take_snoc_nth (zs : List Int) (k : Nat) (h : k < zs.length) : zs.take (k + 1) = zs.take k ++ [nth zs k] := by
  rw [List.take_succ_eq_append_getElem h, nth_eq _ _ h]
theorem take_snoc_nthB (zs : List Bool) (k : Nat) (h : k < zs.length) : zs.take (k + 1) = zs.take k ++ [nthB zs k] := by
  rw [List.take_succ_eq_append_getElem h, nthB_eq _ _ h]
theorem ret_bool {a b : Bool} (h : a = b) : Ending.returned (.bool a) = .returned (.bool b) := by rw [h]
theorem ret_int {k : IntKind} {a b : Int} (h : a = b) : Ending.returned (.int k a) = .returned (.int k b) := by rw [h]

/-- The first k of xs, behind them what ys has. -/
def mix (xs ys : List Value) (k : Nat) : List Value := xs.take k ++ ys.drop k
theorem mix_zero (xs ys : List Value) : mix xs ys 0 = ys := by simp [mix]
theorem mix_all (xs ys : List Value) (k : Nat) (h1 : xs.length = k) (h2 : ys.length = k) : mix xs ys k = xs := by
  unfold mix
  rw [List.take_of_length_le (by omega), List.drop_of_length_le (by omega), List.append_nil]
theorem mix_set (xs ys : List Value) (k : Nat) (h : xs.length = ys.length) (hk : k < xs.length) (u : Value) (hu : xs.getD k undef = u) : (mix xs ys k).set k u = mix xs ys (k + 1) := by
  subst hu
  have hl : (xs.take k).length = k := by simp; omega
  have hk' : k < ys.length := by omega
  unfold mix
  rw [List.drop_eq_getElem_cons hk', List.set_append_right _ _ (by omega), hl, Nat.sub_self, List.set_cons_zero, List.take_succ_eq_append_getElem hk, List.append_assoc]
  simp [hk]
theorem length_mix (xs ys : List Value) (k n : Nat) (h1 : xs.length = n) (h2 : ys.length = n) : (mix xs ys k).length = n := by
  simp [mix]; omega
theorem getD_map_int (k : IntKind) (zs : List Int) (i : Nat) (h : i < zs.length) : (zs.map (Value.int k)).getD i undef = .int k (nth zs i) := by simp [nth, h]
theorem getD_map_bool (zs : List Bool) (i : Nat) (h : i < zs.length) : (zs.map Value.bool).getD i undef = .bool (nthB zs i) := by simp [nthB, h]

/-- A row of which n elements are owned is a slice of length n. -/
theorem owns_form {w : World} {base e size : Nat} {v : Value} {n : Nat} {xs : List Value} (h : w.ownsRow base e size v n xs) : ∃ a cap, v = .slice a n cap := by
  rcases h.2 with ⟨rfl, rfl⟩ | ⟨g, c, cur, rfl, _⟩
  · exact ⟨none, 0, rfl⟩
  · exact ⟨_, _, rfl⟩
theorem owns_get {w : World} {base e g n cap : Nat} {xs : List Value} (h : w.ownsRow base e 1 (.slice (some ⟨g, 0, none⟩) n cap) n xs) {j : Nat} (hj : j < n) : ∃ u, w.cell? ⟨g, j, none⟩ = some u ∧ xs[j]? = some u := by
  have hl : j < xs.length := by have := h.1; omega
  exact ⟨xs[j], by rw [h.cellAt j (by omega)]; simp [hl], by simp [hl]⟩
/-- make([]T, n), T of one cell: n zeros are owned. -/
theorem wpList_mk {P : Program} (w : World) {ops : Array Oper} {rest : List Oper} {o : Oper} {a : Act} {Q : Exit → Act → World → Prop}
    (hg : o.guard = none) (l c : Operand) (t : TypeId) (hop : o.op = Op.makeSlice t l c)
    (e : TypeId) (z : Value) (bytes : Nat) (h1 : P.underlying t = some (.slice e)) (h2 : (P.info? e).map (fun i => (i.zero, i.size, i.bytes)) = some (some z, 1, bytes)) (hz1 : z.cells = #[z])
    (L : Int) (n : Nat) (hl : a.eval l = .int .i64 L) (hc : a.eval c = .int .i64 L) (hL : L = (n : Int)) (b2 : n * bytes ≤ 281474976710656) (b3 : n < 2 ^ 62)
    (hK : ∀ w', w'.ownsRow w.heap.size e 1 (.slice (some ⟨w.heap.size, 0, none⟩) n n) n (List.replicate n z) → w.grownBy w' none → wpList P ops Q rest (a.put o.dst (.slice (some ⟨w.heap.size, 0, none⟩) n n)) w') :
    wpList P ops Q (o :: rest) a w := by
  obtain ⟨i0, hi, hz0, hz1', hz2⟩ := info_parts h2
  refine wpList_make_full w hg l c t hop w.heap.size e i0 z 1 h1 hi hz0 hz1' .i64 .i64 L L n hl hc hL hL ?_ ?_ (Nat.le_refl _) ?_
  · rw [hz2, Nat.mul_comm]; exact b2
  · unfold maxLen; omega
  · intro w' h3 h4
    refine hK w' ?_ h4
    rw [Nat.mul_one, hz1, toList_madeCells_one] at h3
    exact h3

/-- append(s, x), x one new value of one cell in a block just laid. -/
theorem wpList_app {P : Program} (w : World) {ops : Array Oper} {rest : List Oper} {o : Oper} {a : Act} {Q : Exit → Act → World → Prop}
    (hg : o.guard = none) (s x : Operand) (t : TypeId) (ho : o.op = .call { callee := .builtin .append, args := #[s, x], argTypes := #[t, t] })
    (base : Nat) (e : TypeId) (z : Value) (bytes : Nat) (h1 : P.underlying t = some (.slice e)) (h2 : (P.info? e).map (fun i => (i.zero, i.size, i.bytes)) = some (some z, 1, bytes)) (hz1 : z.cells.size = 1)
    (v : Value) (n : Nat) (xs : List Value) (hs : a.eval s = v) (u : Value) (o1 : Nat) (hx : a.eval x = .slice (some ⟨o1, 0, none⟩) 1 1)
    (hown : w.ownsRow base e 1 v n xs) (hu : w.cell? ⟨o1, 0, none⟩ = some u) (hu1 : u.oneCell' = true)
    (hb : (n + 1) * bytes ≤ 140737488355328) (hn : n < 2 ^ 62) (hbase : base ≤ w.heap.size)
    (h : ∀ v' w', w'.ownsRow base e 1 v' (n + 1) (xs ++ [u]) → w.grownBy w' v.ownBlock → v' ≠ .slice none 0 0 → wpList P ops Q rest (a.put o.dst v') w') : wpList P ops Q (o :: rest) a w := by
  obtain ⟨i0, hi, hz0, hz1', hz2⟩ := info_parts h2
  refine wpList_append_own w hg s x t ho base e i0 z 1 bytes h1 hi hz0 hz1' hz2 hz1 (by decide) v n xs hs hown ⟨o1, 0, none⟩ 1 1 [u] hx rfl ?_ ?_ ?_ hb hbase ?_
  · intro j q hq
    match j, hq with
    | 0, hq => simp at hq; subst hq; simpa [Addr.add] using hu
  · intro q hq; simp at hq; subst hq; exact hu1
  · unfold maxLen; omega
  · intro v' w' a1 a2 a3
    exact h v' w' a1 a2 (fun hv => by have := a3.1 hv; omega)
end Go.Proofs.Ytfcgnhgocdoimaa
