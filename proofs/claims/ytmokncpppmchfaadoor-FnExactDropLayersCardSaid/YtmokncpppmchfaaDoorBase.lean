/- Vocabulary for the walks of this seat: what a slice reads as, what a call owns. -/
import Derived.Test.YtmokncpppmchfaaDoorRows
import Derived.WalkKit
import Derived.WalkSpells
import Derived.WalkLawsBesides
import Derived.Lib.Hide
import Derived.BigQuiet
import Derived.Deep.QuietTactic
import Derived.Deep.LoopGhost
import Derived.Deep.RegionHeld3
import Derived.Deep.RegionWith
namespace Go.Proofs.YtmokncpppmchfaaDoor
open Go.RowKit

/-- The i-th number of a list, 0 past its end. -/
def nth (zs : List Int) (i : Nat) : Int := zs.getD i 0
def nthB (zs : List Bool) (i : Nat) : Bool := zs.getD i false
theorem nth_eq (zs : List Int) (i : Nat) (h : i < zs.length) : nth zs i = zs[i] := by simp [nth, h]
theorem nthB_eq (zs : List Bool) (i : Nat) (h : i < zs.length) : nthB zs i = zs[i] := by simp [nthB, h]

/-- The slice at address a of n one-cell elements reads as xs. -/
def Sl (w : World) (a : Option Addr) (n : Nat) (xs : List Value) : Prop :=
  xs.length = n ∧ ∀ i, i < n → ∃ b off, a = some ⟨b, off, none⟩ ∧ w.cell? ⟨b, off + i, none⟩ = some (xs.getD i undef)

/-- What was there stays as it was. -/
abbrev Ext (w w' : World) : Prop := Below w.heap.size w w'

theorem Ext.trans {a b c : World} (h : Ext a b) (k : Ext b c) : Ext a c := Below.trans h (Below.mono k h.size)
theorem Ext.drewN (w : World) (n : Nat) : Ext w (w.drewN n) := ⟨rfl, rfl, rfl, Nat.le_refl _, fun _ _ => rfl⟩
theorem Ext.trans_drewN {a b : World} (h : Ext a b) (n : Nat) : Ext a (b.drewN n) := Ext.trans h (Ext.drewN b n)
theorem Ext.grown {a w w' : World} {row : Option Nat} (h : Ext a w) (hg : w.grownBy w' row) (hr : ∀ k, row = some k → a.heap.size ≤ k) : Ext a w' :=
  Below.grown h hg h.size hr

theorem bcell {W w1 : World} (hb : Ext W w1) : (∀ b o, b < W.heap.size → w1.cell? ⟨b, o, none⟩ = W.cell? ⟨b, o, none⟩) ∧ (∀ b o, b < W.heap.size → w1.frozen? ⟨b, o, none⟩ = W.frozen? ⟨b, o, none⟩) :=
  ⟨fun b o h => hb.cell (p := ⟨b, o, none⟩) h, fun b o h => hb.frozen (p := ⟨b, o, none⟩) h⟩
theorem Ext.alloc (w : World) (o : Obj) : Ext w (w.alloc o) := Below.alloc (Below.refl _ _) (Nat.le_refl _) _
theorem cell_ext {w w' : World} {a : Addr} {v : Value} (e : Ext w w') (h : w.cell? a = some v) : w'.cell? a = some v := by
  rw [Below.cell e (World.block_lt_of_cell? w _ h)]; exact h
/-- A block known whole. -/
theorem Ext.blk {w w' : World} {b : Nat} {o : Obj} (e : Ext w w') (h : w.heap[b]? = some o) : w'.heap[b]? = some o := by
  rw [e.block b (lt_of_block h)]; exact h
theorem blk_alloc {w : World} {b : Nat} {o : Obj} (h : w.heap[b]? = some o) (x : Obj) : (w.alloc x).heap[b]? = some o := by
  rw [Below.heap_alloc _ _ _ (lt_of_block h)]; exact h
theorem blk_new (w : World) (o : Obj) : (w.alloc o).heap[w.heap.size]? = some o := heap_alloc_new w o
theorem blk_drewN {w : World} {b : Nat} {o : Obj} (h : w.heap[b]? = some o) (n : Nat) : (w.drewN n).heap[b]? = some o := h
theorem blk_set3 {w : World} {b : Nat} {x y z x' y' z' : Value} {T : TypeId} (h : w.heap[b]? = some (.cells #[x, y, z] T (0, 0))) : (((w.setCell ⟨b, 0, none⟩ x').setCell ⟨b, 1, none⟩ y').setCell ⟨b, 2, none⟩ z').heap[b]? = some (.cells #[x', y', z'] T (0, 0)) := by
  have h1 := heap_setCell_same w b 0 _ _ x' h
  have h2 := heap_setCell_same _ b 1 _ _ y' h1
  have h3 := heap_setCell_same _ b 2 _ _ z' h2
  simpa using h3
theorem blk_set_other {w : World} {b c i : Nat} {v : Value} {o : Obj} (h : w.heap[b]? = some o) (hne : b ≠ c) : (w.setCell ⟨c, i, none⟩ v).heap[b]? = some o := by
  rw [Below.heap_setCell _ _ _ _ hne]; exact h
theorem bx1 {w : World} {b : Nat} {x : Value} {T : TypeId} (h : w.heap[b]? = some (.cells #[x] T (0, 0))) : b < w.heap.size ∧ w.cell? ⟨b, 0, none⟩ = some x ∧ w.frozen? ⟨b, 0, none⟩ = false :=
  ⟨lt_of_block h, by simp [World.cell?, h], by simp [World.frozen?, h]⟩
theorem bx2 {w : World} {b : Nat} {x y : Value} {T : TypeId} (h : w.heap[b]? = some (.cells #[x, y] T (0, 0))) : b < w.heap.size ∧ w.cell? ⟨b, 0, none⟩ = some x ∧ w.cell? ⟨b, 1, none⟩ = some y ∧ w.frozen? ⟨b, 0, none⟩ = false ∧ w.frozen? ⟨b, 1, none⟩ = false :=
  ⟨lt_of_block h, by simp [World.cell?, h], by simp [World.cell?, h], by simp [World.frozen?, h], by simp [World.frozen?, h]⟩
theorem bx3 {w : World} {b : Nat} {x y z : Value} {T : TypeId} (h : w.heap[b]? = some (.cells #[x, y, z] T (0, 0))) : b < w.heap.size ∧ w.cell? ⟨b, 0, none⟩ = some x ∧ w.cell? ⟨b, 1, none⟩ = some y ∧ w.cell? ⟨b, 2, none⟩ = some z ∧ w.frozen? ⟨b, 0, none⟩ = false ∧ w.frozen? ⟨b, 1, none⟩ = false ∧ w.frozen? ⟨b, 2, none⟩ = false :=
  ⟨lt_of_block h, by simp [World.cell?, h], by simp [World.cell?, h], by simp [World.cell?, h], by simp [World.frozen?, h], by simp [World.frozen?, h], by simp [World.frozen?, h]⟩
theorem Sl.len {w : World} {a : Option Addr} {n : Nat} {xs : List Value} (h : Sl w a n xs) : xs.length = n := h.1
theorem Sl.ext {w w' : World} {a : Option Addr} {n : Nat} {xs : List Value} (h : Sl w a n xs) (e : Ext w w') : Sl w' a n xs := by
  refine ⟨h.1, fun i hi => ?_⟩
  obtain ⟨b, off, ha, hc⟩ := h.2 i hi
  exact ⟨b, off, ha, by rw [Below.cell e (World.block_lt_of_cell? w _ hc)]; exact hc⟩
theorem Sl.drewN {w : World} {a : Option Addr} {n : Nat} {xs : List Value} (h : Sl w a n xs) (m : Nat) : Sl (w.drewN m) a n xs := h
theorem Sl.grown {w w' : World} {a : Option Addr} {n : Nat} {xs : List Value} {row : Option Nat} (h : Sl w a n xs) (hg : w.grownBy w' row) (hr : ∀ x, a = some x → some x.block ≠ row) : Sl w' a n xs := by
  refine ⟨h.1, fun i hi => ?_⟩
  obtain ⟨b, off, ha, hc⟩ := h.2 i hi
  exact ⟨b, off, ha, hg.cell hc (hr ⟨b, off, none⟩ ha)⟩
theorem Sl.nil (w : World) (a : Option Addr) : Sl w a 0 [] := ⟨rfl, fun i hi => by omega⟩
theorem Sl.int {k : IntKind} {w : World} {a : Option Addr} {n : Nat} {zs : List Int} (h : Sl w a n (zs.map (Value.int k))) {i : Nat} (hi : i < n) :
    ∃ b off, a = some ⟨b, off, none⟩ ∧ w.cell? ⟨b, off + i, none⟩ = some (.int k (nth zs i)) := by
  obtain ⟨b, off, ha, hc⟩ := h.2 i hi
  have hl : i < zs.length := by have := h.1; simp at this; omega
  refine ⟨b, off, ha, ?_⟩
  rw [hc]; simp [nth, hl]
theorem Sl.bool {w : World} {a : Option Addr} {n : Nat} {zs : List Bool} (h : Sl w a n (zs.map Value.bool)) {i : Nat} (hi : i < n) :
    ∃ b off, a = some ⟨b, off, none⟩ ∧ w.cell? ⟨b, off + i, none⟩ = some (.bool (nthB zs i)) := by
  obtain ⟨b, off, ha, hc⟩ := h.2 i hi
  have hl : i < zs.length := by have := h.1; simp at this; omega
  refine ⟨b, off, ha, ?_⟩
  rw [hc]; simp [nthB, hl]
theorem Sl.int_len {k : IntKind} {w : World} {a : Option Addr} {n : Nat} {zs : List Int} (h : Sl w a n (zs.map (Value.int k))) : zs.length = n := by
  have := h.1; simpa using this
theorem Sl.bool_len {w : World} {a : Option Addr} {n : Nat} {zs : List Bool} (h : Sl w a n (zs.map Value.bool)) : zs.length = n := by
  have := h.1; simpa using this

/-- An owned row reads as what is owned. -/
theorem Sl.of_owns {w : World} {base e n : Nat} {a : Option Addr} {cap : Nat} {xs : List Value} (h : w.ownsRow base e 1 (.slice a n cap) n xs) : Sl w a n xs := by
  refine ⟨by have := h.1; omega, fun i hi => ?_⟩
  rcases h.2 with ⟨_, h0⟩ | ⟨g, c, cur, hv, _⟩
  · omega
  · simp only [Value.slice.injEq] at hv
    obtain ⟨rfl, _, rfl⟩ := hv
    refine ⟨g, 0, rfl, ?_⟩
    have hl : i < xs.length := by have := h.1; omega
    rw [Nat.zero_add, h.cellAt i (by omega)]
    simp [hl]

theorem nth_snoc_lt (zs : List Int) (z : Int) (i : Nat) (h : i < zs.length) : nth (zs ++ [z]) i = nth zs i := by
  simp [nth, List.getElem?_append_left h]
theorem nth_snoc_eq (zs : List Int) (z : Int) : nth (zs ++ [z]) zs.length = z := by simp [nth]
theorem ext_nth {xs ys : List Int} (hl : xs.length = ys.length) (h : ∀ i, i < xs.length → nth xs i = nth ys i) : xs = ys := by
  apply List.ext_getElem hl
  intro i h1 h2
  have := h i h1
  rw [nth_eq _ _ h1, nth_eq _ _ h2] at this
  exact this
theorem ext_nthB {xs ys : List Bool} (hl : xs.length = ys.length) (h : ∀ i, i < xs.length → nthB xs i = nthB ys i) : xs = ys := by
  apply List.ext_getElem hl
  intro i h1 h2
  have := h i h1
  rw [nthB_eq _ _ h1, nthB_eq _ _ h2] at this
  exact this
theorem take_snoc_nth (zs : List Int) (k : Nat) (h : k < zs.length) : zs.take (k + 1) = zs.take k ++ [nth zs k] := by
  rw [List.take_succ_eq_append_getElem h, nth_eq _ _ h]
theorem take_snoc_nthB (zs : List Bool) (k : Nat) (h : k < zs.length) : zs.take (k + 1) = zs.take k ++ [nthB zs k] := by
  rw [List.take_succ_eq_append_getElem h, nthB_eq _ _ h]
theorem ret_bool {a b : Bool} (h : a = b) : Ending.returned (.bool a) = .returned (.bool b) := by rw [h]
theorem ret_int {k : IntKind} {a b : Int} (h : a = b) : Ending.returned (.int k a) = .returned (.int k b) := by rw [h]

/-- The first k of xs, behind them what ys has. -/
def mix (xs ys : List Value) (k : Nat) : List Value := xs.take k ++ ys.drop k
theorem mix_zero (xs ys : List Value) : mix xs ys 0 = ys := by simp [mix]
theorem mix_all (xs ys : List Value) (k : Nat) (h1 : xs.length = k) (h2 : ys.length = k) : mix xs ys k = xs := by
  unfold mix
  rw [List.take_of_length_le (by omega), List.drop_of_length_le (by omega), List.append_nil]
theorem mix_set (xs ys : List Value) (k : Nat) (h : xs.length = ys.length) (hk : k < xs.length) (u : Value) (hu : xs.getD k undef = u) : (mix xs ys k).set k u = mix xs ys (k + 1) := by
  subst hu
  have hl : (xs.take k).length = k := by simp; omega
  have hk' : k < ys.length := by omega
  unfold mix
  rw [List.drop_eq_getElem_cons hk', List.set_append_right _ _ (by omega), hl, Nat.sub_self, List.set_cons_zero, List.take_succ_eq_append_getElem hk, List.append_assoc]
  simp [hk]
theorem length_mix (xs ys : List Value) (k n : Nat) (h1 : xs.length = n) (h2 : ys.length = n) : (mix xs ys k).length = n := by
  simp [mix]; omega
theorem getD_map_int (k : IntKind) (zs : List Int) (i : Nat) (h : i < zs.length) : (zs.map (Value.int k)).getD i undef = .int k (nth zs i) := by simp [nth, h]
theorem getD_map_bool (zs : List Bool) (i : Nat) (h : i < zs.length) : (zs.map Value.bool).getD i undef = .bool (nthB zs i) := by simp [nthB, h]

/-- A row of which n elements are owned is a slice of length n. -/
theorem owns_form {w : World} {base e size : Nat} {v : Value} {n : Nat} {xs : List Value} (h : w.ownsRow base e size v n xs) : ∃ a cap, v = .slice a n cap := by
  rcases h.2 with ⟨rfl, rfl⟩ | ⟨g, c, cur, rfl, _⟩
  · exact ⟨none, 0, rfl⟩
  · exact ⟨_, _, rfl⟩
theorem owns_get {w : World} {base e g n cap : Nat} {xs : List Value} (h : w.ownsRow base e 1 (.slice (some ⟨g, 0, none⟩) n cap) n xs) {j : Nat} (hj : j < n) : ∃ u, w.cell? ⟨g, j, none⟩ = some u ∧ xs[j]? = some u := by
  have hl : j < xs.length := by have := h.1; omega
  exact ⟨xs[j], by rw [h.cellAt j (by omega)]; simp [hl], by simp [hl]⟩
theorem owns_mono {w : World} {base base' e size : Nat} {v : Value} {n : Nat} {xs : List Value} (h : w.ownsRow base e size v n xs) (hb : base' ≤ base) : w.ownsRow base' e size v n xs := by
  obtain ⟨h1, h2⟩ := h
  refine ⟨h1, ?_⟩
  rcases h2 with h2 | ⟨g, cap, cur, hv, hg, r⟩
  · exact .inl h2
  · exact .inr ⟨g, cap, cur, hv, by omega, r⟩
theorem owns_ext {w w' : World} {base e size : Nat} {v : Value} {n : Nat} {xs : List Value} (h : w.ownsRow base e size v n xs) (x : Ext w w') : w'.ownsRow base e size v n xs := by
  obtain ⟨h1, h2⟩ := h
  refine ⟨h1, ?_⟩
  rcases h2 with h2 | ⟨g, cap, cur, hv, hg, r1, r2⟩
  · exact .inl h2
  · exact .inr ⟨g, cap, cur, hv, hg, x.blk r1, r2⟩
theorem owns_drewN {w : World} {base e size : Nat} {v : Value} {n : Nat} {xs : List Value} (h : w.ownsRow base e size v n xs) (m : Nat) : (w.drewN m).ownsRow base e size v n xs := h
theorem grownBy_trans {a b c : World} {row : Option Nat} (h : a.grownBy b row) (k : b.grownBy c row) : a.grownBy c row :=
  ⟨k.os.trans h.os, k.tape.trans h.tape, k.output.trans h.output, Nat.le_trans h.size k.size, fun i hi hne => (k.block i (Nat.lt_of_lt_of_le hi h.size) hne).trans (h.block i hi hne)⟩
theorem owns_ge {w : World} {base e size : Nat} {v : Value} {n : Nat} {xs : List Value} (h : w.ownsRow base e size v n xs) : ∀ k, v.ownBlock = some k → base ≤ k := fun k hk => (h.lt k hk).1
theorem owns_at {w : World} {base e size g n cap : Nat} {xs : List Value} (h : w.ownsRow base e size (.slice (some ⟨g, 0, none⟩) n cap) n xs) {j : Nat} (hj : j < n * size) : ∃ u, w.cell? ⟨g, j, none⟩ = some u ∧ xs[j]? = some u := by
  have hl : j < xs.length := by have := h.1; omega
  exact ⟨xs[j], by rw [h.cellAt j hj]; simp [hl], by simp [hl]⟩
theorem owns_cap {w : World} {base e size n cap : Nat} {a : Option Addr} {xs : List Value} (h : w.ownsRow base e size (.slice a n cap) n xs) : n ≤ cap ∧ cap ≤ maxLen := by
  rcases h.2 with ⟨h1, h2⟩ | ⟨g, c, cur, hv, _, _, h1, h2, _⟩
  · simp at h1; obtain ⟨-, rfl, rfl⟩ := h1; exact ⟨Nat.le_refl _, by simp⟩
  · simp at hv; obtain ⟨-, rfl⟩ := hv; exact ⟨h1, h2⟩
/-- make([]T, n), T of one cell: n zeros are owned. -/
theorem wpList_mk {P : Program} (w : World) {ops : Array Oper} {rest : List Oper} {o : Oper} {a : Act} {Q : Exit → Act → World → Prop}
    (hg : o.guard = none) (l c : Operand) (t : TypeId) (hop : o.op = Op.makeSlice t l c)
    (e : TypeId) (z : Value) (bytes : Nat) (h1 : P.underlying t = some (.slice e)) (h2 : (P.info? e).map (fun i => (i.zero, i.size, i.bytes)) = some (some z, 1, bytes)) (hz1 : z.cells = #[z])
    (L : Int) (n : Nat) (hl : a.eval l = .int .i64 L) (hc : a.eval c = .int .i64 L) (hL : L = (n : Int)) (b2 : n * bytes ≤ 281474976710656) (b3 : n < 2 ^ 62)
    (hK : ∀ w', w'.ownsRow w.heap.size e 1 (.slice (some ⟨w.heap.size, 0, none⟩) n n) n (List.replicate n z) → w.grownBy w' none → wpList P ops Q rest (a.put o.dst (.slice (some ⟨w.heap.size, 0, none⟩) n n)) w') :
    wpList P ops Q (o :: rest) a w := by
  obtain ⟨i0, hi, hz0, hz1', hz2⟩ := info_parts h2
  refine wpList_make_full w hg l c t hop w.heap.size e i0 z 1 h1 hi hz0 hz1' .i64 .i64 L L n hl hc hL hL ?_ ?_ (Nat.le_refl _) ?_
  · rw [hz2, Nat.mul_comm]; exact b2
  · unfold maxLen; omega
  · intro w' h3 h4
    refine hK w' ?_ h4
    rw [Nat.mul_one, hz1, toList_madeCells_one] at h3
    exact h3

/-- make([]T, 0, n): an owned row without elements. -/
theorem wpList_mk0 {P : Program} (w : World) {ops : Array Oper} {rest : List Oper} {o : Oper} {a : Act} {Q : Exit → Act → World → Prop}
    (hg : o.guard = none) (l c : Operand) (t : TypeId) (hop : o.op = Op.makeSlice t l c)
    (e : TypeId) (z : Value) (bytes : Nat) (h1 : P.underlying t = some (.slice e)) (h2 : (P.info? e).map (fun i => (i.zero, i.size, i.bytes)) = some (some z, 1, bytes))
    (L : Int) (n : Nat) (hl : a.eval l = .int .i64 0) (hc : a.eval c = .int .i64 L) (hL : L = (n : Int)) (b2 : n * bytes ≤ 281474976710656) (b3 : n < 2 ^ 62)
    (hK : ∀ w' v, w'.ownsRow w.heap.size e 1 v 0 [] → w.grownBy w' none → wpList P ops Q rest (a.put o.dst v) w') :
    wpList P ops Q (o :: rest) a w := by
  obtain ⟨i0, hi, hz0, hz1', hz2⟩ := info_parts h2
  refine wpList_make_own w hg l c t hop w.heap.size e i0 z 1 h1 hi hz0 hz1' .i64 .i64 L n hl hc hL ?_ ?_ (Nat.le_refl _) ?_
  · rw [hz2, Nat.mul_comm]; exact b2
  · unfold maxLen; omega
  · intro w' h3 h4
    exact hK w' _ h3 h4
/-- append(s, x), x one new value of one cell in the block just laid. -/
theorem wpList_app {P : Program} (wr : World) {ops : Array Oper} {rest : List Oper} {o : Oper} {a : Act} {Q : Exit → Act → World → Prop} {base e : Nat} {v : Value} {n : Nat} {xs : List Value}
    (hown : wr.ownsRow base e 1 v n xs) (hbase : base ≤ wr.heap.size) (u : Value)
    (hg : o.guard = none) (s x : Operand) (t : TypeId) (ho : o.op = .call { callee := .builtin .append, args := #[s, x], argTypes := #[t, t] })
    (z : Value) (bytes : Nat) (h1 : P.underlying t = some (.slice e)) (h2 : (P.info? e).map (fun i => (i.zero, i.size, i.bytes)) = some (some z, 1, bytes)) (hz1 : z.cells.size = 1)
    (hs : a.eval s = v) (hx : a.eval x = .slice (some ⟨wr.heap.size, 0, none⟩) 1 1) (hu1 : u.oneCell' = true)
    (hb : (n + 1) * bytes ≤ 140737488355328) (hn : n < 2 ^ 62)
    (h : ∀ v' w', w'.ownsRow base e 1 v' (n + 1) (xs ++ [u]) → wr.grownBy w' v.ownBlock → v' ≠ .slice none 0 0 → wpList P ops Q rest (a.put o.dst v') w') : wpList P ops Q (o :: rest) a (wr.alloc (.cells #[u] e)) := by
  obtain ⟨i0, hi, hz0, hz1', hz2⟩ := info_parts h2
  refine wpList_append_own _ hg s x t ho base e i0 z 1 bytes h1 hi hz0 hz1' hz2 hz1 (by decide) v n xs hs (hown.alloc _) ⟨wr.heap.size, 0, none⟩ 1 1 [u] hx rfl ?_ ?_ ?_ hb ?_ ?_
  · intro j q hq
    match j, hq with
    | 0, hq =>
      simp at hq
      subst hq
      simp [Addr.add, World.cell?_alloc_at]
  · intro q hq; simp at hq; subst hq; exact hu1
  · unfold maxLen; omega
  · simp; omega
  · intro v' w' a1 a2 a3
    exact h v' w' a1 (grownBy_trans (World.grownBy_alloc _ _ _) a2) (fun hv => by have := a3.1 hv; omega)
end Go.Proofs.YtmokncpppmchfaaDoor
