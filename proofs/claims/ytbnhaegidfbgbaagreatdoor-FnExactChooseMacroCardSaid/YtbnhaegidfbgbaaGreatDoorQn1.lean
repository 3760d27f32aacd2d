/- Vocabulary for the walks of this seat: what a slice reads as, what a call owns. | The search for the best vector: plain. | The helper functions of the exact laws, over lists of integers, bytes and bools: copy, compare, mark, hold. | Contracts: RefreshSchedule. | Small helpers: clip, floor, sides. | The transform of a block of 4 by 4 numbers, plain. | Rows of the call's own, kept. | Bit operations of i64 numbers that are not negative. | Pictures: plain words; the helpers of their exact laws. | Arrays and structs of integers as values and as blocks: load, store, index, equality, whatever their length. | Macroblocks: their validity, plain; blocks within a bound; vectors. | Equality of arrays of integers (nested too); zero arrays. | Macroblocks: what is valid; the program's and the reference's tests. -/
import Derived.Test.YtbnhaegidfbgbaaGreatDoorRows
import Derived.WalkKit
import Derived.WalkSpells
import Derived.WalkLawsBesides
import Derived.Lib.Hide
import Derived.BigQuiet
import Derived.Deep.QuietTactic
import Derived.Deep.LoopGhost
import Derived.Deep.RegionHeld3
import Derived.Deep.RegionWith
import Derived.Laws.Bits64
import Derived.ChangeKeysEq
import Derived.Laws.Tables
import Derived.Laws.StructEq
set_option linter.unusedVariables false
set_option linter.unusedSimpArgs false
namespace Go.Proofs.YtbnhaegidfbgbaaGreatDoor
open Go.RowKit
/-- The i-th number of a list, 0 past its end. -/
def nth (zs : List Int) (i : Nat) : Int := zs.getD i 0
def nthB (zs : List Bool) (i : Nat) : Bool := zs.getD i false
theorem nth_eq (zs : List Int) (i : Nat) (h : i < zs.length) : nth zs i = zs[i] := by simp [nth, h]
/-- The slice at address a of n one-cell elements reads as xs. -/
def Sl (w : World) (a : Option Addr) (n : Nat) (xs : List Value) : Prop :=
 xs.length = n ∧ ∀ i, i < n → ∃ b off, a = some ⟨b, off, none⟩ ∧ w.cell? ⟨b, off + i, none⟩ = some (xs.getD i undef)
/-- What was there stays as it was. -/
abbrev Ext (w w' : World) : Prop := Below w.heap.size w w'
theorem Ext.trans {a b c : World} (h : Ext a b) (k : Ext b c) : Ext a c := Below.trans h (Below.mono k h.size)
theorem Ext.drewN (w : World) (n : Nat) : Ext w (w.drewN n) := ⟨rfl, rfl, rfl, Nat.le_refl _, fun _ _ => rfl⟩
theorem Ext.trans_drewN {a b : World} (h : Ext a b) (n : Nat) : Ext a (b.drewN n) := Ext.trans h (Ext.drewN b n)
theorem Ext.grown {a w w' : World} {row : Option Nat} (h : Ext a w) (hg : w.grownBy w' row) (hr : ∀ k, row = some k → a.heap.size ≤ k) : Ext a w' :=
 Below.grown h hg h.size hr
theorem Ext.alloc (w : World) (o : Obj) : Ext w (w.alloc o) := Below.alloc (Below.refl _ _) (Nat.le_refl _) _
theorem cell_ext {w w' : World} {a : Addr} {v : Value} (e : Ext w w') (h : w.cell? a = some v) : w'.cell? a = some v := by
 rw [Below.cell e (World.block_lt_of_cell? w _ h)]; exact h
/-- A block known whole. -/
theorem Ext.blk {w w' : World} {b : Nat} {o : Obj} (e : Ext w w') (h : w.heap[b]? = some o) : w'.heap[b]? = some o := by
 rw [e.block b (lt_of_block h)]; exact h
theorem blk_alloc {w : World} {b : Nat} {o : Obj} (h : w.heap[b]? = some o) (x : Obj) : (w.alloc x).heap[b]? = some o := by
 rw [Below.heap_alloc _ _ _ (lt_of_block h)]; exact h
theorem blk_new (w : World) (o : Obj) : (w.alloc o).heap[w.heap.size]? = some o := heap_alloc_new w o
theorem blk_drewN {w : World} {b : Nat} {o : Obj} (h : w.heap[b]? = some o) (n : Nat) : (w.drewN n).heap[b]? = some o := h
theorem blk_set3 {w : World} {b : Nat} {x y z x' y' z' : Value} {T : TypeId} (h : w.heap[b]? = some (.cells #[x, y, z] T (0, 0))) : (((w.setCell ⟨b, 0, none⟩ x').setCell ⟨b, 1, none⟩ y').setCell ⟨b, 2, none⟩ z').heap[b]? = some (.cells #[x', y', z'] T (0, 0)) := by
 have h1 := heap_setCell_same w b 0 _ _ x' h
 have h2 := heap_setCell_same _ b 1 _ _ y' h1
 have h3 := heap_setCell_same _ b 2 _ _ z' h2
 simpa using h3
theorem blk_set_other {w : World} {b c i : Nat} {v : Value} {o : Obj} (h : w.heap[b]? = some o) (hne : b ≠ c) : (w.setCell ⟨c, i, none⟩ v).heap[b]? = some o := by
 rw [Below.heap_setCell _ _ _ _ hne]; exact h
theorem bx1 {w : World} {b : Nat} {x : Value} {T : TypeId} (h : w.heap[b]? = some (.cells #[x] T (0, 0))) : b < w.heap.size ∧ w.cell? ⟨b, 0, none⟩ = some x ∧ w.frozen? ⟨b, 0, none⟩ = false :=
 ⟨lt_of_block h, by simp [World.cell?, h], by simp [World.frozen?, h]⟩
theorem bx2 {w : World} {b : Nat} {x y : Value} {T : TypeId} (h : w.heap[b]? = some (.cells #[x, y] T (0, 0))) : b < w.heap.size ∧ w.cell? ⟨b, 0, none⟩ = some x ∧ w.cell? ⟨b, 1, none⟩ = some y ∧ w.frozen? ⟨b, 0, none⟩ = false ∧ w.frozen? ⟨b, 1, none⟩ = false :=
 ⟨lt_of_block h, by simp [World.cell?, h], by simp [World.cell?, h], by simp [World.frozen?, h], by simp [World.frozen?, h]⟩
theorem bx3 {w : World} {b : Nat} {x y z : Value} {T : TypeId} (h : w.heap[b]? = some (.cells #[x, y, z] T (0, 0))) : b < w.heap.size ∧ w.cell? ⟨b, 0, none⟩ = some x ∧ w.cell? ⟨b, 1, none⟩ = some y ∧ w.cell? ⟨b, 2, none⟩ = some z ∧ w.frozen? ⟨b, 0, none⟩ = false ∧ w.frozen? ⟨b, 1, none⟩ = false ∧ w.frozen? ⟨b, 2, none⟩ = false :=
 ⟨lt_of_block h, by simp [World.cell?, h], by simp [World.cell?, h], by simp [World.cell?, h], by simp [World.frozen?, h], by simp [World.frozen?, h], by simp [World.frozen?, h]⟩
theorem Sl.len {w : World} {a : Option Addr} {n : Nat} {xs : List Value} (h : Sl w a n xs) : xs.length = n := h.1
theorem Sl.ext {w w' : World} {a : Option Addr} {n : Nat} {xs : List Value} (h : Sl w a n xs) (e : Ext w w') : Sl w' a n xs := by
 refine ⟨h.1, fun i hi => ?_⟩
 obtain ⟨b, off, ha, hc⟩ := h.2 i hi
 exact ⟨b, off, ha, by rw [Below.cell e (World.block_lt_of_cell? w _ hc)]; exact hc⟩
theorem Sl.drewN {w : World} {a : Option Addr} {n : Nat} {xs : List Value} (h : Sl w a n xs) (m : Nat) : Sl (w.drewN m) a n xs := h
theorem Sl.grown {w w' : World} {a : Option Addr} {n : Nat} {xs : List Value} {row : Option Nat} (h : Sl w a n xs) (hg : w.grownBy w' row) (hr : ∀ x, a = some x → some x.block ≠ row) : Sl w' a n xs := by
 refine ⟨h.1, fun i hi => ?_⟩
 obtain ⟨b, off, ha, hc⟩ := h.2 i hi
 exact ⟨b, off, ha, hg.cell hc (hr ⟨b, off, none⟩ ha)⟩
theorem Sl.nil (w : World) (a : Option Addr) : Sl w a 0 [] := ⟨rfl, fun i hi => by omega⟩
theorem Sl.int {k : IntKind} {w : World} {a : Option Addr} {n : Nat} {zs : List Int} (h : Sl w a n (zs.map (Value.int k))) {i : Nat} (hi : i < n) :
 ∃ b off, a = some ⟨b, off, none⟩ ∧ w.cell? ⟨b, off + i, none⟩ = some (.int k (nth zs i)) := by
 obtain ⟨b, off, ha, hc⟩ := h.2 i hi
 have hl : i < zs.length := by have := h.1; simp at this; omega
 refine ⟨b, off, ha, ?_⟩
 rw [hc]; simp [nth, hl]
theorem Sl.bool {w : World} {a : Option Addr} {n : Nat} {zs : List Bool} (h : Sl w a n (zs.map Value.bool)) {i : Nat} (hi : i < n) :
 ∃ b off, a = some ⟨b, off, none⟩ ∧ w.cell? ⟨b, off + i, none⟩ = some (.bool (nthB zs i)) := by
 obtain ⟨b, off, ha, hc⟩ := h.2 i hi
 have hl : i < zs.length := by have := h.1; simp at this; omega
 refine ⟨b, off, ha, ?_⟩
 rw [hc]; simp [nthB, hl]
theorem Sl.int_len {k : IntKind} {w : World} {a : Option Addr} {n : Nat} {zs : List Int} (h : Sl w a n (zs.map (Value.int k))) : zs.length = n := by
 have := h.1; simpa using this
/-- An owned row reads as what is owned. -/
theorem Sl.of_owns {w : World} {base e n : Nat} {a : Option Addr} {cap : Nat} {xs : List Value} (h : w.ownsRow base e 1 (.slice a n cap) n xs) : Sl w a n xs := by
 refine ⟨by have := h.1; omega, fun i hi => ?_⟩
 rcases h.2 with ⟨_, h0⟩ | ⟨g, c, cur, hv, _⟩
 ·omega
 ·simp only [Value.slice.injEq] at hv
  obtain ⟨rfl, _, rfl⟩ := hv
  refine ⟨g, 0, rfl, ?_⟩
  have hl : i < xs.length := by have := h.1; omega
  rw [Nat.zero_add, h.cellAt i (by omega)]
  simp [hl]
theorem ext_nth {xs ys : List Int} (hl : xs.length = ys.length) (h : ∀ i, i < xs.length → nth xs i = nth ys i) : xs = ys := by
 apply List.ext_getElem hl
 intro i h1 h2
 have := h i h1
 rw [nth_eq _ _ h1, nth_eq _ _ h2] at this
 exact this
theorem take_snoc_nth (zs : List Int) (k : Nat) (h : k < zs.length) : zs.take (k + 1) = zs.take k ++ [nth zs k] := by
 rw [List.take_succ_eq_append_getElem h, nth_eq _ _ h]
theorem ret_bool {a b : Bool} (h : a = b) : Ending.returned (.bool a) = .returned (.bool b) := by rw [h]
theorem ret_int {k : IntKind} {a b : Int} (h : a = b) : Ending.returned (.int k a) = .returned (.int k b) := by rw [h]
/-- The first k of xs, behind them what ys has. -/
def mix (xs ys : List Value) (k : Nat) : List Value := xs.take k ++ ys.drop k
theorem mix_zero (xs ys : List Value) : mix xs ys 0 = ys := by simp [mix]
theorem mix_all (xs ys : List Value) (k : Nat) (h1 : xs.length = k) (h2 : ys.length = k) : mix xs ys k = xs := by
 unfold mix
 rw [List.take_of_length_le (by omega), List.drop_of_length_le (by omega), List.append_nil]
theorem mix_set (xs ys : List Value) (k : Nat) (h : xs.length = ys.length) (hk : k < xs.length) (u : Value) (hu : xs.getD k undef = u) : (mix xs ys k).set k u = mix xs ys (k + 1) := by
 subst hu
 have hl : (xs.take k).length = k := by simp; omega
 have hk' : k < ys.length := by omega
 unfold mix
 rw [List.drop_eq_getElem_cons hk', List.set_append_right _ _ (by omega), hl, Nat.sub_self, List.set_cons_zero, List.take_succ_eq_append_getElem hk, List.append_assoc]
 simp [hk]
theorem getD_map_int (k : IntKind) (zs : List Int) (i : Nat) (h : i < zs.length) : (zs.map (Value.int k)).getD i undef = .int k (nth zs i) := by simp [nth, h]
/-- A row of which n elements are owned is a slice of length n. -/
theorem owns_form {w : World} {base e size : Nat} {v : Value} {n : Nat} {xs : List Value} (h : w.ownsRow base e size v n xs) : ∃ a cap, v = .slice a n cap := by
 rcases h.2 with ⟨rfl, rfl⟩ | ⟨g, c, cur, rfl, _⟩
 ·exact ⟨none, 0, rfl⟩
 ·exact ⟨_, _, rfl⟩
theorem owns_get {w : World} {base e g n cap : Nat} {xs : List Value} (h : w.ownsRow base e 1 (.slice (some ⟨g, 0, none⟩) n cap) n xs) {j : Nat} (hj : j < n) : ∃ u, w.cell? ⟨g, j, none⟩ = some u ∧ xs[j]? = some u := by
 have hl : j < xs.length := by have := h.1; omega
 exact ⟨xs[j], by rw [h.cellAt j (by omega)]; simp [hl], by simp [hl]⟩
theorem owns_mono {w : World} {base base' e size : Nat} {v : Value} {n : Nat} {xs : List Value} (h : w.ownsRow base e size v n xs) (hb : base' ≤ base) : w.ownsRow base' e size v n xs := by
 obtain ⟨h1, h2⟩ := h
 refine ⟨h1, ?_⟩
 rcases h2 with h2 | ⟨g, cap, cur, hv, hg, r⟩
 ·exact .inl h2
 ·exact .inr ⟨g, cap, cur, hv, by omega, r⟩
theorem owns_ext {w w' : World} {base e size : Nat} {v : Value} {n : Nat} {xs : List Value} (h : w.ownsRow base e size v n xs) (x : Ext w w') : w'.ownsRow base e size v n xs := by
 obtain ⟨h1, h2⟩ := h
 refine ⟨h1, ?_⟩
 rcases h2 with h2 | ⟨g, cap, cur, hv, hg, r1, r2⟩
 ·exact .inl h2
 ·exact .inr ⟨g, cap, cur, hv, hg, x.blk r1, r2⟩
theorem grownBy_trans {a b c : World} {row : Option Nat} (h : a.grownBy b row) (k : b.grownBy c row) : a.grownBy c row :=
 ⟨k.os.trans h.os, k.tape.trans h.tape, k.output.trans h.output, Nat.le_trans h.size k.size, fun i hi hne => (k.block i (Nat.lt_of_lt_of_le hi h.size) hne).trans (h.block i hi hne)⟩
theorem owns_ge {w : World} {base e size : Nat} {v : Value} {n : Nat} {xs : List Value} (h : w.ownsRow base e size v n xs) : ∀ k, v.ownBlock = some k → base ≤ k := fun k hk => (h.lt k hk).1
/-- make([]T, n), T of one cell: n zeros are owned. -/
theorem wpList_mk {P : Program} (w : World) {ops : Array Oper} {rest : List Oper} {o : Oper} {a : Act} {Q : Exit → Act → World → Prop}
 (hg : o.guard = none) (l c : Operand) (t : TypeId) (hop : o.op = Op.makeSlice t l c)
 (e : TypeId) (z : Value) (bytes : Nat) (h1 : P.underlying t = some (.slice e)) (h2 : (P.info? e).map (fun i => (i.zero, i.size, i.bytes)) = some (some z, 1, bytes)) (hz1 : z.cells = #[z])
 (L : Int) (n : Nat) (hl : a.eval l = .int .i64 L) (hc : a.eval c = .int .i64 L) (hL : L = (n : Int)) (b2 : n * bytes ≤ 281474976710656) (b3 : n < 2 ^ 62)
 (hK : ∀ w', w'.ownsRow w.heap.size e 1 (.slice (some ⟨w.heap.size, 0, none⟩) n n) n (List.replicate n z) → w.grownBy w' none → wpList P ops Q rest (a.put o.dst (.slice (some ⟨w.heap.size, 0, none⟩) n n)) w') :
 wpList P ops Q (o :: rest) a w := by
 obtain ⟨i0, hi, hz0, hz1', hz2⟩ := info_parts h2
 refine wpList_make_full w hg l c t hop w.heap.size e i0 z 1 h1 hi hz0 hz1' .i64 .i64 L L n hl hc hL hL ?_ ?_ (Nat.le_refl _) ?_
 ·rw [hz2, Nat.mul_comm]; exact b2
 ·unfold maxLen; omega
 ·intro w' h3 h4
  refine hK w' ?_ h4
  rw [Nat.mul_one, hz1, toList_madeCells_one] at h3
  exact h3
/-- make([]T, 0, n): an owned row without elements. -/
theorem wpList_mk0 {P : Program} (w : World) {ops : Array Oper} {rest : List Oper} {o : Oper} {a : Act} {Q : Exit → Act → World → Prop}
 (hg : o.guard = none) (l c : Operand) (t : TypeId) (hop : o.op = Op.makeSlice t l c)
 (e : TypeId) (z : Value) (bytes : Nat) (h1 : P.underlying t = some (.slice e)) (h2 : (P.info? e).map (fun i => (i.zero, i.size, i.bytes)) = some (some z, 1, bytes))
 (L : Int) (n : Nat) (hl : a.eval l = .int .i64 0) (hc : a.eval c = .int .i64 L) (hL : L = (n : Int)) (b2 : n * bytes ≤ 281474976710656) (b3 : n < 2 ^ 62)
 (hK : ∀ w' v, w'.ownsRow w.heap.size e 1 v 0 [] → w.grownBy w' none → wpList P ops Q rest (a.put o.dst v) w') :
 wpList P ops Q (o :: rest) a w := by
 obtain ⟨i0, hi, hz0, hz1', hz2⟩ := info_parts h2
 refine wpList_make_own w hg l c t hop w.heap.size e i0 z 1 h1 hi hz0 hz1' .i64 .i64 L n hl hc hL ?_ ?_ (Nat.le_refl _) ?_
 ·rw [hz2, Nat.mul_comm]; exact b2
 ·unfold maxLen; omega
 ·intro w' h3 h4
  exact hK w' _ h3 h4
/-- append(s, x), x one new value of one cell in the block just laid. -/
theorem wpList_app {P : Program} (wr : World) {ops : Array Oper} {rest : List Oper} {o : Oper} {a : Act} {Q : Exit → Act → World → Prop} {base e : Nat} {v : Value} {n : Nat} {xs : List Value}
 (hown : wr.ownsRow base e 1 v n xs) (hbase : base ≤ wr.heap.size) (u : Value)
 (hg : o.guard = none) (s x : Operand) (t : TypeId) (ho : o.op = .call { callee := .builtin .append, args := #[s, x], argTypes := #[t, t] })
 (z : Value) (bytes : Nat) (h1 : P.underlying t = some (.slice e)) (h2 : (P.info? e).map (fun i => (i.zero, i.size, i.bytes)) = some (some z, 1, bytes)) (hz1 : z.cells.size = 1)
 (hs : a.eval s = v) (hx : a.eval x = .slice (some ⟨wr.heap.size, 0, none⟩) 1 1) (hu1 : u.oneCell' = true)
 (hb : (n + 1) * bytes ≤ 140737488355328) (hn : n < 2 ^ 62)
 (h : ∀ v' w', w'.ownsRow base e 1 v' (n + 1) (xs ++ [u]) → wr.grownBy w' v.ownBlock → v' ≠ .slice none 0 0 → wpList P ops Q rest (a.put o.dst v') w') : wpList P ops Q (o :: rest) a (wr.alloc (.cells #[u] e)) := by
 obtain ⟨i0, hi, hz0, hz1', hz2⟩ := info_parts h2
 refine wpList_append_own _ hg s x t ho base e i0 z 1 bytes h1 hi hz0 hz1' hz2 hz1 (by decide) v n xs hs (hown.alloc _) ⟨wr.heap.size, 0, none⟩ 1 1 [u] hx rfl ?_ ?_ ?_ hb ?_ ?_
 ·intro j q hq
  match j, hq with
  | 0, hq =>
   simp at hq
   subst hq
   simp [Addr.add, World.cell?_alloc_at]
 ·intro q hq; simp at hq; subst hq; exact hu1
 ·unfold maxLen; omega
 ·simp; omega
 ·intro v' w' a1 a2 a3
  exact h v' w' a1 (grownBy_trans (World.grownBy_alloc _ _ _) a2) (fun hv => by have := a3.1 hv; omega)
end Go.Proofs.YtbnhaegidfbgbaaGreatDoor
namespace Go.Proofs.YtbnhaegidfbgbaaGreatDoor
def ab (x y : Int) : Int := max x (-x) + max y (-y)
/-- A vector comes ahead of another, or is it: by cost, by length, by row, by column. -/
def leV (c : Int → Int → Int) (x y u v : Int) : Prop := c x y < c u v ∨ (c x y = c u v ∧ (ab x y < ab u v ∨ (ab x y = ab u v ∧ (y < v ∨ (y = v ∧ x ≤ u)))))
def boxV (x y : Int) : Prop := -4 ≤ x ∧ x ≤ 4 ∧ -4 ≤ y ∧ y ≤ 4
def IsBest (c : Int → Int → Int) (s : Int × Int) : Prop := boxV s.1 s.2 ∧ ∀ u v, boxV u v → leV c s.1 s.2 u v
theorem leV.anti {c : Int → Int → Int} {x y u v : Int} (h : leV c x y u v) (k : leV c u v x y) : x = u ∧ y = v := by
 unfold leV at *
 omega
theorem leV.trans {c : Int → Int → Int} {x y u v s t : Int} (h : leV c x y u v) (k : leV c u v s t) : leV c x y s t := by
 unfold leV at *
 omega
theorem leV.refl (c : Int → Int → Int) (x y : Int) : leV c x y x y := by
 unfold leV
 omega
theorem IsBest.uniq {c : Int → Int → Int} {s t : Int × Int} (h : IsBest c s) (k : IsBest c t) : s = t := by
 have := (h.2 _ _ k.1).anti (k.2 _ _ h.1)
 exact Prod.ext this.1 this.2
/-- The vectors of a row of the search. -/
def oneV (sum y : Int) : List (Int × Int) := if sum - max y (-y) > 4 then [] else if sum - max y (-y) > 0 then [(-(sum - max y (-y)), y), (sum - max y (-y), y)] else [(-(sum - max y (-y)), y)]
def rowV (s : Nat) : Nat → List (Int × Int)
 | 0 => []
 | j + 1 => rowV s j ++ oneV s (-(min (s : Int) 4) + j)
def vecS : Nat → List (Int × Int)
 | 0 => []
 | s + 1 => vecS s ++ rowV s (2 * min s 4 + 1)
def vecL : List (Int × Int) := vecS 9
def ltV (a b : Int × Int) : Bool := decide (ab a.1 a.2 < ab b.1 b.2 ∨ (ab a.1 a.2 = ab b.1 b.2 ∧ (a.2 < b.2 ∨ (a.2 = b.2 ∧ a.1 < b.1))))
def srt : List (Int × Int) → Bool
 | [] => true
 | a :: l => l.all (ltV a) && srt l
theorem vecL_srt : srt vecL = true := by decide +kernel
theorem vecL_has : (List.range 9).all (fun i => (List.range 9).all fun j => vecL.contains (((i : Nat) : Int) - 4, ((j : Nat) : Int) - 4)) = true := by decide +kernel
theorem vecL_box : vecL.all (fun v => decide (-4 ≤ v.1 ∧ v.1 ≤ 4 ∧ -4 ≤ v.2 ∧ v.2 ≤ 4)) = true := by decide +kernel
theorem vecL_mem {x y : Int} (h : boxV x y) : (x, y) ∈ vecL := by
 have h1 := List.all_eq_true.1 vecL_has (x + 4).toNat (by unfold boxV at h; simp; omega)
 have h2 := List.all_eq_true.1 h1 (y + 4).toNat (by unfold boxV at h; simp; omega)
 unfold boxV at h
 rw [show (((x + 4).toNat : Nat) : Int) - 4 = x by omega, show (((y + 4).toNat : Nat) : Int) - 4 = y by omega] at h2
 simpa using h2
/-- The program's step: the first of the least cost. -/
def nxI (c : Int → Int → Int) (s : (Int × Int) × Int) (v : Int × Int) : (Int × Int) × Int := if s.2 < 0 ∨ c v.1 v.2 < s.2 then (v, c v.1 v.2) else s
def stI (c : Int → Int → Int) (l : List (Int × Int)) : (Int × Int) × Int := l.foldl (nxI c) ((0, 0), -1)
theorem stI_snoc (c : Int → Int → Int) (l : List (Int × Int)) (v : Int × Int) : stI c (l ++ [v]) = nxI c (stI c l) v := by simp [stI]
theorem fold_zero (c : Int → Int → Int) (h : ∀ x y, 0 ≤ c x y) (l : List (Int × Int)) (s : (Int × Int) × Int) (hs : s.2 = 0) : l.foldl (nxI c) s = s := by
 induction l with
 | nil => rfl
 | cons v l ih =>
  have : nxI c s v = s := by
   unfold nxI
   rw [if_neg (by have := h v.1 v.2; omega)]
  rw [List.foldl_cons, this, ih]
theorem stI_stop (c : Int → Int → Int) (h : ∀ x y, 0 ≤ c x y) {l m : List (Int × Int)} (hp : l <+: m) (hs : (stI c l).2 = 0) : stI c m = stI c l := by
 obtain ⟨t, rfl⟩ := hp
 unfold stI
 rw [List.foldl_append]
 exact fold_zero c h t _ hs
theorem fold_best (c : Int → Int → Int) (h : ∀ x y, 0 ≤ c x y) (l : List (Int × Int)) (b : Int × Int) (hb : l.all (ltV b) = true) (hs : srt l = true) :
 let r := (l.foldl (nxI c) (b, c b.1 b.2)).1
 (r = b ∨ r ∈ l) ∧ leV c r.1 r.2 b.1 b.2 ∧ ∀ v ∈ l, leV c r.1 r.2 v.1 v.2 := by
 induction l generalizing b with
 | nil => exact ⟨.inl rfl, leV.refl _ _ _, by simp⟩
 | cons v l ih =>
  simp only [srt, Bool.and_eq_true, List.all_cons] at hs hb
  have hbv := of_decide_eq_true hb.1
  rw [List.foldl_cons]
  by_cases hc : c v.1 v.2 < c b.1 b.2
  ·have e : nxI c (b, c b.1 b.2) v = (v, c v.1 v.2) := by unfold nxI; exact if_pos (.inr hc)
   rw [e]
   obtain ⟨h1, h2, h3⟩ := ih v hs.1 hs.2
   refine ⟨.inr (h1.elim (fun e => List.mem_cons.2 (.inl e)) (List.mem_cons_of_mem _)), h2.trans (.inl hc), fun u hu => ?_⟩
   rcases List.mem_cons.1 hu with rfl | hu
   ·exact h2
   ·exact h3 u hu
  ·have hn := h b.1 b.2
   have e : nxI c (b, c b.1 b.2) v = (b, c b.1 b.2) := by unfold nxI; exact if_neg (by simp only; omega)
   rw [e]
   obtain ⟨h1, h2, h3⟩ := ih b hb.2 hs.2
   refine ⟨h1.imp id (List.mem_cons_of_mem _), h2, fun u hu => ?_⟩
   rcases List.mem_cons.1 hu with rfl | hu
   ·refine h2.trans ?_
    unfold leV
    omega
   ·exact h3 u hu
theorem stI_best (c : Int → Int → Int) (h : ∀ x y, 0 ≤ c x y) : IsBest c (stI c vecL).1 := by
 obtain ⟨v, l, hl⟩ : ∃ v l, vecL = v :: l := ⟨_, _, rfl⟩
 have hs := vecL_srt
 have hx := vecL_box
 have hm := @vecL_mem
 rw [hl] at hs hx hm ⊢
 simp only [srt, Bool.and_eq_true] at hs
 have e : stI c (v :: l) = l.foldl (nxI c) (v, c v.1 v.2) := by
  unfold stI
  rw [List.foldl_cons]
  congr 1
 rw [e]
 obtain ⟨h1, h2, h3⟩ := fold_best c h l v hs.1 hs.2
 refine ⟨?_, fun x y hxy => ?_⟩
 ·have : ∀ r, (r = v ∨ r ∈ l) → boxV r.1 r.2 := by
   intro r hr
   have := List.all_eq_true.1 hx r (by rcases hr with rfl | hr <;> simp [*])
   exact of_decide_eq_true (p := -4 ≤ r.1 ∧ r.1 ≤ 4 ∧ -4 ≤ r.2 ∧ r.2 ≤ 4) this
  exact this _ h1
 ·rcases List.mem_cons.1 (hm hxy) with e | hu
  ·have e1 := congrArg Prod.fst e
   have e2 := congrArg Prod.snd e
   simp only at e1 e2
   rw [e1, e2]; exact h2
  ·exact h3 _ hu
/-- The reference's step. -/
def nxS (c : Int → Int → Int) (s : (Int × Int) × Int) (v : Int × Int) : (Int × Int) × Int := if c v.1 v.2 < s.2 ∨ (c v.1 v.2 = s.2 ∧ ab v.1 v.2 < ab s.1.1 s.1.2) then (v, c v.1 v.2) else s
def vat (k : Nat) : Int × Int := (((k % 9 : Nat) : Int) - 4, ((k / 9 : Nat) : Int) - 4)
def stS (c : Int → Int → Int) : Nat → (Int × Int) × Int
 | 0 => ((0, 0), c 0 0)
 | k + 1 => nxS c (stS c k) (vat k)
theorem stS_inv (c : Int → Int → Int) (k : Nat) (hk : k ≤ 81) :
 (stS c k).2 = c (stS c k).1.1 (stS c k).1.2 ∧ boxV (stS c k).1.1 (stS c k).1.2 ∧ ((stS c k).1 = (0, 0) ∨ ∃ m, m < k ∧ (stS c k).1 = vat m) ∧ leV c (stS c k).1.1 (stS c k).1.2 0 0 ∧ ∀ m, m < k → leV c (stS c k).1.1 (stS c k).1.2 (vat m).1 (vat m).2 := by
 induction k with
 | zero => exact ⟨rfl, by unfold boxV; simp [stS], .inl rfl, leV.refl _ _ _, fun m hm => by omega⟩
 | succ k ih =>
  obtain ⟨h1, hb, h2, h3, h4⟩ := ih (by omega)
  have hbx : boxV (vat k).1 (vat k).2 := by
   have : k / 9 < 9 := by omega
   unfold boxV vat; simp; omega
  unfold stS
  unfold nxS
  generalize stS c k = s at *
  obtain ⟨⟨bx, by'⟩, ls⟩ := s
  simp only at h1 hb h2 h3 h4 ⊢
  subst h1
  obtain ⟨v, hv⟩ : ∃ v, v = vat k := ⟨_, rfl⟩
  rw [← hv] at hbx ⊢
  by_cases hc : c v.1 v.2 < c bx by' ∨ (c v.1 v.2 = c bx by' ∧ ab v.1 v.2 < ab bx by')
  ·rw [if_pos hc]
   have hl : leV c v.1 v.2 bx by' := by unfold leV; omega
   refine ⟨rfl, hbx, .inr ⟨k, by omega, hv⟩, hl.trans h3, fun m hm => ?_⟩
   by_cases e : m = k
   ·subst e; rw [← hv]; exact leV.refl _ _ _
   ·exact hl.trans (h4 m (by omega))
  ·rw [if_neg hc]
   refine ⟨rfl, hb, h2.imp id (fun ⟨m, h, e⟩ => ⟨m, by omega, e⟩), h3, fun m hm => ?_⟩
   by_cases e : m = k
   ·subst e
    rw [← hv]
    show leV c bx by' v.1 v.2
    rcases h2 with h2 | ⟨n, hn, h2⟩
    ·obtain ⟨rfl, rfl⟩ := Prod.mk.inj h2
     have h0 : ab 0 0 = 0 := by decide
     have h5 : 0 < ab v.1 v.2 ∨ (v.1 = 0 ∧ v.2 = 0) := by unfold ab; omega
     rcases h5 with h5 | ⟨e1, e2⟩
     ·unfold leV; omega
     ·rw [e1, e2]; exact leV.refl _ _ _
    ·have e1 := congrArg Prod.fst h2
     have e2 := congrArg Prod.snd h2
     have e3 := congrArg Prod.fst hv
     have e4 := congrArg Prod.snd hv
     simp only [vat] at e1 e2 e3 e4
     have : by' < v.2 ∨ (by' = v.2 ∧ bx ≤ v.1) := by omega
     unfold leV
     omega
   ·exact h4 m (by omega)
theorem stS_best (c : Int → Int → Int) : IsBest c (stS c 81).1 := by
 obtain ⟨h1, hb, h2, h3, h4⟩ := stS_inv c 81 (Nat.le_refl _)
 refine ⟨hb, fun u v hv => ?_⟩
 unfold boxV at hv
 have := h4 (9 * (v + 4).toNat + (u + 4).toNat) (by omega)
 have e : vat (9 * (v + 4).toNat + (u + 4).toNat) = (u, v) := by
  unfold vat
  refine Prod.ext ?_ ?_ <;> simp <;> omega
 rw [e] at this
 exact this
theorem best_same (c : Int → Int → Int) (h : ∀ x y, 0 ≤ c x y) : (stS c 81).1 = (stI c vecL).1 := (stS_best c).uniq (stI_best c h)
end Go.Proofs.YtbnhaegidfbgbaaGreatDoor
namespace Go.Proofs.YtbnhaegidfbgbaaGreatDoor
open Go.RowKit
set_option maxHeartbeats 400000
theorem info_int : (Tryz.prog.info? 3).map (fun i => (i.zero, i.size, i.bytes)) = some (some (.int .i64 0), 1, 8) := by kernel_rfl
/-- toIntS copies. -/
theorem toIntS_any (a : Option Addr) (c n : Nat) (xs : List Int) (w : World) (hn : n < 2^45)
 (r : Sl w a n (xs.map (Value.int .i64))) :
 Calls Tryz.prog 58 #[.slice a n c] w fun e w' => ∃ v, e = .returned v ∧ w'.ownsRow w.heap.size 3 1 v n (xs.map (Value.int .i64)) ∧ Ext w w' := by
 go_enter Tryz.func58, Tryz.ntmps58
 go_wp2_with (at_make; refine wpList_mk _ rfl _ _ 23 rfl 3 (.int .i64 0) 8 Tryz.underlying23 info_int rfl _ n rfl rfl rfl (by omega) (by omega) ?_; intro w1 hown hgrow)
 have E1 : Ext w w1 := (Ext.grown (Below.refl _ _) hgrow (by simp))
 have H0 := mix_zero (xs.map (Value.int .i64)) (List.replicate n (.int .i64 0))
 rw [← H0] at hown
 clear H0 hgrow
 go_loopw [4] (fun i wr => ∃ k : Nat, k ≤ n ∧ i = .int .i64 k ∧ Ext w wr ∧ wr.ownsRow w.heap.size 3 1 (.slice (some ⟨w.heap.size, 0, none⟩) n n) n (mix (xs.map (Value.int .i64)) (List.replicate n (.int .i64 0)) k)) (fun i _ => n - (intOf i).toNat)
 case atStart => exact ⟨0, by omega, rfl, E1, hown⟩
 case round =>
  obtain ⟨k, hk, rfl, E2, hown2⟩ := hrel
  clear hown E1
  by_cases hlt : k < n
  ·obtain ⟨b1, o1, rfl, g1⟩ := (r.ext E2).int hlt
   obtain ⟨u, g2, -⟩ := owns_get hown2 hlt
   have g3 := hown2.frozenAt k
   go_wp2
   go_roundw
   case rel =>
    obtain ⟨o2, gr⟩ := hown2.stored k ((Value.int .i64) (nth xs k))
    rw [mix_set _ _ k (by simp [r.int_len]) (by simp [r.int_len, hlt]) _ (getD_map_int _ _ _ (by rw [r.int_len]; exact hlt))] at o2
    exact ⟨k + 1, by omega, rfl, Ext.grown E2 gr (by simp), o2⟩
   case measure => simp [intOf]; omega
  ·obtain rfl : k = n := by omega
   rw [mix_all _ _ k (by simp [r.int_len]) (by simp)] at hown2
   go_wp2
   go_ret
   exact ⟨_, rfl, hown2, E2⟩
theorem eqIntS_eq (a1 a2 : Option Addr) (c1 c2 n : Nat) (xs ys : List Int) (w : World) (hn : n < 2^47)
 (r1 : Sl w a1 n (xs.map (Value.int .i64))) (r2 : Sl w a2 n (ys.map (Value.int .i64))) :
 Calls Tryz.prog 67 #[.slice a1 n c1, .slice a2 n c2] w fun e w' => e = .returned (.bool (decide (xs = ys))) ∧ ∃ m, w' = w.drewN m := by
 go_enter Tryz.func67, Tryz.ntmps67
 go_wp2
 go_loopw [5] (fun i wr => ∃ k : Nat, k ≤ n ∧ i = .int .i64 k ∧ (∃ m, wr = w.drewN m) ∧ ∀ j, j < k → nth xs j = nth ys j) (fun i _ => n - (intOf i).toNat)
 case atStart => exact ⟨0, by omega, rfl, ⟨0, rfl⟩, by intro j hj; omega⟩
 case round =>
  obtain ⟨k, hk, rfl, ⟨m, rfl⟩, heq⟩ := hrel
  have Heq := Lib.hid heq
  clear heq
  by_cases hlt : k < n
  ·obtain ⟨b1, o1, rfl, g1⟩ := r1.int hlt
   obtain ⟨b2, o2, rfl, g2⟩ := r2.int hlt
   go_wp2
   go_quiet (fail)
   go_wp2
   ·have hne : nth xs k ≠ nth ys k := bne_iff_ne.1 (by assumption)
    go_ret
    exact ⟨ret_bool (by simp; intro h; exact hne (by rw [h])), m + nq, by simp⟩
   ·have he : nth xs k = nth ys k := by simpa using (by assumption : (nth xs k != nth ys k) = false)
    go_roundw
    case rel => exact ⟨k + 1, by omega, rfl, ⟨_, rfl⟩, fun j hj => by
     rcases Nat.lt_succ_iff_lt_or_eq.1 hj with h | rfl
     ·exact Heq.out j h
     ·exact he⟩
    case measure => simp [intOf]; omega
  ·obtain rfl : k = n := by omega
   go_wp2
   go_ret
   exact ⟨ret_bool (by simp; exact ext_nth (by rw [r1.int_len, r2.int_len]) (fun i hi => Heq.out i (by rw [r1.int_len] at hi; exact hi))), _, rfl⟩
theorem eqIntS_ne (a1 a2 : Option Addr) (c1 c2 n n2 : Nat) (w : World) (_hn : n < 2^47) (_hn2 : n2 < 2^47) (hne : ((n : Int) != n2) = true) :
 Calls Tryz.prog 67 #[.slice a1 n c1, .slice a2 n2 c2] w fun e w' => e = .returned (.bool false) ∧ w = w' := by
 go_enter Tryz.func67, Tryz.ntmps67
 go_wp2
 go_ret
 exact ⟨rfl, rfl⟩
/-- eqIntS: equality of two lists. -/
theorem eqIntS_any (a1 a2 : Option Addr) (c1 c2 n n2 : Nat) (xs ys : List Int) (w : World) (hn : n < 2^47) (hn2 : n2 < 2^47)
 (r1 : Sl w a1 n (xs.map (Value.int .i64))) (r2 : Sl w a2 n2 (ys.map (Value.int .i64))) :
 Calls Tryz.prog 67 #[.slice a1 n c1, .slice a2 n2 c2] w fun e w' => e = .returned (.bool (decide (xs = ys))) ∧ ∃ m, w' = w.drewN m := by
 by_cases h : n = n2
 ·subst h
  exact eqIntS_eq a1 a2 c1 c2 n xs ys w hn r1 r2
 ·refine (eqIntS_ne a1 a2 c1 c2 n n2 w hn hn2 (by simp; omega)).mono fun e w' he => ?_
  obtain ⟨rfl, rfl⟩ := he
  refine ⟨ret_bool ?_, 0, rfl⟩
  symm
  simp
  rintro rfl
  exact h (by rw [← r1.int_len, ← r2.int_len])
/-- The numbers from k on. -/
def marks (k : Int) (n : Nat) : List Int := (List.range n).map fun (i : Nat) => k + (i : Int)
end Go.Proofs.YtbnhaegidfbgbaaGreatDoor
namespace Go.Proofs.YtbnhaegidfbgbaaGreatDoor
open Go.RowKit
set_option maxHeartbeats 400000
theorem l1In_yes (n lo hi : Int) (w : World) (h1 : lo ≤ n) (h2 : n ≤ hi) :
 Calls Tryz.prog 56 #[.int .i64 n, .int .i64 lo, .int .i64 hi] w fun e w' => e = .returned (.bool true) ∧ w = w' := by
 go_enter Tryz.func56, Tryz.ntmps56
 go_wp2
 go_ret
 exact ⟨by simp, rfl⟩
theorem l1In_no (n lo hi : Int) (w : World) (h1 : n < lo ∨ hi < n) :
 Calls Tryz.prog 56 #[.int .i64 n, .int .i64 lo, .int .i64 hi] w fun e w' => e = .returned (.bool false) ∧ w = w' := by
 by_cases h : lo ≤ n
 ·have h2 : ¬ n ≤ hi := by omega
  go_enter Tryz.func56, Tryz.ntmps56
  go_wp2
  go_ret
  exact ⟨by simp, rfl⟩
 ·go_enter Tryz.func56, Tryz.ntmps56
  go_wp2
  go_ret
  exact ⟨rfl, rfl⟩
end Go.Proofs.YtbnhaegidfbgbaaGreatDoor
namespace Go.Proofs.YtbnhaegidfbgbaaGreatDoor
open Go.RowKit
set_option maxHeartbeats 400000
/-- The nearest number in lo..hi. -/
def clipI (n lo hi : Int) : Int := max lo (min hi n)
theorem clipI_lo {n lo hi : Int} (h : lo ≤ hi) : lo ≤ clipI n lo hi ∧ clipI n lo hi ≤ hi := by unfold clipI; omega
theorem clipI_in {n lo hi : Int} (h1 : lo ≤ n) (h2 : n ≤ hi) : clipI n lo hi = n := by unfold clipI; omega
/-- The absolute value. -/
def absI (n : Int) : Int := if n < 0 then -n else n
theorem tdiv_floor {n d : Int} (h : n < 0) (hd : 1 ≤ d) : n ≤ n.tdiv d ∧ n.tdiv d ≤ 0 ∧ (n.tmod d < 0 → n.tdiv d - 1 = n / d) ∧ (¬ n.tmod d < 0 → n.tdiv d = n / d) := by
 obtain ⟨m, rfl⟩ : ∃ m : Int, n = -m := ⟨-n, by omega⟩
 have e1 : (-m).tdiv d = -(m / d) := by rw [Int.neg_tdiv, Int.tdiv_eq_ediv_of_nonneg (by omega)]
 have e2 : (-m).tmod d = -(m % d) := by rw [Int.neg_tmod, Int.tmod_eq_emod_of_nonneg (by omega)]
 have hq : m / d ≤ m := Int.ediv_le_self _ (by omega)
 have hq0 : 0 ≤ m / d := Int.ediv_nonneg (by omega) (by omega)
 have hr0 := Int.emod_nonneg m (show d ≠ 0 by omega)
 have hr1 := Int.emod_lt_of_pos m (show 0 < d by omega)
 have hdm := Int.mul_ediv_add_emod m d
 rw [e1, e2]
 refine ⟨by omega, by omega, fun h1 => ?_, fun h1 => ?_⟩
 ·symm
  refine (Int.ediv_eq_iff_of_pos (by omega)).2 ?_
  have : d * (-(m / d) - 1) = -(d * (m / d)) - d := by rw [Int.mul_sub, Int.mul_neg, Int.mul_one]
  constructor
  ·rw [Int.mul_comm]; omega
  ·rw [Int.mul_comm]; omega
 ·symm
  have hr : m % d = 0 := by omega
  rw [hr] at hdm
  refine (Int.ediv_eq_iff_of_pos (by omega)).2 ?_
  constructor
  ·rw [Int.mul_comm, Int.mul_neg]; omega
  ·rw [Int.mul_comm, Int.mul_neg]; omega
theorem l1Clip_any (n lo hi : Int) (w : World) : Calls Tryz.prog 135 #[.int .i64 n, .int .i64 lo, .int .i64 hi] w fun e w' => e = .returned (.int .i64 (clipI n lo hi)) ∧ w = w' := by
 go_enter Tryz.func135, Tryz.ntmps135
 go_wp2
 all_goals
  go_ret
  exact ⟨ret_int (by unfold clipI; omega), rfl⟩
theorem clamp_any (n lo hi : Int) (w : World) (h : lo ≤ hi) : Calls Tryz.prog 125 #[.int .i64 n, .int .i64 lo, .int .i64 hi] w fun e w' => e = .returned (.int .i64 (clipI n lo hi)) ∧ w = w' := by
 go_enter Tryz.func125, Tryz.ntmps125
 go_wp2
 all_goals
  go_ret
  exact ⟨ret_int (by unfold clipI; omega), rfl⟩
theorem l7Floor_any (n d : Int) (w : World) (h1 : -1099511627776 ≤ n) (h2 : n ≤ 1099511627776) (hd : 1 ≤ d) (hd2 : d ≤ 1048576) : Calls Tryz.prog 179 #[.int .i64 n, .int .i64 d] w fun e w' => e = .returned (.int .i64 (n / d)) ∧ w = w' := by
 by_cases h0 : 0 ≤ n
 ·have hd0 : decide (n % d < 0) = false := by
   have := Int.emod_nonneg n (show d ≠ 0 by omega)
   simp; omega
  go_enter Tryz.func179, Tryz.ntmps179
  go_wp2
  go_ret
  exact ⟨rfl, rfl⟩
 ·obtain ⟨t1, t2, t3, t4⟩ := tdiv_floor (by omega : n < 0) hd
  have T3 := Lib.hid t3
  have T4 := Lib.hid t4
  clear t3 t4
  by_cases hm : n.tmod d < 0
  ·have hd0 : decide (n.tmod d < 0) = true := by simpa using hm
   go_enter Tryz.func179, Tryz.ntmps179
   go_wp2
   go_ret
   exact ⟨ret_int (T3.out hm), rfl⟩
  ·have hd0 : decide (n.tmod d < 0) = false := by simpa using hm
   go_enter Tryz.func179, Tryz.ntmps179
   go_wp2
   go_ret
   exact ⟨ret_int (T4.out hm), rfl⟩
end Go.Proofs.YtbnhaegidfbgbaaGreatDoor
namespace Go.Proofs.YtbnhaegidfbgbaaGreatDoor
open Go.RowKit
set_option maxHeartbeats 1000000
/-- The sum of f's first n numbers. -/
def sumZ (f : Nat → Int) : Nat → Int
 | 0 => 0
 | n + 1 => sumZ f n + f n
theorem sumZ_rng {f : Nat → Int} {B : Int} {n : Nat} (h : ∀ i, i < n → -B ≤ f i ∧ f i ≤ B) : -(n * B) ≤ sumZ f n ∧ sumZ f n ≤ n * B := by
 induction n with
 | zero => simp [sumZ]
 | succ n ih =>
  have h1 := ih (fun i hi => h i (by omega))
  have h2 := h n (by omega)
  have e : ((n + 1 : Nat) : Int) * B = n * B + B := by rw [Int.natCast_add, Int.add_mul]; omega
  simp only [sumZ]
  rw [e]
  omega
/-- The matrix's entries. -/
def sgn (u y : Nat) : Int := nth [1, 1, 1, 1, 1, 1, -1, -1, 1, -1, -1, 1, 1, -1, 1, -1] (4 * u + y)
theorem sgn_one {u y : Nat} (hu : u < 4) (hy : y < 4) : sgn u y = 1 ∨ sgn u y = -1 := by
 have : ∀ u, u < 4 → ∀ y, y < 4 → sgn u y = 1 ∨ sgn u y = -1 := by decide
 exact this u hu y hy
def hadT (b : List Int) (u v t : Nat) : Int := sgn u (t / 4) * sgn v (t % 4) * nth b t
def had (b : List Int) : List Int := (List.range 16).map fun k => sumZ (hadT b (k / 4) (k % 4)) 16
theorem had_len (b : List Int) : (had b).length = 16 := by simp [had]
theorem nth_had (b : List Int) (k : Nat) (h : k < 16) : nth (had b) k = sumZ (hadT b (k / 4) (k % 4)) 16 := by
 simp [nth, had, h]
theorem hadT_rng {b : List Int} {B : Int} {u v t : Nat} (hb : -B ≤ nth b t ∧ nth b t ≤ B) (hu : u < 4) (hv : v < 4) (ht : t < 16) : -B ≤ hadT b u v t ∧ hadT b u v t ≤ B := by
 unfold hadT
 rcases sgn_one hu (show t / 4 < 4 by omega) with h | h <;> rcases sgn_one hv (show t % 4 < 4 by omega) with h2 | h2 <;> rw [h, h2] <;> omega
theorem had_rng {b : List Int} {B : Int} (hb : ∀ t, t < 16 → -B ≤ nth b t ∧ nth b t ≤ B) {k : Nat} (hk : k < 16) : -(16 * B) ≤ nth (had b) k ∧ nth (had b) k ≤ 16 * B := by
 rw [nth_had _ _ hk]
 have := sumZ_rng (f := hadT b (k / 4) (k % 4)) (B := B) (n := 16) (fun i hi => hadT_rng (hb i hi) (by omega) (by omega) hi)
 simpa using this
/-- Four numbers, a step apart, transformed. -/
def bfS (zs : List Int) (i st : Nat) : List Int :=
 (((zs.set i (nth zs i + nth zs (i + st) + nth zs (i + 2 * st) + nth zs (i + 3 * st))).set (i + st) (nth zs i + nth zs (i + st) - nth zs (i + 2 * st) - nth zs (i + 3 * st))).set (i + 2 * st) (nth zs i - nth zs (i + st) - nth zs (i + 2 * st) + nth zs (i + 3 * st))).set (i + 3 * st) (nth zs i - nth zs (i + st) + nth zs (i + 2 * st) - nth zs (i + 3 * st))
def bfR (zs : List Int) : Nat → List Int
 | 0 => zs
 | k + 1 => bfS (bfR zs k) (4 * k) 1
def bfC (zs : List Int) : Nat → List Int
 | 0 => zs
 | k + 1 => bfS (bfC zs k) k 4
theorem list16 {zs : List Int} (h : zs.length = 16) : ∃ a0 a1 a2 a3 a4 a5 a6 a7 a8 a9 a10 a11 a12 a13 a14 a15 : Int, zs = [a0, a1, a2, a3, a4, a5, a6, a7, a8, a9, a10, a11, a12, a13, a14, a15] := by
 match zs, h with
 | [a0, a1, a2, a3, a4, a5, a6, a7, a8, a9, a10, a11, a12, a13, a14, a15], _ => exact ⟨a0, a1, a2, a3, a4, a5, a6, a7, a8, a9, a10, a11, a12, a13, a14, a15, rfl⟩
theorem had_lit (a0 a1 a2 a3 a4 a5 a6 a7 a8 a9 a10 a11 a12 a13 a14 a15 : Int) : had [a0, a1, a2, a3, a4, a5, a6, a7, a8, a9, a10, a11, a12, a13, a14, a15] =
 [a0+a1+a2+a3+a4+a5+a6+a7+a8+a9+a10+a11+a12+a13+a14+a15,
  a0+a1-a2-a3+a4+a5-a6-a7+a8+a9-a10-a11+a12+a13-a14-a15,
  a0-a1-a2+a3+a4-a5-a6+a7+a8-a9-a10+a11+a12-a13-a14+a15,
  a0-a1+a2-a3+a4-a5+a6-a7+a8-a9+a10-a11+a12-a13+a14-a15,
  a0+a1+a2+a3+a4+a5+a6+a7-a8-a9-a10-a11-a12-a13-a14-a15,
  a0+a1-a2-a3+a4+a5-a6-a7-a8-a9+a10+a11-a12-a13+a14+a15,
  a0-a1-a2+a3+a4-a5-a6+a7-a8+a9+a10-a11-a12+a13+a14-a15,
  a0-a1+a2-a3+a4-a5+a6-a7-a8+a9-a10+a11-a12+a13-a14+a15,
  a0+a1+a2+a3-a4-a5-a6-a7-a8-a9-a10-a11+a12+a13+a14+a15,
  a0+a1-a2-a3-a4-a5+a6+a7-a8-a9+a10+a11+a12+a13-a14-a15,
  a0-a1-a2+a3-a4+a5+a6-a7-a8+a9+a10-a11+a12-a13-a14+a15,
  a0-a1+a2-a3-a4+a5-a6+a7-a8+a9-a10+a11+a12-a13+a14-a15,
  a0+a1+a2+a3-a4-a5-a6-a7+a8+a9+a10+a11-a12-a13-a14-a15,
  a0+a1-a2-a3-a4-a5+a6+a7+a8+a9-a10-a11-a12-a13+a14+a15,
  a0-a1-a2+a3-a4+a5+a6-a7+a8-a9-a10+a11-a12+a13+a14-a15,
  a0-a1+a2-a3-a4+a5-a6+a7+a8-a9+a10-a11-a12+a13-a14+a15] := by
 simp only [had, List.range, List.range.loop, List.map, sumZ, hadT, sgn, Nat.reduceDiv, Nat.reduceMod, Nat.reduceMul, Nat.reduceAdd, nth, List.getD_cons_succ, List.getD_cons_zero, List.cons.injEq, and_true]
 refine ⟨?_, ?_, ?_, ?_, ?_, ?_, ?_, ?_, ?_, ?_, ?_, ?_, ?_, ?_, ?_, ?_⟩ <;> omega
theorem bf_had {zs : List Int} (h : zs.length = 16) : bfC (bfR zs 4) 4 = had zs := by
 obtain ⟨a0, a1, a2, a3, a4, a5, a6, a7, a8, a9, a10, a11, a12, a13, a14, a15, rfl⟩ := list16 h
 rw [had_lit]
 simp only [bfC, bfR, bfS, Nat.reduceMul, Nat.reduceAdd, nth, List.getD_cons_succ, List.getD_cons_zero, List.set_cons_succ, List.set_cons_zero, List.cons.injEq, and_true]
 refine ⟨?_, ?_, ?_, ?_, ?_, ?_, ?_, ?_, ?_, ?_, ?_, ?_, ?_, ?_, ?_, ?_⟩ <;> omega
def ihad (b : List Int) : List Int := (had b).map fun n => (n + 8) / 16
end Go.Proofs.YtbnhaegidfbgbaaGreatDoor
namespace Go.Proofs.YtbnhaegidfbgbaaGreatDoor
open Go.RowKit
theorem own_gr {w w' : World} {base e size n b : Nat} {v : Value} {xs : List Value} (h : w.ownsRow base e size v n xs) (g : w.grownBy w' (some b)) (hb : b < base) : w'.ownsRow base e size v n xs := by
 refine h.kept g ?_
 cases hv : v.ownBlock with
 | none => exact .inl rfl
 | some k => right; have := (h.lt k hv).1; simp; omega
theorem own_ne_blk {w : World} {base e size n q : Nat} {v : Value} {xs : List Value} {arr : Array Value} {T : TypeId} (h : w.ownsRow base e size v n xs) (hq : w.heap[q]? = some (.cells arr T (0, 0))) (hne : e ≠ T) : v.ownBlock = none ∨ v.ownBlock ≠ some q := by
 rcases h.2 with ⟨rfl, -⟩ | ⟨g, cap, cur, rfl, -, p1, -⟩
 ·exact .inl rfl
 ·right
  intro he
  simp [Value.ownBlock] at he
  subst he
  rw [p1] at hq
  simp at hq
  exact hne hq.2
theorem blk_gr {w w' : World} {b : Nat} {o : Obj} {row : Option Nat} (h : w.heap[b]? = some o) (g : w.grownBy w' row) (hne : row ≠ some b) : w'.heap[b]? = some o := by
 rw [g.block b (lt_of_block h) (fun e => hne e.symm)]; exact h
end Go.Proofs.YtbnhaegidfbgbaaGreatDoor
namespace Go.Proofs.YtbnhaegidfbgbaaGreatDoor
open Go.RowKit
theorem i64_nat_ofInt (a : Nat) (ha : a < 9223372036854775808) : (BitVec.ofInt 64 (a : Int)).toNat = a := by
 rw [BitVec.ofInt_natCast, BitVec.toNat_ofNat]; exact Nat.mod_eq_of_lt (by omega)
theorem grown_ext {w w1 w2 : World} {row : Option Nat} (h : w.grownBy w1 row) (e : Ext w1 w2) : w.grownBy w2 row :=
 ⟨e.os.trans h.os, e.tape.trans h.tape, e.output.trans h.output, Nat.le_trans h.size e.size, fun k hk hr => (e.block k (Nat.lt_of_lt_of_le hk h.size)).trans (h.block k hk hr)⟩
theorem grown_refl (w : World) (row : Option Nat) : w.grownBy w row := ⟨rfl, rfl, rfl, Nat.le_refl _, fun _ _ _ => rfl⟩
end Go.Proofs.YtbnhaegidfbgbaaGreatDoor
namespace Go.Proofs.YtbnhaegidfbgbaaGreatDoor
open Go.RowKit
set_option maxHeartbeats 1000000
/-- A picture: its sides and its samples. -/
structure Pic where
 w : Int
 h : Int
 px : List Int
/-- All numbers are samples. -/
def smp (zs : List Int) : Prop := ∀ z ∈ zs, 0 ≤ z ∧ z ≤ 255
instance decSmp (zs : List Int) : Decidable (smp zs) := by unfold smp; infer_instance
def side (n : Int) : Prop := 8 ≤ n ∧ n ≤ 32 ∧ n % 8 = 0
instance decSide (n : Int) : Decidable (side n) := by unfold side; infer_instance
def Pic.valid (p : Pic) : Prop := side p.w ∧ side p.h ∧ (p.px.length : Int) = p.w * p.h ∧ smp p.px
instance decPicValid (p : Pic) : Decidable p.valid := by unfold Pic.valid; infer_instance
def pic0 : Pic := ⟨0, 0, []⟩
theorem smp_nth {zs : List Int} (h : smp zs) {i : Nat} (hi : i < zs.length) : 0 ≤ nth zs i ∧ nth zs i ≤ 255 := by
 rw [nth_eq _ _ hi]; exact h _ (List.getElem_mem hi)
theorem smp_of_nth {zs : List Int} (h : ∀ i, i < zs.length → 0 ≤ nth zs i ∧ nth zs i ≤ 255) : smp zs := by
 intro z hz
 obtain ⟨i, hi, rfl⟩ := List.getElem_of_mem hz
 rw [← nth_eq _ _ hi]
 exact h i hi
/-- The number of samples. -/
theorem area_le {a b : Int} (h1 : side a) (h2 : side b) : 64 ≤ a * b ∧ a * b ≤ 1024 := by
 obtain ⟨a1, a2, -⟩ := h1
 obtain ⟨b1, b2, -⟩ := h2
 constructor
 ·have := Int.mul_le_mul a1 b1 (by omega) (by omega); omega
 ·have := Int.mul_le_mul a2 b2 (by omega) (by omega); omega
theorem Pic.len_le {p : Pic} (h : p.valid) : 64 ≤ p.px.length ∧ p.px.length ≤ 1024 := by
 have := area_le h.1 h.2.1
 have := h.2.2.1
 omega
theorem sl_bound {w : World} {a : Option Addr} {n : Nat} {zs : List Int} (h : Sl w a n (zs.map (Value.int .i64))) (y : Addr) (hy : a = some y) (h0 : 0 < n) : y.block < w.heap.size := by
 obtain ⟨b, o, e, c⟩ := h.int h0
 rw [hy] at e
 simp only [Option.some.injEq] at e
 subst e
 exact World.block_lt_of_cell? w _ c
theorem szIntS_any (a : Option Addr) (c n : Nat) (left : Int) (w : World) (hn : n ≤ 9223372036854775807) (h0 : 0 ≤ left) (h1 : left ≤ 1048576) :
 Calls Tryz.prog 54 #[.slice a n c, .int .i64 left] w fun e w' => e = .returned (.int .i64 (if left - n < 0 then -1 else left - n)) ∧ w = w' := by
 go_enter Tryz.func54, Tryz.ntmps54
 by_cases h : left - n < 0
 ·rw [if_pos h]
  go_wp2
  go_ret
  exact ⟨rfl, rfl⟩
 ·rw [if_neg h]
  have hd : decide (left - (n : Int) < 0) = false := by simpa using h
  go_wp2
  go_ret
  exact ⟨rfl, rfl⟩
theorem szPicture_any (x y : Int) (a : Option Addr) (c n : Nat) (left : Int) (w : World) (hn : n ≤ 9223372036854775807) (h0 : 0 ≤ left) (h1 : left ≤ 1048576) :
 Calls Tryz.prog 15 #[.agg #[.int .i64 x, .int .i64 y, .slice a n c], .int .i64 left] w fun e w' => e = .returned (.int .i64 (if left - n < 0 then -1 else left - n)) ∧ Ext w w' := by
 go_enter Tryz.func15, Tryz.ntmps15
 go_wp2_with fail
 refine (szIntS_any a c n left _ hn h0 h1).mono ?_
 rintro e w1 ⟨rfl, rfl⟩
 by_cases h : left - n < 0
 ·rw [if_pos h]
  go_wp2
  go_ret
  refine ⟨rfl, ?_⟩
  (repeat (first | with_reducible exact Below.refl _ _ | assumption | with_reducible refine below_drewN ?_ _ | with_reducible refine Below.drew ?_ | with_reducible refine Below.setCell ?_ (by simp <;> omega) _ | with_reducible refine Ext.trans ?_ (Ext.alloc _ _)))
 ·rw [if_neg h]
  have hd : decide (left - (n : Int) < 0) = false := by simpa using h
  go_wp2
  go_ret
  refine ⟨rfl, ?_⟩
  (repeat (first | with_reducible exact Below.refl _ _ | assumption | with_reducible refine below_drewN ?_ _ | with_reducible refine Below.drew ?_ | with_reducible refine Below.setCell ?_ (by simp <;> omega) _ | with_reducible refine Ext.trans ?_ (Ext.alloc _ _)))
theorem size_Picture : (Tryz.prog.info? 25).map (·.size) = some 3 := by kernel_rfl
theorem toPicture_any (x y : Int) (a : Option Addr) (n c : Nat) (xs : List Int) (w : World) (hn : n < 2^45) (r : Sl w a n (xs.map (Value.int .i64))) :
 Calls Tryz.prog 17 #[.agg #[.int .i64 x, .int .i64 y, .slice a n c]] w fun e w' => ∃ a' c', e = .returned (.agg #[.int .i64 x, .int .i64 y, .slice a' n c']) ∧ w'.ownsRow w.heap.size 3 1 (.slice a' n c') n (xs.map (Value.int .i64)) ∧ Ext w w' := by
 go_enter Tryz.func17, Tryz.ntmps17
 have p1 := blk_alloc (blk_new (w.alloc (.cells #[.int .i64 x, .int .i64 y, .slice a n c] 43)) (.cells #[.int .i64 0, .int .i64 0, .slice none 0 0] 25)) (.cells #[.int .i64 x, .int .i64 y, .slice none 0 0] 25)
 have p2 := blk_new ((w.alloc (.cells #[.int .i64 x, .int .i64 y, .slice a n c] 43)).alloc (.cells #[.int .i64 0, .int .i64 0, .slice none 0 0] 25)) (.cells #[.int .i64 x, .int .i64 y, .slice none 0 0] 25)
 simp only [World.size_alloc] at p1 p2
 go_wp2_with fail
 refine (toIntS_any a c n xs _ hn (r.ext (by (repeat (first | with_reducible exact Below.refl _ _ | assumption | with_reducible refine below_drewN ?_ _ | with_reducible refine Below.drew ?_ | with_reducible refine Below.setCell ?_ (by simp <;> omega) _ | with_reducible refine Ext.trans ?_ (Ext.alloc _ _)))))).mono ?_
 rintro e w1 ⟨v, rfl, own1, e1⟩
 obtain ⟨a1, c1, rfl⟩ := owns_form own1
 have E1 : Ext w w1 := by refine Ext.trans ?_ e1; (repeat (first | with_reducible exact Below.refl _ _ | assumption | with_reducible refine below_drewN ?_ _ | with_reducible refine Below.drew ?_ | with_reducible refine Below.setCell ?_ (by simp <;> omega) _ | with_reducible refine Ext.trans ?_ (Ext.alloc _ _)))
 have q1 := e1.blk p1
 have q2 := e1.blk p2
 simp only [World.size_alloc] at own1
 clear p1 p2 e1
 obtain ⟨m0, m1, m2, m3, f0, f1, f2⟩ := bx3 q1
 obtain ⟨n0, n1, n2, n3, g0, g1, g2⟩ := bx3 q2
 have Q1 := Lib.hid q1
 clear q1 q2
 go_wp2
 refine bodyPost_ret (v := .agg #[.int .i64 x, .int .i64 y, .slice a1 n c1]) (results_cell_row rfl _ _ (w.heap.size + 1) 25 #[.int .i64 x, .int .i64 y, .slice a1 n c1] (0, 0) _ rfl (blk_set3 (blk_set_other Q1.out (by omega))) Tryz.underlying25 rfl size_Picture) rfl ⟨_, _, rfl, ?_, ?_⟩
 ·refine owns_mono (base := w.heap.size + 1 + 1 + 1) ?_ (by omega)
  (repeat refine ownsRow_setCell_below ?_ (by simp <;> omega) _)
  exact own1
 ·(repeat (with_reducible refine Below.setCell ?_ (by simp <;> omega) _))
  exact E1
theorem eqIntS_same (a1 a2 : Option Addr) (c1 c2 n : Nat) (xs : List Int) (w : World) (hn : n < 2^47) (r1 : Sl w a1 n (xs.map (Value.int .i64))) (r2 : Sl w a2 n (xs.map (Value.int .i64))) :
 Calls Tryz.prog 67 #[.slice a1 n c1, .slice a2 n c2] w fun e w' => e = .returned (.bool true) ∧ ∃ m, w' = w.drewN m := by
 refine (eqIntS_any a1 a2 c1 c2 n n xs xs w hn hn r1 r2).mono ?_
 rintro e w' ⟨rfl, h⟩
 exact ⟨by rw [decide_eq_true rfl], h⟩
theorem eqPicture_same (x y : Int) (a b : Option Addr) (c d n : Nat) (xs : List Int) (w : World) (hn : n < 2^45) (r1 : Sl w a n (xs.map (Value.int .i64))) (r2 : Sl w b n (xs.map (Value.int .i64))) :
 Calls Tryz.prog 20 #[.agg #[.int .i64 x, .int .i64 y, .slice a n c], .agg #[.int .i64 x, .int .i64 y, .slice b n d]] w fun e w' => e = .returned (.bool true) ∧ Ext w w' := by
 go_enter Tryz.func20, Tryz.ntmps20
 go_wp2_with fail
 refine (eqIntS_same a b c d n xs _ (by omega) (r1.ext (by (repeat (first | with_reducible exact Below.refl _ _ | assumption | with_reducible refine below_drewN ?_ _ | with_reducible refine Below.drew ?_ | with_reducible refine Below.setCell ?_ (by simp <;> omega) _ | with_reducible refine Ext.trans ?_ (Ext.alloc _ _))))) (r2.ext (by (repeat (first | with_reducible exact Below.refl _ _ | assumption | with_reducible refine below_drewN ?_ _ | with_reducible refine Below.drew ?_ | with_reducible refine Below.setCell ?_ (by simp <;> omega) _ | with_reducible refine Ext.trans ?_ (Ext.alloc _ _)))))).mono ?_
 rintro e w1 ⟨rfl, m, rfl⟩
 go_wp2
 go_ret
 refine ⟨rfl, ?_⟩
 (repeat (first | with_reducible exact Below.refl _ _ | assumption | with_reducible refine below_drewN ?_ _ | with_reducible refine Below.drew ?_ | with_reducible refine Below.setCell ?_ (by simp <;> omega) _ | with_reducible refine Ext.trans ?_ (Ext.alloc _ _)))
end Go.Proofs.YtbnhaegidfbgbaaGreatDoor
namespace Go.Proofs.YtbnhaegidfbgbaaGreatDoor
open Go.RowKit
set_option maxHeartbeats 400000
/-- The cells of a list of integers. -/
def ic (zs : List Int) : Array Value := (zs.map (Value.int .i64)).toArray
theorem ic_size (zs : List Int) : (ic zs).size = zs.length := by simp [ic]
theorem ic_toList (zs : List Int) : (ic zs).toList = zs.map (Value.int .i64) := by simp [ic]
theorem ic_get (zs : List Int) (i : Nat) (h : i < zs.length) : (ic zs)[i]? = some (.int .i64 (nth zs i)) := by simp [ic, nth, h]
/-- n of zs from off on. -/
def sub (zs : List Int) (off n : Nat) : List Int := (zs.drop off).take n
theorem sub_len (zs : List Int) (off n : Nat) (h : off + n ≤ zs.length) : (sub zs off n).length = n := by simp [sub]; omega
theorem sub_all (zs : List Int) (n : Nat) (h : zs.length = n) : sub zs 0 n = zs := by subst h; simp [sub]
theorem nth_sub (zs : List Int) (off n i : Nat) (h : i < n) : nth (sub zs off n) i = nth zs (off + i) := by
 simp [nth, sub, List.getD, List.getElem?_take, h, List.getElem?_drop]
theorem sub_one (zs : List Int) (i : Nat) (h : i < zs.length) : sub zs i 1 = [nth zs i] := by
 refine List.ext_getElem (by simp [sub]; omega) fun j h1 h2 => ?_
 have : j = 0 := by simp at h2; omega
 subst this
 simp [sub, nth, h]
theorem ic_extract (zs : List Int) (off n : Nat) : (ic zs).extract off (off + n) = ic (sub zs off n) := by
 apply Array.toList_inj.1
 rw [ic_toList]
 simp [ic, sub, List.extract, List.map_take, List.map_drop]
/-- ys laid over zs from off on. -/
def spl (zs : List Int) (off : Nat) (ys : List Int) : List Int := zs.take off ++ ys ++ zs.drop (off + ys.length)
theorem spl_len {zs ys : List Int} {off : Nat} (h : off + ys.length ≤ zs.length) : (spl zs off ys).length = zs.length := by simp [spl]; omega
theorem spl_all {zs ys : List Int} (h : ys.length = zs.length) : spl zs 0 ys = ys := by simp [spl, h]
theorem spl_nil (zs : List Int) (off : Nat) : spl zs off [] = zs := by simp [spl]
theorem spl_cons {zs ys : List Int} {off : Nat} {y : Int} (h : off < zs.length) : spl (zs.set off y) (off + 1) ys = spl zs off (y :: ys) := by
 unfold spl
 rw [List.take_set, List.drop_set_of_lt (by omega), List.take_succ_eq_append_getElem h, List.set_append_right _ _ (by simp; omega)]
 have e : off - (List.take off zs).length = 0 := by simp; omega
 rw [e]
 simp [Nat.add_assoc, Nat.add_comm 1]
theorem nth_set_same (zs : List Int) (i : Nat) (v : Int) (h : i < zs.length) : nth (zs.set i v) i = v := by simp [nth, h]
theorem nth_set_ne (zs : List Int) (i j : Nat) (v : Int) (h : i ≠ j) : nth (zs.set i v) j = nth zs j := by simp [nth, List.getD, h]
/-- Block b holds just the integers zs. -/
def IB (w : World) (b T : Nat) (zs : List Int) : Prop := w.heap[b]? = some (.cells (ic zs) T (0, 0))
theorem IB.lt {w : World} {b T : Nat} {zs : List Int} (h : IB w b T zs) : b < w.heap.size := lt_of_block h
theorem IB.cell {w : World} {b T : Nat} {zs : List Int} (h : IB w b T zs) {i : Nat} (hi : i < zs.length) : w.cell? ⟨b, i, none⟩ = some (.int .i64 (nth zs i)) := by
 have : w.heap[b]? = some (.cells (ic zs) T (0, 0)) := h
 simp only [World.cell?, this]
 simpa using ic_get zs i hi
theorem IB.frozen {w : World} {b T : Nat} {zs : List Int} (h : IB w b T zs) (i : Nat) : w.frozen? ⟨b, i, none⟩ = false := by
 have : w.heap[b]? = some (.cells (ic zs) T (0, 0)) := h
 simp [World.frozen?, this]
theorem IB.ext {w w' : World} {b T : Nat} {zs : List Int} (h : IB w b T zs) (e : Ext w w') : IB w' b T zs := e.blk h
theorem IB.alloc {w : World} {b T : Nat} {zs : List Int} (h : IB w b T zs) (o : Obj) : IB (w.alloc o) b T zs := blk_alloc h o
theorem IB.new (w : World) (T : Nat) (zs : List Int) : IB (w.alloc (.cells (ic zs) T)) w.heap.size T zs := blk_new w _
theorem IB.gr {w w' : World} {b T : Nat} {zs : List Int} {row : Option Nat} (h : IB w b T zs) (g : w.grownBy w' row) (hne : row ≠ some b) : IB w' b T zs := blk_gr h g hne
theorem IB.drewN {w : World} {b T : Nat} {zs : List Int} (h : IB w b T zs) (n : Nat) : IB (w.drewN n) b T zs := h
theorem IB.set {w : World} {b T : Nat} {zs : List Int} (h : IB w b T zs) (i : Nat) (v : Int) : IB (w.setCell ⟨b, i, none⟩ (.int .i64 v)) b T (zs.set i v) := by
 have h1 := heap_setCell_same w b i (ic zs) T (.int .i64 v) h
 have h2 : (ic zs).setIfInBounds i (.int .i64 v) = ic (zs.set i v) := by
  apply Array.toList_inj.1
  rw [ic_toList, Array.toList_setIfInBounds, ic_toList, List.map_set]
 rw [h2] at h1
 exact h1
theorem IB.set_other {w : World} {b c i T : Nat} {v : Value} {zs : List Int} (h : IB w b T zs) (hne : b ≠ c) : IB (w.setCell ⟨c, i, none⟩ v) b T zs := blk_set_other h hne
theorem gr_set (w : World) (B i : Nat) (v : Value) : w.grownBy (w.setCell ⟨B, i, none⟩ v) (some B) := ⟨rfl, rfl, rfl, by simp, fun k _ hk => heap_setCell_other w ⟨B, i, none⟩ k v (fun e => hk (by simp [e]))⟩
section
variable {P : Program}
theorem wpList_wanted {ops : Array Oper} {rest : List Oper} {o : Oper} {a : Act} {Q : Exit → Act → World → Prop} {w : World} (hw : Region.wanted o (yielded ops a.tmps) = true)
 (h : ∀ K : Act → World → Prop, (∀ a w, wpList P ops Q rest a w → K a w) → o.wp P a w K Q) : wpList P ops Q (o :: rest) a w :=
 wpList_step fun K hK => by rw [if_pos hw]; exact h K hK
theorem isAgg_of {ty : TypeId} {d : TypeDesc} (w : World) (hu : P.underlying ty = some d) (hd : (match d with | .struct _ | .array _ _ => true | _ => false) = true) : (isAgg ty).run P w = .ok true w := by
 unfold isAgg
 rw [Sem.run_bind, run_underlying hu w]
 cases d <;> simp_all
theorem run_loadVar_ib (w : World) {b T : Nat} {zs : List Int} (h : IB w b T zs) (ty : TypeId) (off n : Nat) (d : TypeDesc) (hu : P.underlying ty = some d) (hd : (match d with | .struct _ | .array _ _ => true | _ => false) = true) (hi : (P.info? ty).map (·.size) = some n) (hb : off + n ≤ zs.length) :
 (loadVar ty ⟨b, off, none⟩).run P w = .ok (.agg (ic (sub zs off n))) w := by
 have hl : (loadCells ⟨b, off, none⟩ ((sub zs off n).map (Value.int .i64)).length).run P w = .ok ((sub zs off n).map (Value.int .i64)).toArray w :=
  run_loadCells_list (P := P) w ⟨b, off, none⟩ _ (fun j v hv => by
   have hj : j < n := by
    have := (List.getElem?_eq_some_iff.1 hv).1
    simp [sub] at this; omega
   have hadd : (⟨b, off, none⟩ : Addr).add j = ⟨b, off + j, none⟩ := by rw [Addr.add_lit]
   rw [hadd, h.cell (by omega)]
   have e : ((sub zs off n).map (Value.int .i64))[j]? = some (.int .i64 (nth (sub zs off n) j)) := by
    have : j < (sub zs off n).length := by rw [sub_len _ _ _ hb]; exact hj
    simp [nth, this]
   rw [e, nth_sub _ _ _ _ hj] at hv
   exact hv)
 cases hq : P.info? ty with
 | none => simp [hq] at hi
 | some i =>
  have hs : i.size = n := by simpa [hq] using hi
  rw [List.length_map, sub_len _ _ _ hb] at hl
  simp [loadVar, Sem.run_bind, isAgg_of w hu hd, sizeOf, typeInfo, hq, hs, hl, ic]
/-- x := *p, p at off in a block of integers, the type an array or a struct of n cells. -/
theorem wpList_iload {ops : Array Oper} {rest : List Oper} {o : Oper} {a : Act} {w : World} {Q : Exit → Act → World → Prop} (ty : TypeId) (x : Operand) (ho : o.op = .load ty x) (hgd : Region.wanted o (yielded ops a.tmps) = true)
 {b T : Nat} {zs : List Int} (h : IB w b T zs) (off n : Nat) (hx : a.eval x = .pointer (some ⟨b, off, none⟩)) (d : TypeDesc)
 (hu : P.underlying ty = some d) (hd : (match d with | .struct _ | .array _ _ => true | _ => false) = true) (hi : (P.info? ty).map (·.size) = some n) (hb : off + n ≤ zs.length) (cs : Array Value) (hc : ic (sub zs off n) = cs)
 (hK : wpList P ops Q rest (a.put o.dst (.agg cs)) w) : wpList P ops Q (o :: rest) a w := by
 subst hc
 refine wpList_wanted hgd fun _ hK' => ?_
 unfold Oper.wp execOp
 simp only [ho, hx, Instr.loadAt, Instr.sureAddr, Sem.run_bind, Sem.run_pure, Result.andThen_ok, run_loadVar_ib w h ty off n d hu hd hi hb]
 exact hK' _ _ hK
theorem run_storeCells_ib {b T off : Nat} : ∀ (ys : List Int) (i : Nat) (zs : List Int) (w : World), IB w b T zs → off + i + ys.length ≤ zs.length →
 ∃ w', (storeCells ⟨b, off, none⟩ (ys.map (Value.int .i64)) i).run P w = .ok () w' ∧ IB w' b T (spl zs (off + i) ys) ∧ w.grownBy w' (some b)
 | [], i, zs, w, h, hl => ⟨w, by simp [storeCells], by rw [spl_nil]; exact h, World.grownBy.refl _ _⟩
 | y :: ys, i, zs, w, h, hl => by
  have hlt : off + i < zs.length := by simp at hl; omega
  have hadd : (⟨b, off, none⟩ : Addr).add i = ⟨b, off + i, none⟩ := by rw [Addr.add_lit]
  have hst : (store ((⟨b, off, none⟩ : Addr).add i) (.int .i64 y)).run P w = .ok () (w.setCell ⟨b, off + i, none⟩ (.int .i64 y)) := by
   rw [hadd, run_store P w _ (.int .i64 y) _ rfl, h.cell hlt]
   simp [h.frozen]
  obtain ⟨w', h1, h2, h3⟩ := run_storeCells_ib (off := off) ys (i + 1) (zs.set (off + i) y) _ (h.set (off + i) y) (by simp at hl ⊢; omega)
  refine ⟨w', ?_, ?_, grownBy_trans (gr_set _ _ _ _) h3⟩
  ·simp only [List.map_cons, storeCells, Sem.run_bind, hst, Result.andThen_ok, h1]
  ·rw [← spl_cons hlt]
   exact h2
/-- *p = y. -/
theorem wpList_istore {ops : Array Oper} {rest : List Oper} {o : Oper} {a : Act} {w : World} {Q : Exit → Act → World → Prop} (ty : TypeId) (x y : Operand) (ho : o.op = .store ty x y) (hgd : Region.wanted o (yielded ops a.tmps) = true)
 {b T : Nat} {zs : List Int} (h : IB w b T zs) (off n : Nat) (hx : a.eval x = .pointer (some ⟨b, off, none⟩)) (cs : Array Value) (hy : a.eval y = .agg cs) (ys : List Int) (hc : cs = ic ys)
 (hi : (P.info? ty).map (·.size) = some n) (hn : ys.length = n) (hb : off + n ≤ zs.length)
 (hK : ∀ w', IB w' b T (spl zs off ys) → w.grownBy w' (some b) → wpList P ops Q rest (a.put o.dst undef) w') : wpList P ops Q (o :: rest) a w := by
 subst hc hn
 refine wpList_wanted hgd fun _ hK' => ?_
 obtain ⟨w', h1, h2, h3⟩ := run_storeCells_ib (P := P) (off := off) ys 0 zs w h (by omega)
 have hs : (storeVar ty ⟨b, off, none⟩ (.agg (ic ys))).run P w = .ok () w' := by
  cases hq : P.info? ty with
  | none => simp [hq] at hi
  | some i =>
   have hs : i.size = ys.length := by simpa [hq] using hi
   simp [storeVar, sizeOf, typeInfo, hq, Value.cells, hs, ic_size, ic_toList, h1]
 unfold Oper.wp execOp
 simp only [ho, hx, hy, Instr.storeAt, Instr.sureAddr, Sem.run_bind, Sem.run_pure, Result.andThen_ok, hs]
 exact hK' _ _ (hK w' h2 h3)
/-- a[i], a an array value of integers. -/
theorem wpList_iindex {ops : Array Oper} {rest : List Oper} {o : Oper} {a : Act} {w : World} {Q : Exit → Act → World → Prop} (t : TypeId) (x ix : Operand) (ho : o.op = .index t x ix) (hgd : Region.wanted o (yielded ops a.tmps) = true)
 (zs : List Int) (hx : a.eval x = .agg (ic zs)) (k len : Nat) (z : Int) (hix : a.eval ix = .int .i64 z) (hz : z = (k : Int)) (e : TypeId) (hu : P.underlying t = some (.array len e)) (he : P.underlying e = some (.int .i64)) (hi : (P.info? e).map (·.size) = some 1) (hk : k < len) (hl : zs.length = len)
 (hK : wpList P ops Q rest (a.put o.dst (.int .i64 (nth zs k))) w) : wpList P ops Q (o :: rest) a w := by
 subst hz
 refine wpList_wanted hgd fun _ hK' => ?_
 have hag : (isAgg e).run P w = .ok false w := by
  unfold isAgg
  rw [Sem.run_bind, run_underlying he w]
  simp
 have hrun : (Instr.index t (.agg (ic zs)) (.int .i64 (k : Int))).run P w = .ok (.int .i64 (nth zs k)) w := by
  cases hq : P.info? e with
  | none => simp [hq] at hi
  | some i =>
   have hs : i.size = 1 := by simpa [hq] using hi
   have h1 := ic_get zs k (by omega)
   simp [Instr.index, asIntOf, run_underlying hu, hk, sizeOf, typeInfo, hq, hs, part, Sem.run_bind, hag, h1]
 unfold Oper.wp execOp
 simp only [ho, hx, hix, hrun, Sem.run_bind, Result.andThen_ok]
 exact hK' _ _ hK
/-- a[i], a an array value of arrays of m integers. -/
theorem wpList_iindexa {ops : Array Oper} {rest : List Oper} {o : Oper} {a : Act} {w : World} {Q : Exit → Act → World → Prop} (t : TypeId) (x ix : Operand) (ho : o.op = .index t x ix) (hgd : Region.wanted o (yielded ops a.tmps) = true)
 (zs : List Int) (hx : a.eval x = .agg (ic zs)) (k len m : Nat) (z : Int) (hix : a.eval ix = .int .i64 z) (hz : z = (k : Int)) (e : TypeId) (d : TypeDesc) (hu : P.underlying t = some (.array len e)) (he : P.underlying e = some d) (hd : (match d with | .struct _ | .array _ _ => true | _ => false) = true) (hi : (P.info? e).map (·.size) = some m) (hk : k < len)
 (hK : wpList P ops Q rest (a.put o.dst (.agg (ic (sub zs (k * m) m)))) w) : wpList P ops Q (o :: rest) a w := by
 subst hz
 refine wpList_wanted hgd fun _ hK' => ?_
 have hag := isAgg_of w he hd
 have hrun : (Instr.index t (.agg (ic zs)) (.int .i64 (k : Int))).run P w = .ok (.agg (ic (sub zs (k * m) m))) w := by
  cases hq : P.info? e with
  | none => simp [hq] at hi
  | some i =>
   have hs : i.size = m := by simpa [hq] using hi
   have h1 := ic_extract zs (k * m) m
   simp [Instr.index, asIntOf, run_underlying hu, hk, sizeOf, typeInfo, hq, hs, part, Sem.run_bind, hag, h1]
 unfold Oper.wp execOp
 simp only [ho, hx, hix, hrun, Sem.run_bind, Result.andThen_ok]
 exact hK' _ _ hK
end
end Go.Proofs.YtbnhaegidfbgbaaGreatDoor
namespace Go.Proofs.YtbnhaegidfbgbaaGreatDoor
open Go.RowKit
set_option maxHeartbeats 400000
/-- Every number is in -B..B. -/
def inB (B : Int) (zs : List Int) : Bool := zs.all fun z => decide (-B ≤ z) && decide (z ≤ B)
theorem inB_yes {B : Int} {zs : List Int} (h : ∀ j, j < zs.length → -B ≤ nth zs j ∧ nth zs j ≤ B) : inB B zs = true := by
 unfold inB
 rw [List.all_eq_true]
 intro z hz
 obtain ⟨j, hj, rfl⟩ := List.getElem_of_mem hz
 have := h j hj
 rw [nth_eq zs j hj] at this
 simp [this]
theorem inB_no {B : Int} {zs : List Int} {j : Nat} (hj : j < zs.length) (h : nth zs j < -B ∨ B < nth zs j) : inB B zs = false := by
 unfold inB
 rw [List.all_eq_false]
 refine ⟨zs[j], List.getElem_mem hj, ?_⟩
 rw [nth_eq zs j hj] at h
 simp
 omega
theorem inB_iff {B : Int} {zs : List Int} : inB B zs = true ↔ ∀ j, j < zs.length → -B ≤ nth zs j ∧ nth zs j ≤ B := by
 constructor
 ·intro h j hj
  refine Classical.byContradiction fun hn => ?_
  rw [inB_no hj (by omega)] at h
  cases h
 ·exact inB_yes
theorem size_A16 : (Tryz.prog.info? 29).map (·.size) = some 16 := by kernel_rfl
theorem size_int : (Tryz.prog.info? 3).map (·.size) = some 1 := by kernel_rfl
set_option maxRecDepth 100000 in
theorem impl_blockWithin_any (zs : List Int) (B : Int) (w : World) (hl : zs.length = 16) (hB : 0 ≤ B) (hB2 : B ≤ 1099511627776) :
 Calls Tryz.prog 105 #[.agg (ic zs), .int .i64 B] w fun e w' => e = .returned (.bool (inB B zs)) ∧ Ext w w' := by
 have H := IB.new w 29 zs
 have hsa := sub_all zs 16 hl
 have Hl := Lib.hid hl
 clear hl
 go_enter Tryz.func105, Tryz.ntmps105
 go_wp2_with (refine wpList_iload 29 _ rfl rfl H 0 16 rfl _ Tryz.underlying29 rfl size_A16 (by rw [Hl.out]; omega) _ (by rw [hsa]) ?_)
 go_loopw [8] (fun i wr => ∃ k : Nat, k ≤ 16 ∧ i = .int .i64 k ∧ Ext w wr ∧ Hid (∀ j, j < k → -B ≤ nth zs j ∧ nth zs j ≤ B)) (fun i _ => 16 - (intOf i).toNat)
 case atStart => exact ⟨0, by omega, rfl, Ext.alloc _ _, Lib.hid (fun j hj => by omega)⟩
 case round =>
  obtain ⟨k, hk, rfl, E2, hall⟩ := hrel
  clear H hsa
  by_cases hlt : k < 16
  ·by_cases h1 : nth zs k < -B
   ·have hno := Lib.hid (inB_no (B := B) (by rw [Hl.out]; exact hlt) (.inl h1))
    go_wp2_with (refine wpList_iindex _ _ _ rfl rfl zs rfl k 16 _ rfl rfl _ Tryz.underlying29 Tryz.underlying3 size_int hlt Hl.out ?_)
    go_ret
    exact ⟨(ret_bool hno.out).symm, E2⟩
   ·have hd1 : decide (nth zs k < -B) = false := by simpa using h1
    by_cases h2 : B < nth zs k
    ·have hno := Lib.hid (inB_no (B := B) (by rw [Hl.out]; exact hlt) (.inr h2))
     go_wp2_with (refine wpList_iindex _ _ _ rfl rfl zs rfl k 16 _ rfl rfl _ Tryz.underlying29 Tryz.underlying3 size_int hlt Hl.out ?_)
     go_ret
     exact ⟨(ret_bool hno.out).symm, E2⟩
    ·have hd2 : decide (B < nth zs k) = false := by simpa using h2
     have hall2 := Lib.hid (show ∀ j, j < k + 1 → -B ≤ nth zs j ∧ nth zs j ≤ B from fun j hj => by
      by_cases hjk : j = k
      ·subst hjk; omega
      ·exact hall.out j (by omega))
     go_wp2_with (refine wpList_iindex _ _ _ rfl rfl zs rfl k 16 _ rfl rfl _ Tryz.underlying29 Tryz.underlying3 size_int hlt Hl.out ?_)
     go_roundw
     case rel => exact ⟨k + 1, by omega, by go_num, E2, hall2⟩
     case measure => simp [intOf]; omega
  ·obtain rfl : k = 16 := by omega
   have hy := Lib.hid (inB_yes (B := B) (zs := zs) (by rw [Hl.out]; exact hall.out))
   go_wp2
   go_ret
   exact ⟨(ret_bool hy.out).symm, E2⟩
end Go.Proofs.YtbnhaegidfbgbaaGreatDoor
namespace Go.Proofs.YtbnhaegidfbgbaaGreatDoor
open Go.RowKit
set_option maxHeartbeats 400000
section
variable {P : Program}
/-- Elements of type e, of c integers each, are compared as lists. -/
def EqE (P : Program) (e : TypeId) (c : Nat) (d : Nat) : Prop := ∀ (w : World) (xs ys : List Int) (off : Nat), off + c ≤ xs.length → off + c ≤ ys.length →
 ∃ a b, (part e (ic xs) off).run P w = .ok a w ∧ (part e (ic ys) off).run P w = .ok b w ∧ (Op.equalIn d e a b).run P w = .ok (decide (sub xs off c = sub ys off c)) w
theorem EqE.int {e : TypeId} (he : P.underlying e = some (.int .i64)) (d : Nat) : EqE P e 1 (d + 1) := by
 intro w xs ys off h1 h2
 have hag : (isAgg e).run P w = .ok false w := by
  unfold isAgg
  rw [Sem.run_bind, run_underlying he w]
  simp
 refine ⟨.int .i64 (nth xs off), .int .i64 (nth ys off), ?_, ?_, ?_⟩
 ·simp [part, Sem.run_bind, hag, ic_get xs off (by omega)]
 ·simp [part, Sem.run_bind, hag, ic_get ys off (by omega)]
 ·rw [run_equalIn_int w d e .i64 .i64 _ _ he, sub_one xs off (by omega), sub_one ys off (by omega)]
  congr 1
  by_cases h : nth xs off = nth ys off
  ·simp [h]
  ·simp [h]
theorem eqItems_run {e : TypeId} {c d : Nat} (hE : EqE P e c d) (w : World) (xs ys : List Int) : ∀ (is : List Nat), (∀ i ∈ is, i * c + c ≤ xs.length ∧ i * c + c ≤ ys.length) →
 (Op.eqItems d e c (ic xs) (ic ys) is).run P w = .ok (decide (∀ i ∈ is, sub xs (i * c) c = sub ys (i * c) c)) w
 | [], _ => by simp [Op.eqItems]
 | i :: is, h => by
  obtain ⟨a, b, h1, h2, h3⟩ := hE w xs ys (i * c) (h i (by simp)).1 (h i (by simp)).2
  have ih := eqItems_run hE w xs ys is (fun j hj => h j (by simp [hj]))
  simp only [Op.eqItems, Sem.run_bind, h1, h2, h3, Result.andThen_ok]
  by_cases hs : sub xs (i * c) c = sub ys (i * c) c
  ·simp only [hs, decide_true, Bool.not_true, Bool.false_eq_true, if_false, ih]
   congr 1
   simp [hs]
  ·simp only [hs, decide_false, Bool.not_false, if_true, Sem.run_pure]
   congr 1
   simp [hs]
theorem sub_sub (zs : List Int) (o n p m : Nat) (h : p + m ≤ n) : sub (sub zs o n) p m = sub zs (o + p) m := by
 unfold sub
 rw [List.drop_take, List.drop_drop, List.take_take]
 congr 1
 omega
theorem sub_ext {xs ys : List Int} {o n c : Nat} (h1 : o + n * c ≤ xs.length) (h2 : o + n * c ≤ ys.length) : (∀ i ∈ List.range n, sub (sub xs o (n * c)) (i * c) c = sub (sub ys o (n * c)) (i * c) c) ↔ sub xs o (n * c) = sub ys o (n * c) := by
 constructor
 ·intro h
  refine ext_nth (by rw [sub_len _ _ _ h1, sub_len _ _ _ h2]) fun j hj => ?_
  rw [sub_len _ _ _ h1] at hj
  have hc : 0 < c := by
   rcases Nat.eq_zero_or_pos c with h0 | h0
   ·subst h0; simp at hj
   ·exact h0
  have hd : j / c < n := Nat.div_lt_of_lt_mul (by rw [Nat.mul_comm]; exact hj)
  have hm : j % c < c := Nat.mod_lt _ hc
  have e := h (j / c) (by simpa using hd)
  have e1 : j / c * c + j % c = j := by rw [Nat.mul_comm]; exact Nat.div_add_mod j c
  have e2 : nth (sub (sub xs o (n * c)) (j / c * c) c) (j % c) = nth (sub (sub ys o (n * c)) (j / c * c) c) (j % c) := by rw [e]
  rw [nth_sub _ _ _ _ hm, nth_sub _ _ _ _ hm, e1] at e2
  exact e2
 ·intro h i _
  rw [h]
theorem EqE.arr {t e : TypeId} {n c d : Nat} (ht : P.underlying t = some (.array n e)) (hi : (P.info? e).map (·.size) = some c) (hti : (P.info? t).map (·.size) = some (n * c)) (hE : EqE P e c d) : EqE P t (n * c) (d + 1) := by
 intro w xs ys off h1 h2
 cases hq : P.info? e with
 | none => simp [hq] at hi
 | some ii =>
  have hs : ii.size = c := by simpa [hq] using hi
  have hce : P.cellsOf e = c := by simp [Program.cellsOf, hq, hs]
  have hag := isAgg_of (P := P) w ht rfl
  cases hqt : P.info? t with
  | none => simp [hqt] at hti
  | some jj =>
   have hst : jj.size = n * c := by simpa [hqt] using hti
   refine ⟨.agg (ic (sub xs off (n * c))), .agg (ic (sub ys off (n * c))), ?_, ?_, ?_⟩
   ·simp [part, Sem.run_bind, hag, sizeOf, typeInfo, hqt, hst, ic_extract]
   ·simp [part, Sem.run_bind, hag, sizeOf, typeInfo, hqt, hst, ic_extract]
   ·rw [run_equalIn_array w d _ _ ht hq, hce, eqItems_run hE w _ _ (List.range n) (fun i hi' => by
     rw [sub_len _ _ _ h1, sub_len _ _ _ h2]
     have hin : i < n := by simpa using hi'
     have : (i + 1) * c ≤ n * c := Nat.mul_le_mul_right _ hin
     rw [Nat.succ_mul] at this
     exact ⟨this, this⟩)]
    congr 1
    exact decide_eq_decide.2 (sub_ext h1 h2)
/-- x == y, arrays of integers. -/
theorem run_eql_ints {t : TypeId} {n c : Nat} {e : TypeId} (ht : P.underlying t = some (.array n e)) (hi : (P.info? e).map (·.size) = some c) (hE : EqE P e c 9999) (w : World) (xs ys : List Int) (h1 : xs.length = n * c) (h2 : ys.length = n * c) :
 (Op.equalIn 10000 t (.agg (ic xs)) (.agg (ic ys))).run P w = .ok (decide (xs = ys)) w := by
 cases hq : P.info? e with
 | none => simp [hq] at hi
 | some ii =>
  have hs : ii.size = c := by simpa [hq] using hi
  have hce : P.cellsOf e = c := by simp [Program.cellsOf, hq, hs]
  rw [run_equalIn_array w 9999 _ _ ht hq, hce, eqItems_run hE w _ _ (List.range n) (fun i hi' => by
   rw [h1, h2]
   have hin : i < n := by simpa using hi'
   have : (i + 1) * c ≤ n * c := Nat.mul_le_mul_right _ hin
   rw [Nat.succ_mul] at this
   exact ⟨this, this⟩)]
  congr 1
  have e := sub_ext (xs := xs) (ys := ys) (o := 0) (n := n) (c := c) (by omega) (by omega)
  rw [sub_all xs _ h1, sub_all ys _ h2] at e
  exact decide_eq_decide.2 e
theorem wpList_ieql {ops : Array Oper} {rest : List Oper} {o : Oper} {a : Act} {w : World} {Q : Exit → Act → World → Prop} (t : TypeId) (x y : Operand) (t2 : TypeId) (ho : o.op = .binOp .eql t x y t2) (hgd : Region.wanted o (yielded ops a.tmps) = true)
 (cs ds : Array Value) (hx : a.eval x = .agg cs) (hy : a.eval y = .agg ds) (xs ys : List Int) (hcs : cs = ic xs) (hds : ds = ic ys) {n c : Nat} {e : TypeId} (ht : P.underlying t = some (.array n e)) (hi : (P.info? e).map (·.size) = some c) (hE : EqE P e c 9999) (h1 : xs.length = n * c) (h2 : ys.length = n * c)
 (hm : P.eqGuardType P.depth t = false) (r : Bool) (hr : decide (xs = ys) = r) (hK : wpList P ops Q rest (a.put o.dst (.bool r)) w) : wpList P ops Q (o :: rest) a w := by
 subst hcs hds hr
 refine wpList_wanted hgd fun _ hK' => ?_
 unfold Oper.wp execOp
 simp [ho, hx, hy, Sem.run_bind, run_eqGuard_agg w .eql t x y _ _ hm, run_eql_struct w t, run_eql_ints ht hi hE w xs ys h1 h2, Result.andThen]
 exact hK' _ _ hK
/-- [n]T{}, T an array of integers or an integer. -/
theorem wpList_izero {ops : Array Oper} {rest : List Oper} {o : Oper} {a : Act} {w : World} {Q : Exit → Act → World → Prop} (t : TypeId) (ho : o.op = .build t #[]) (hgd : Region.wanted o (yielded ops a.tmps) = true)
 {n c : Nat} {e : TypeId} (ht : P.underlying t = some (.array n e)) (hi : (P.info? e).map (·.size) = some c) (N : Nat) (hz : (P.info? t).map (·.zero) = some (some (.agg (ic (List.replicate N 0)))))
 (hK : wpList P ops Q rest (a.put o.dst (.agg (ic (List.replicate N 0)))) w) : wpList P ops Q (o :: rest) a w := by
 refine wpList_wanted hgd fun _ hK' => ?_
 cases hq : P.info? e with
 | none => simp [hq] at hi
 | some ii =>
  cases hqt : P.info? t with
  | none => simp [hqt] at hz
  | some jj =>
   have hzz : jj.zero = some (.agg (ic (List.replicate N 0))) := by simpa [hqt] using hz
   unfold Oper.wp execOp
   simp [ho, Instr.build, zeroValue, typeInfo, hqt, hzz, run_underlying ht, sizeOf, hq, Instr.fill, Value.cells, Sem.run_bind, Result.andThen]
   exact hK' _ _ hK
/-- n zeros. -/
def zl (n : Nat) : List Int := List.replicate n 0
theorem zl_len (n : Nat) : (zl n).length = n := by simp [zl]
/-- new(T), T of integers alone. -/
theorem wpList_iallocz {ops : Array Oper} {rest : List Oper} {o : Oper} {a : Act} {w : World} {Q : Exit → Act → World → Prop} (t : TypeId) (ho : o.op = .alloc t) (hgd : Region.wanted o (yielded ops a.tmps) = true)
 (N : Nat) (hz : (P.info? t).map (·.zero) = some (some (.agg (ic (zl N)))))
 (hK : wpList P ops Q rest (a.put o.dst (.pointer (some ⟨w.heap.size, 0, none⟩))) (w.alloc (.cells (ic (zl N)) t))) : wpList P ops Q (o :: rest) a w := by
 refine wpList_wanted hgd fun _ hK' => ?_
 cases hqt : P.info? t with
 | none => simp [hqt] at hz
 | some jj =>
  have hzz : jj.zero = some (.agg (ic (zl N))) := by simpa [hqt] using hz
  unfold Oper.wp execOp
  simp [ho, Instr.alloc, zeroValue, typeInfo, hqt, hzz, Value.cells, newVar, newRow, Sem.run_bind, Result.andThen]
  exact hK' _ _ hK
end
end Go.Proofs.YtbnhaegidfbgbaaGreatDoor
namespace Go.Proofs.YtbnhaegidfbgbaaGreatDoor
open Go.RowKit
set_option maxHeartbeats 400000
structure Mac where
 kind : Int
 x : Int
 y : Int
 modes : List Int
 lv : List Int
/-- Four modes, four blocks of sixteen levels. -/
structure Mac.ok (m : Mac) : Prop where
 modes : m.modes.length = 4
 lv : m.lv.length = 64
/-- The 71 integers of a macroblock. -/
def Mac.zs (m : Mac) : List Int := m.kind :: m.x :: m.y :: (m.modes ++ m.lv)
def mac0 : Mac := ⟨0, 0, 0, List.replicate 4 0, List.replicate 64 0⟩
theorem mac0_ok : mac0.ok := ⟨rfl, rfl⟩
theorem Mac.zs_len {m : Mac} (h : m.ok) : m.zs.length = 71 := by simp [Mac.zs, h.modes, h.lv]
theorem Mac.zs_kind (m : Mac) : nth m.zs 0 = m.kind := rfl
theorem Mac.zs_x (m : Mac) : nth m.zs 1 = m.x := rfl
theorem Mac.zs_y (m : Mac) : nth m.zs 2 = m.y := rfl
theorem Mac.zs_mv {m : Mac} : ic (sub m.zs 1 2) = #[.int .i64 m.x, .int .i64 m.y] := rfl
theorem Mac.zs_modes {m : Mac} (h : m.ok) : sub m.zs 3 4 = m.modes := by
 simp only [Mac.zs, sub, List.drop_succ_cons, List.drop_zero]
 rw [List.take_append_of_le_length (by rw [h.modes]; exact Nat.le_refl _), List.take_of_length_le (by rw [h.modes]; exact Nat.le_refl _)]
theorem Mac.zs_lv {m : Mac} (h : m.ok) : sub m.zs 7 64 = m.lv := by
 simp only [Mac.zs, sub, List.drop_succ_cons]
 rw [List.drop_append_of_le_length (by rw [h.modes]; exact Nat.le_refl _), List.drop_of_length_le (by rw [h.modes]; exact Nat.le_refl _), List.nil_append, List.take_of_length_le (by rw [h.lv]; exact Nat.le_refl _)]
theorem Mac.zs_blk {m : Mac} (h : m.ok) (k : Nat) (hk : k < 4) : sub m.zs (7 + k * 16) 16 = sub m.lv (k * 16) 16 := by
 rw [← Mac.zs_lv h, sub_sub _ _ _ _ _ (by omega)]
theorem Mac.nth_mode {m : Mac} (h : m.ok) (k : Nat) (hk : k < 4) : nth m.zs (3 + k) = nth m.modes k := by
 rw [← Mac.zs_modes h, nth_sub _ _ _ _ hk]
def zero4 : List Int := List.replicate 4 0
def zero64 : List Int := List.replicate 64 0
/-- What MacroValid asks. -/
def Mac.valid (m : Mac) : Prop := (0 ≤ m.kind ∧ m.kind ≤ 2) ∧ (-16 ≤ m.x ∧ m.x ≤ 16 ∧ -16 ≤ m.y ∧ m.y ≤ 16) ∧ (m.kind ≠ 1 → m.x = 0 ∧ m.y = 0) ∧ (m.kind ≠ 2 → m.modes = zero4) ∧ (m.kind = 2 → ∀ j, j < 4 → 0 ≤ nth m.modes j ∧ nth m.modes j ≤ 4) ∧ (m.kind = 0 → m.lv = zero64) ∧ inB 4080 m.lv = true
noncomputable instance (m : Mac) : Decidable m.valid := Classical.propDecidable _
/-- Blocks of sixteen: all within the bound. -/
theorem inB_blocks {B : Int} {zs : List Int} (h : zs.length = 64) : inB B zs = true ↔ ∀ k, k < 4 → inB B (sub zs (k * 16) 16) = true := by
 constructor
 ·intro hb k hk
  refine inB_yes fun j hj => ?_
  rw [sub_len _ _ _ (by omega)] at hj
  rw [nth_sub _ _ _ _ hj]
  exact inB_iff.1 hb _ (by omega)
 ·intro hb
  refine inB_yes fun j hj => ?_
  have h1 := inB_iff.1 (hb (j / 16) (by omega)) (j % 16) (by rw [sub_len _ _ _ (by omega)]; omega)
  rw [nth_sub _ _ _ _ (by omega), show j / 16 * 16 + j % 16 = j by omega] at h1
  exact h1
section
variable {P : Program}
theorem wpList_veql {ops : Array Oper} {rest : List Oper} {o : Oper} {a : Act} {w : World} {Q : Exit → Act → World → Prop} (t : TypeId) (x y : Operand) (t2 : TypeId) (ho : o.op = .binOp .eql t x y t2) (hgd : Region.wanted o (yielded ops a.tmps) = true)
 (cs ds : Array Value) (hx : a.eval x = .agg cs) (hy : a.eval y = .agg ds) (r : Bool) (hrun : ∀ w, (Op.equalIn 10000 t (.agg cs) (.agg ds)).run P w = .ok r w) (hm : P.eqGuardType P.depth t = false)
 (hK : wpList P ops Q rest (a.put o.dst (.bool r)) w) : wpList P ops Q (o :: rest) a w := by
 refine wpList_wanted hgd fun _ hK' => ?_
 unfold Oper.wp execOp
 simp [ho, hx, hy, Sem.run_bind, run_eqGuard_agg w .eql t x y _ _ hm, run_eql_struct w t, hrun, Result.andThen]
 exact hK' _ _ hK
end
/-- A valid vector. -/
def vv (x y : Int) : Prop := -16 ≤ x ∧ x ≤ 16 ∧ -16 ≤ y ∧ y ≤ 16
set_option maxRecDepth 100000 in
theorem vec_eq (x y : Int) (r : Bool) (hr : decide (x = 0 ∧ y = 0) = r) (w : World) : (Op.equalIn 10000 27 (.agg #[.int .i64 x, .int .i64 y]) (.agg #[.int .i64 0, .int .i64 0])).run Tryz.prog w = .ok r w := by
 have hf : Tryz.prog.underlying 27 = some (.struct (Tryz.prog.fieldsOf 27)) := by kernel_rfl
 have hp : Tryz.prog.stoodInHeld 27 = false := by kernel_rfl
 subst hr
 rw [run_equalIn_struct w 9999 _ _ _ hf hp]
 have hag : (isAgg 3).run Tryz.prog w = .ok false w := by
  unfold isAgg
  rw [Sem.run_bind, run_underlying Tryz.underlying3 w]
  simp
 have p1 : ∀ (u v : Int), (part 3 #[.int .i64 u, .int .i64 v] 0).run Tryz.prog w = .ok (.int .i64 u) w := fun u v => by simp [part, Sem.run_bind, hag]
 have p2 : ∀ (u v : Int), (part 3 #[.int .i64 u, .int .i64 v] 1).run Tryz.prog w = .ok (.int .i64 v) w := fun u v => by simp [part, Sem.run_bind, hag]
 have q : ∀ (u v : Int), (Op.equalIn 9999 3 (.int .i64 u) (.int .i64 v)).run Tryz.prog w = .ok (u == v) w := fun u v => run_equalIn_int w 9998 _ _ _ _ _ Tryz.underlying3
 simp only [Program.fieldsOf, Tryz.underlying27, Op.eqFields, Sem.run_bind, p1, p2, q, Result.andThen_ok]
 by_cases hx : x = 0
 ·subst hx
  by_cases hy : y = 0
  ·subst hy; simp [p1, p2, q, Result.andThen]
  ·simp [p1, p2, q, Result.andThen, hy]
 ·simp [p1, p2, q, Result.andThen, hx]
theorem guard_Vector : Tryz.prog.eqGuardType Tryz.prog.depth 27 = false := by kernel_rfl
theorem guard_A4 : Tryz.prog.eqGuardType Tryz.prog.depth 28 = false := by kernel_rfl
theorem guard_A16A4 : Tryz.prog.eqGuardType Tryz.prog.depth 30 = false := by kernel_rfl
theorem size_A4 : (Tryz.prog.info? 28).map (·.size) = some 4 := by kernel_rfl
theorem size_A16A4 : (Tryz.prog.info? 30).map (·.size) = some 64 := by kernel_rfl
theorem size_Vector : (Tryz.prog.info? 27).map (·.size) = some 2 := by kernel_rfl
theorem size_Macro : (Tryz.prog.info? 32).map (·.size) = some 71 := by kernel_rfl
theorem zero_A4 : (Tryz.prog.info? 28).map (·.zero) = some (some (.agg (ic (List.replicate 4 0)))) := by kernel_rfl
theorem zero_A16A4 : (Tryz.prog.info? 30).map (·.zero) = some (some (.agg (ic (List.replicate 64 0)))) := by kernel_rfl
theorem eqE_int : EqE Tryz.prog 3 1 9999 := EqE.int Tryz.underlying3 9998
theorem eqE_A16 : EqE Tryz.prog 29 16 9999 := EqE.arr (n := 16) Tryz.underlying29 size_int size_A16 (EqE.int Tryz.underlying3 9997)
theorem impl_VectorValid_yes (x y : Int) (w : World) (h : vv x y) :
 Calls Tryz.prog 48 #[.agg #[.int .i64 x, .int .i64 y]] w fun e w' => e = .returned (.bool true) ∧ Ext w w' := by
 obtain ⟨h1, h2, h3, h4⟩ := h
 go_enter Tryz.func48, Tryz.ntmps48
 go_wp2
 go_ret
 exact ⟨by first | rfl | (simp; done) | (simp; omega), Ext.alloc _ _⟩
theorem impl_VectorValid_no (x y : Int) (w : World) (h : ¬ vv x y) :
 Calls Tryz.prog 48 #[.agg #[.int .i64 x, .int .i64 y]] w fun e w' => e = .returned (.bool false) ∧ Ext w w' := by
 unfold vv at h
 by_cases h1 : -16 ≤ x
 ·by_cases h2 : x ≤ 16
  ·by_cases h3 : -16 ≤ y
   ·have h4 : ¬ y ≤ 16 := fun h4 => h ⟨h1, h2, h3, h4⟩
    clear h
    go_enter Tryz.func48, Tryz.ntmps48
    go_wp2
    go_ret
    exact ⟨by first | rfl | (simp; done) | (simp; omega), Ext.alloc _ _⟩
   ·clear h
    go_enter Tryz.func48, Tryz.ntmps48
    go_wp2
    go_ret
    exact ⟨by first | rfl | (simp; done) | (simp; omega), Ext.alloc _ _⟩
  ·clear h
   go_enter Tryz.func48, Tryz.ntmps48
   go_wp2
   go_ret
   exact ⟨by first | rfl | (simp; done) | (simp; omega), Ext.alloc _ _⟩
 ·clear h
  go_enter Tryz.func48, Tryz.ntmps48
  go_wp2
  go_ret
  exact ⟨by first | rfl | (simp; done) | (simp; omega), Ext.alloc _ _⟩
end Go.Proofs.YtbnhaegidfbgbaaGreatDoor
