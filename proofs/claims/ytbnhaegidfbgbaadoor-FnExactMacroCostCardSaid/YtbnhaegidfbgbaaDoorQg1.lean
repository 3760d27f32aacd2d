/- Vocabulary for the walks of this seat: what a slice reads as, what a call owns. | append onto a row of the call's own keeps each row no longer than it. | The helper functions of the exact laws, over lists of integers, bytes and bools: copy, compare, mark, hold. | Contracts: RefreshSchedule. | Rows of the call's own, kept. | Arrays and structs of integers as values and as blocks: load, store, index, equality, whatever their length. | Equality of arrays of integers (nested too); zero arrays. | Bit operations of i64 numbers that are not negative. | The program's scan order. | The length of a number in bits; rows of decisions and what stays beside them; the decisions for a number. -/
import Derived.Test.YtbnhaegidfbgbaaDoorRows
import Derived.WalkKit
import Derived.WalkSpells
import Derived.WalkLawsBesides
import Derived.Lib.Hide
import Derived.BigQuiet
import Derived.Deep.QuietTactic
import Derived.Deep.LoopGhost
import Derived.Deep.RegionHeld3
import Derived.Deep.RegionWith
import Derived.ChangeKeysEq
import Derived.Laws.Tables
import Derived.Laws.StructEq
import Derived.Laws.Bits64
import Derived.Lib.BitFns
import Derived.Lib.Strings
import Derived.Lib.Slices
import Derived.Lib.Small
import Derived.Lib.Walk
import Derived.Deep.Cut
import Derived.RangeFuncOwn
namespace Go.Proofs.YtbnhaegidfbgbaaDoor
open Go.RowKit
/-- The i-th number of a list, 0 past its end. -/
def nth (zs : List Int) (i : Nat) : Int := zs.getD i 0
def nthB (zs : List Bool) (i : Nat) : Bool := zs.getD i false
theorem nth_eq (zs : List Int) (i : Nat) (h : i < zs.length) : nth zs i = zs[i] := by simp [nth, h]
/-- The slice at address a of n one-cell elements reads as xs. -/
def Sl (w : World) (a : Option Addr) (n : Nat) (xs : List Value) : Prop :=
 xs.length = n ∧ ∀ i, i < n → ∃ b off, a = some ⟨b, off, none⟩ ∧ w.cell? ⟨b, off + i, none⟩ = some (xs.getD i undef)
/-- What was there stays as it was. -/
abbrev Ext (w w' : World) : Prop := Below w.heap.size w w'
theorem Ext.trans {a b c : World} (h : Ext a b) (k : Ext b c) : Ext a c := Below.trans h (Below.mono k h.size)
theorem Ext.drewN (w : World) (n : Nat) : Ext w (w.drewN n) := ⟨rfl, rfl, rfl, Nat.le_refl _, fun _ _ => rfl⟩
theorem Ext.trans_drewN {a b : World} (h : Ext a b) (n : Nat) : Ext a (b.drewN n) := Ext.trans h (Ext.drewN b n)
theorem Ext.grown {a w w' : World} {row : Option Nat} (h : Ext a w) (hg : w.grownBy w' row) (hr : ∀ k, row = some k → a.heap.size ≤ k) : Ext a w' :=
 Below.grown h hg h.size hr
theorem Ext.alloc (w : World) (o : Obj) : Ext w (w.alloc o) := Below.alloc (Below.refl _ _) (Nat.le_refl _) _
theorem cell_ext {w w' : World} {a : Addr} {v : Value} (e : Ext w w') (h : w.cell? a = some v) : w'.cell? a = some v := by
 rw [Below.cell e (World.block_lt_of_cell? w _ h)]; exact h
/-- A block known whole. -/
theorem Ext.blk {w w' : World} {b : Nat} {o : Obj} (e : Ext w w') (h : w.heap[b]? = some o) : w'.heap[b]? = some o := by
 rw [e.block b (lt_of_block h)]; exact h
theorem blk_alloc {w : World} {b : Nat} {o : Obj} (h : w.heap[b]? = some o) (x : Obj) : (w.alloc x).heap[b]? = some o := by
 rw [Below.heap_alloc _ _ _ (lt_of_block h)]; exact h
theorem blk_new (w : World) (o : Obj) : (w.alloc o).heap[w.heap.size]? = some o := heap_alloc_new w o
theorem blk_drewN {w : World} {b : Nat} {o : Obj} (h : w.heap[b]? = some o) (n : Nat) : (w.drewN n).heap[b]? = some o := h
theorem blk_set3 {w : World} {b : Nat} {x y z x' y' z' : Value} {T : TypeId} (h : w.heap[b]? = some (.cells #[x, y, z] T (0, 0))) : (((w.setCell ⟨b, 0, none⟩ x').setCell ⟨b, 1, none⟩ y').setCell ⟨b, 2, none⟩ z').heap[b]? = some (.cells #[x', y', z'] T (0, 0)) := by
 have h1 := heap_setCell_same w b 0 _ _ x' h
 have h2 := heap_setCell_same _ b 1 _ _ y' h1
 have h3 := heap_setCell_same _ b 2 _ _ z' h2
 simpa using h3
theorem blk_set_other {w : World} {b c i : Nat} {v : Value} {o : Obj} (h : w.heap[b]? = some o) (hne : b ≠ c) : (w.setCell ⟨c, i, none⟩ v).heap[b]? = some o := by
 rw [Below.heap_setCell _ _ _ _ hne]; exact h
theorem bx1 {w : World} {b : Nat} {x : Value} {T : TypeId} (h : w.heap[b]? = some (.cells #[x] T (0, 0))) : b < w.heap.size ∧ w.cell? ⟨b, 0, none⟩ = some x ∧ w.frozen? ⟨b, 0, none⟩ = false :=
 ⟨lt_of_block h, by simp [World.cell?, h], by simp [World.frozen?, h]⟩
theorem bx2 {w : World} {b : Nat} {x y : Value} {T : TypeId} (h : w.heap[b]? = some (.cells #[x, y] T (0, 0))) : b < w.heap.size ∧ w.cell? ⟨b, 0, none⟩ = some x ∧ w.cell? ⟨b, 1, none⟩ = some y ∧ w.frozen? ⟨b, 0, none⟩ = false ∧ w.frozen? ⟨b, 1, none⟩ = false :=
 ⟨lt_of_block h, by simp [World.cell?, h], by simp [World.cell?, h], by simp [World.frozen?, h], by simp [World.frozen?, h]⟩
theorem bx3 {w : World} {b : Nat} {x y z : Value} {T : TypeId} (h : w.heap[b]? = some (.cells #[x, y, z] T (0, 0))) : b < w.heap.size ∧ w.cell? ⟨b, 0, none⟩ = some x ∧ w.cell? ⟨b, 1, none⟩ = some y ∧ w.cell? ⟨b, 2, none⟩ = some z ∧ w.frozen? ⟨b, 0, none⟩ = false ∧ w.frozen? ⟨b, 1, none⟩ = false ∧ w.frozen? ⟨b, 2, none⟩ = false :=
 ⟨lt_of_block h, by simp [World.cell?, h], by simp [World.cell?, h], by simp [World.cell?, h], by simp [World.frozen?, h], by simp [World.frozen?, h], by simp [World.frozen?, h]⟩
theorem Sl.len {w : World} {a : Option Addr} {n : Nat} {xs : List Value} (h : Sl w a n xs) : xs.length = n := h.1
theorem Sl.ext {w w' : World} {a : Option Addr} {n : Nat} {xs : List Value} (h : Sl w a n xs) (e : Ext w w') : Sl w' a n xs := by
 refine ⟨h.1, fun i hi => ?_⟩
 obtain ⟨b, off, ha, hc⟩ := h.2 i hi
 exact ⟨b, off, ha, by rw [Below.cell e (World.block_lt_of_cell? w _ hc)]; exact hc⟩
theorem Sl.drewN {w : World} {a : Option Addr} {n : Nat} {xs : List Value} (h : Sl w a n xs) (m : Nat) : Sl (w.drewN m) a n xs := h
theorem Sl.grown {w w' : World} {a : Option Addr} {n : Nat} {xs : List Value} {row : Option Nat} (h : Sl w a n xs) (hg : w.grownBy w' row) (hr : ∀ x, a = some x → some x.block ≠ row) : Sl w' a n xs := by
 refine ⟨h.1, fun i hi => ?_⟩
 obtain ⟨b, off, ha, hc⟩ := h.2 i hi
 exact ⟨b, off, ha, hg.cell hc (hr ⟨b, off, none⟩ ha)⟩
theorem Sl.nil (w : World) (a : Option Addr) : Sl w a 0 [] := ⟨rfl, fun i hi => by omega⟩
theorem Sl.int {k : IntKind} {w : World} {a : Option Addr} {n : Nat} {zs : List Int} (h : Sl w a n (zs.map (Value.int k))) {i : Nat} (hi : i < n) :
 ∃ b off, a = some ⟨b, off, none⟩ ∧ w.cell? ⟨b, off + i, none⟩ = some (.int k (nth zs i)) := by
 obtain ⟨b, off, ha, hc⟩ := h.2 i hi
 have hl : i < zs.length := by have := h.1; simp at this; omega
 refine ⟨b, off, ha, ?_⟩
 rw [hc]; simp [nth, hl]
theorem Sl.bool {w : World} {a : Option Addr} {n : Nat} {zs : List Bool} (h : Sl w a n (zs.map Value.bool)) {i : Nat} (hi : i < n) :
 ∃ b off, a = some ⟨b, off, none⟩ ∧ w.cell? ⟨b, off + i, none⟩ = some (.bool (nthB zs i)) := by
 obtain ⟨b, off, ha, hc⟩ := h.2 i hi
 have hl : i < zs.length := by have := h.1; simp at this; omega
 refine ⟨b, off, ha, ?_⟩
 rw [hc]; simp [nthB, hl]
theorem Sl.int_len {k : IntKind} {w : World} {a : Option Addr} {n : Nat} {zs : List Int} (h : Sl w a n (zs.map (Value.int k))) : zs.length = n := by
 have := h.1; simpa using this
/-- An owned row reads as what is owned. -/
theorem Sl.of_owns {w : World} {base e n : Nat} {a : Option Addr} {cap : Nat} {xs : List Value} (h : w.ownsRow base e 1 (.slice a n cap) n xs) : Sl w a n xs := by
 refine ⟨by have := h.1; omega, fun i hi => ?_⟩
 rcases h.2 with ⟨_, h0⟩ | ⟨g, c, cur, hv, _⟩
 ·omega
 ·simp only [Value.slice.injEq] at hv
  obtain ⟨rfl, _, rfl⟩ := hv
  refine ⟨g, 0, rfl, ?_⟩
  have hl : i < xs.length := by have := h.1; omega
  rw [Nat.zero_add, h.cellAt i (by omega)]
  simp [hl]
theorem ext_nth {xs ys : List Int} (hl : xs.length = ys.length) (h : ∀ i, i < xs.length → nth xs i = nth ys i) : xs = ys := by
 apply List.ext_getElem hl
 intro i h1 h2
 have := h i h1
 rw [nth_eq _ _ h1, nth_eq _ _ h2] at this
 exact this
theorem take_snoc_nth (zs : List Int) (k : Nat) (h : k < zs.length) : zs.take (k + 1) = zs.take k ++ [nth zs k] := by
 rw [List.take_succ_eq_append_getElem h, nth_eq _ _ h]
theorem ret_bool {a b : Bool} (h : a = b) : Ending.returned (.bool a) = .returned (.bool b) := by rw [h]
theorem ret_int {k : IntKind} {a b : Int} (h : a = b) : Ending.returned (.int k a) = .returned (.int k b) := by rw [h]
/-- The first k of xs, behind them what ys has. -/
def mix (xs ys : List Value) (k : Nat) : List Value := xs.take k ++ ys.drop k
theorem mix_zero (xs ys : List Value) : mix xs ys 0 = ys := by simp [mix]
theorem mix_all (xs ys : List Value) (k : Nat) (h1 : xs.length = k) (h2 : ys.length = k) : mix xs ys k = xs := by
 unfold mix
 rw [List.take_of_length_le (by omega), List.drop_of_length_le (by omega), List.append_nil]
theorem mix_set (xs ys : List Value) (k : Nat) (h : xs.length = ys.length) (hk : k < xs.length) (u : Value) (hu : xs.getD k undef = u) : (mix xs ys k).set k u = mix xs ys (k + 1) := by
 subst hu
 have hl : (xs.take k).length = k := by simp; omega
 have hk' : k < ys.length := by omega
 unfold mix
 rw [List.drop_eq_getElem_cons hk', List.set_append_right _ _ (by omega), hl, Nat.sub_self, List.set_cons_zero, List.take_succ_eq_append_getElem hk, List.append_assoc]
 simp [hk]
theorem getD_map_int (k : IntKind) (zs : List Int) (i : Nat) (h : i < zs.length) : (zs.map (Value.int k)).getD i undef = .int k (nth zs i) := by simp [nth, h]
/-- A row of which n elements are owned is a slice of length n. -/
theorem owns_form {w : World} {base e size : Nat} {v : Value} {n : Nat} {xs : List Value} (h : w.ownsRow base e size v n xs) : ∃ a cap, v = .slice a n cap := by
 rcases h.2 with ⟨rfl, rfl⟩ | ⟨g, c, cur, rfl, _⟩
 ·exact ⟨none, 0, rfl⟩
 ·exact ⟨_, _, rfl⟩
theorem owns_get {w : World} {base e g n cap : Nat} {xs : List Value} (h : w.ownsRow base e 1 (.slice (some ⟨g, 0, none⟩) n cap) n xs) {j : Nat} (hj : j < n) : ∃ u, w.cell? ⟨g, j, none⟩ = some u ∧ xs[j]? = some u := by
 have hl : j < xs.length := by have := h.1; omega
 exact ⟨xs[j], by rw [h.cellAt j (by omega)]; simp [hl], by simp [hl]⟩
theorem owns_mono {w : World} {base base' e size : Nat} {v : Value} {n : Nat} {xs : List Value} (h : w.ownsRow base e size v n xs) (hb : base' ≤ base) : w.ownsRow base' e size v n xs := by
 obtain ⟨h1, h2⟩ := h
 refine ⟨h1, ?_⟩
 rcases h2 with h2 | ⟨g, cap, cur, hv, hg, r⟩
 ·exact .inl h2
 ·exact .inr ⟨g, cap, cur, hv, by omega, r⟩
theorem owns_ext {w w' : World} {base e size : Nat} {v : Value} {n : Nat} {xs : List Value} (h : w.ownsRow base e size v n xs) (x : Ext w w') : w'.ownsRow base e size v n xs := by
 obtain ⟨h1, h2⟩ := h
 refine ⟨h1, ?_⟩
 rcases h2 with h2 | ⟨g, cap, cur, hv, hg, r1, r2⟩
 ·exact .inl h2
 ·exact .inr ⟨g, cap, cur, hv, hg, x.blk r1, r2⟩
theorem grownBy_trans {a b c : World} {row : Option Nat} (h : a.grownBy b row) (k : b.grownBy c row) : a.grownBy c row :=
 ⟨k.os.trans h.os, k.tape.trans h.tape, k.output.trans h.output, Nat.le_trans h.size k.size, fun i hi hne => (k.block i (Nat.lt_of_lt_of_le hi h.size) hne).trans (h.block i hi hne)⟩
theorem owns_ge {w : World} {base e size : Nat} {v : Value} {n : Nat} {xs : List Value} (h : w.ownsRow base e size v n xs) : ∀ k, v.ownBlock = some k → base ≤ k := fun k hk => (h.lt k hk).1
/-- make([]T, n), T of one cell: n zeros are owned. -/
theorem wpList_mk {P : Program} (w : World) {ops : Array Oper} {rest : List Oper} {o : Oper} {a : Act} {Q : Exit → Act → World → Prop}
 (hg : o.guard = none) (l c : Operand) (t : TypeId) (hop : o.op = Op.makeSlice t l c)
 (e : TypeId) (z : Value) (bytes : Nat) (h1 : P.underlying t = some (.slice e)) (h2 : (P.info? e).map (fun i => (i.zero, i.size, i.bytes)) = some (some z, 1, bytes)) (hz1 : z.cells = #[z])
 (L : Int) (n : Nat) (hl : a.eval l = .int .i64 L) (hc : a.eval c = .int .i64 L) (hL : L = (n : Int)) (b2 : n * bytes ≤ 281474976710656) (b3 : n < 2 ^ 62)
 (hK : ∀ w', w'.ownsRow w.heap.size e 1 (.slice (some ⟨w.heap.size, 0, none⟩) n n) n (List.replicate n z) → w.grownBy w' none → wpList P ops Q rest (a.put o.dst (.slice (some ⟨w.heap.size, 0, none⟩) n n)) w') :
 wpList P ops Q (o :: rest) a w := by
 obtain ⟨i0, hi, hz0, hz1', hz2⟩ := info_parts h2
 refine wpList_make_full w hg l c t hop w.heap.size e i0 z 1 h1 hi hz0 hz1' .i64 .i64 L L n hl hc hL hL ?_ ?_ (Nat.le_refl _) ?_
 ·rw [hz2, Nat.mul_comm]; exact b2
 ·unfold maxLen; omega
 ·intro w' h3 h4
  refine hK w' ?_ h4
  rw [Nat.mul_one, hz1, toList_madeCells_one] at h3
  exact h3
/-- make([]T, 0, n): an owned row without elements. -/
theorem wpList_mk0 {P : Program} (w : World) {ops : Array Oper} {rest : List Oper} {o : Oper} {a : Act} {Q : Exit → Act → World → Prop}
 (hg : o.guard = none) (l c : Operand) (t : TypeId) (hop : o.op = Op.makeSlice t l c)
 (e : TypeId) (z : Value) (bytes : Nat) (h1 : P.underlying t = some (.slice e)) (h2 : (P.info? e).map (fun i => (i.zero, i.size, i.bytes)) = some (some z, 1, bytes))
 (L : Int) (n : Nat) (hl : a.eval l = .int .i64 0) (hc : a.eval c = .int .i64 L) (hL : L = (n : Int)) (b2 : n * bytes ≤ 281474976710656) (b3 : n < 2 ^ 62)
 (hK : ∀ w' v, w'.ownsRow w.heap.size e 1 v 0 [] → w.grownBy w' none → wpList P ops Q rest (a.put o.dst v) w') :
 wpList P ops Q (o :: rest) a w := by
 obtain ⟨i0, hi, hz0, hz1', hz2⟩ := info_parts h2
 refine wpList_make_own w hg l c t hop w.heap.size e i0 z 1 h1 hi hz0 hz1' .i64 .i64 L n hl hc hL ?_ ?_ (Nat.le_refl _) ?_
 ·rw [hz2, Nat.mul_comm]; exact b2
 ·unfold maxLen; omega
 ·intro w' h3 h4
  exact hK w' _ h3 h4
/-- append(s, x), x one new value of one cell in the block just laid. -/
theorem wpList_app {P : Program} (wr : World) {ops : Array Oper} {rest : List Oper} {o : Oper} {a : Act} {Q : Exit → Act → World → Prop} {base e : Nat} {v : Value} {n : Nat} {xs : List Value}
 (hown : wr.ownsRow base e 1 v n xs) (hbase : base ≤ wr.heap.size) (u : Value)
 (hg : o.guard = none) (s x : Operand) (t : TypeId) (ho : o.op = .call { callee := .builtin .append, args := #[s, x], argTypes := #[t, t] })
 (z : Value) (bytes : Nat) (h1 : P.underlying t = some (.slice e)) (h2 : (P.info? e).map (fun i => (i.zero, i.size, i.bytes)) = some (some z, 1, bytes)) (hz1 : z.cells.size = 1)
 (hs : a.eval s = v) (hx : a.eval x = .slice (some ⟨wr.heap.size, 0, none⟩) 1 1) (hu1 : u.oneCell' = true)
 (hb : (n + 1) * bytes ≤ 140737488355328) (hn : n < 2 ^ 62)
 (h : ∀ v' w', w'.ownsRow base e 1 v' (n + 1) (xs ++ [u]) → wr.grownBy w' v.ownBlock → v' ≠ .slice none 0 0 → wpList P ops Q rest (a.put o.dst v') w') : wpList P ops Q (o :: rest) a (wr.alloc (.cells #[u] e)) := by
 obtain ⟨i0, hi, hz0, hz1', hz2⟩ := info_parts h2
 refine wpList_append_own _ hg s x t ho base e i0 z 1 bytes h1 hi hz0 hz1' hz2 hz1 (by decide) v n xs hs (hown.alloc _) ⟨wr.heap.size, 0, none⟩ 1 1 [u] hx rfl ?_ ?_ ?_ hb ?_ ?_
 ·intro j q hq
  match j, hq with
  | 0, hq =>
   simp at hq
   subst hq
   simp [Addr.add, World.cell?_alloc_at]
 ·intro q hq; simp at hq; subst hq; exact hu1
 ·unfold maxLen; omega
 ·simp; omega
 ·intro v' w' a1 a2 a3
  exact h v' w' a1 (grownBy_trans (World.grownBy_alloc _ _ _) a2) (fun hv => by have := a3.1 hv; omega)
end Go.Proofs.YtbnhaegidfbgbaaDoor
namespace Go.Proofs.YtbnhaegidfbgbaaDoor
open Go.RowKit
section
variable {P : Program} (w : World)
theorem run_append_keep (base : Nat) (t ty e : TypeId) (i : TypeInfo) (z : Value) (size bytes : Nat) (ht : P.underlying t = some (.slice e)) (hi : P.info? e = some i) (hz : i.zero = some z)
 (hsize : i.size = size) (hby : i.bytes = bytes) (hzs : z.cells.size = size) (hsz : 0 < size)
 (v : Value) (n : Nat) (xs : List Value) (hown : w.ownsRow base e size v n xs)
 (a : Addr) (m c : Nat) (news : List Value) (hl : news.length = m * size) (hnews : ∀ j u, news[j]? = some u → w.cell? (a.add j) = some u) (h1 : ∀ u ∈ news, u.oneCell' = true)
 (h63 : n + m ≤ maxLen) (hbytes : (n + m) * bytes ≤ 140737488355328) (hbase : base ≤ w.heap.size) :
 ∃ v' w', (Builtin.append_ #[t, t] ty #[v, .slice (some a) m c]).run P w = .ok v' w' ∧ w'.ownsRow base e size v' (n + m) (xs ++ news) ∧ w.grownBy w' v.ownBlock ∧
  (∀ b' n' own xs', n' ≤ n → w.ownsRow b' e size own n' xs' → w'.ownsRow b' e size own n' xs') := by
 obtain ⟨v', w', hr, h2, h3, -⟩ := run_append_own (P := P) w base t ty e i z size bytes ht hi hz hsize hby hzs hsz v n xs hown a m c news hl hnews h1 h63 hbytes hbase
 refine ⟨v', w', hr, h2, h3, fun b' n' own xs' hn' ho => ?_⟩
 by_cases hne : own.ownBlock = none ∨ own.ownBlock ≠ v.ownBlock
 ·exact ho.kept h3 hne
 ·have hsm : n + m ≤ 9223372036854775807 := by simp only [maxLen] at h63; omega
  rcases id hown.2 with ⟨rfl, rfl⟩ | ⟨g, cap, cur, rfl, hbg, hg, hnc, hcm, hcs, htake⟩
  ·exact absurd (show own.ownBlock = none ∨ _ from by
    cases h : own.ownBlock with
    | none => exact .inl rfl
    | some q => exact .inr (by simp [Value.ownBlock])) hne
  ·subst hsize
   by_cases hroom : n + m ≤ cap
   ·have hfit : n * i.size + news.length ≤ cur.size := by rw [hl, hcs, ← Nat.add_mul]; exact Nat.mul_le_mul_right _ hroom
    have hr2 := run_append_room (P := P) w t ty e i ht hi g n cap cur hg a m c news hl hnews h1 hroom hfit
    rw [hr] at hr2
    simp only [Result.ok.injEq] at hr2
    obtain ⟨-, rfl⟩ := hr2
    rcases id ho.2 with ⟨rfl, -⟩ | ⟨g', cap', cur', rfl, hb', hg', hnc', hcm', hcs', htake'⟩
    ·exact absurd (.inl rfl) hne
    ·have hgg : g' = g := by
      have : ¬ (some g' : Option Nat) ≠ some g := fun h => hne (.inr h)
      simpa using this
     subst hgg
     rw [hg] at hg'
     simp only [Option.some.injEq, Obj.cells.injEq, and_true] at hg'
     subst hg'
     refine ⟨ho.1, .inr ⟨g', cap', _, rfl, hb', setRow_heap w g' cur _ e _ hg, hnc', hcm', ?_, ?_⟩⟩
     ·simp only [List.size_toArray, List.length_append, List.length_take, List.length_drop, Array.length_toList]
      omega
     ·have hle : n' * i.size ≤ n * i.size := Nat.mul_le_mul_right _ hn'
      have hlen : (cur.toList.take (n * i.size)).length = n * i.size := by
       rw [List.length_take, Array.length_toList]; omega
      rw [List.toList_toArray, List.append_assoc, List.take_append_of_le_length (by rw [hlen]; exact hle), List.take_take, Nat.min_eq_left hle]
      exact htake'
   ·have holds : ∀ j u, xs[j]? = some u → w.cell? ((⟨g, 0, none⟩ : Addr).add j) = some u := hown.cells (g := g) rfl
    have hr2 := run_append_grow (P := P) w t ty e i z ht hi hz ⟨g, 0, none⟩ n cap xs hown.1 holds a m c news hl hnews (by omega) (by omega) (growslice_fits (by omega) (by rw [hby]; exact hbytes))
    rw [hr] at hr2
    simp only [Result.ok.injEq] at hr2
    obtain ⟨-, rfl⟩ := hr2
    exact ho.kept (row := none) ⟨rfl, rfl, rfl, by simp, fun k hk _ => (World.grownBy_alloc w.drew _ none).block k hk (by simp)⟩ (by cases own.ownBlock <;> simp)
/-- an operation that is wanted. -/
theorem wpList_want {ops : Array Oper} {rest : List Oper} {o : Oper} {a : Act} {Q : Exit → Act → World → Prop} {w : World} (hw : Region.wanted o (yielded ops a.tmps) = true)
 (h : ∀ K : Act → World → Prop, (∀ a w, wpList P ops Q rest a w → K a w) → o.wp P a w K Q) : wpList P ops Q (o :: rest) a w :=
 wpList_step fun K hK => by rw [if_pos hw]; exact h K hK
theorem wpList_appk {ops : Array Oper} {rest : List Oper} {o : Oper} {a : Act} {Q : Exit → Act → World → Prop} {base e size : Nat} {v : Value} {n : Nat} {xs : List Value}
 (hw : Region.wanted o (yielded ops a.tmps) = true)
 (hown : w.ownsRow base e size v n xs) (hbase : base ≤ w.heap.size)
 (s x : Operand) (t : TypeId) (ho : o.op = .call { callee := .builtin .append, args := #[s, x], argTypes := #[t, t] })
 (z : Value) (bytes : Nat) (h1 : P.underlying t = some (.slice e)) (h2 : (P.info? e).map (fun i => (i.zero, i.size, i.bytes)) = some (some z, size, bytes)) (hz1 : z.cells.size = size) (hsz : 0 < size)
 (hs : a.eval s = v) (ad : Addr) (m c : Nat) (us : List Value) (hx : a.eval x = .slice (some ad) m c) (hl : us.length = m * size) (hcell : ∀ (j : Nat) q, us[j]? = some q → w.cell? (ad.add j) = some q) (hu1 : ∀ u ∈ us, u.oneCell' = true)
 (hb : (n + m) * bytes ≤ 140737488355328) (hn : n + m < 2 ^ 62)
 (h : ∀ v' w', w'.ownsRow base e size v' (n + m) (xs ++ us) → w.grownBy w' v.ownBlock → (∀ b' n' own xs', n' ≤ n → w.ownsRow b' e size own n' xs' → w'.ownsRow b' e size own n' xs') → wpList P ops Q rest (a.put o.dst v') w') : wpList P ops Q (o :: rest) a w := by
 obtain ⟨i0, hi, hz0, hz1', hz2⟩ := info_parts h2
 obtain ⟨v', w', hr, k2, k3, k4⟩ := run_append_keep (P := P) w base t o.type e i0 z size bytes h1 hi hz0 hz1' hz2 hz1 hsz v n xs hown ad m c us hl hcell hu1 (by unfold maxLen; omega) hb hbase
 refine wpList_want hw fun K hK => ?_
 unfold Oper.wp execOp
 simp only [ho, resolve, invoke, builtin, Sem.run_bind, Sem.run_pure, Result.andThen_ok, List.map_toArray, List.map_cons, List.map_nil, hs, hx, hr]
 exact hK _ _ (h v' w' k2 k3 k4)
/-- append that does not fit. -/
theorem wpList_appn {ops : Array Oper} {rest : List Oper} {o : Oper} {a : Act} {Q : Exit → Act → World → Prop} {base e size g cap : Nat} {n : Nat} {xs : List Value}
 (hw : Region.wanted o (yielded ops a.tmps) = true)
 (hown : w.ownsRow base e size (.slice (some ⟨g, 0, none⟩) n cap) n xs) (hbase : base ≤ w.heap.size)
 (s x : Operand) (t : TypeId) (ho : o.op = .call { callee := .builtin .append, args := #[s, x], argTypes := #[t, t] })
 (z : Value) (bytes : Nat) (h1 : P.underlying t = some (.slice e)) (h2 : (P.info? e).map (fun i => (i.zero, i.size, i.bytes)) = some (some z, size, bytes)) (hz1 : z.cells.size = size) (hsz : 0 < size)
 (hs : a.eval s = .slice (some ⟨g, 0, none⟩) n cap) (ad : Addr) (m c : Nat) (us : List Value) (hx : a.eval x = .slice (some ad) m c) (hl : us.length = m * size) (hcell : ∀ (j : Nat) q, us[j]? = some q → w.cell? (ad.add j) = some q) (hu1 : ∀ u ∈ us, u.oneCell' = true)
 (hb : (n + m) * bytes ≤ 140737488355328) (hn : n + m < 2 ^ 62) (hcap : cap < n + m)
 (h : ∀ v' w', w'.ownsRow base e size v' (n + m) (xs ++ us) → Ext w w' → wpList P ops Q rest (a.put o.dst v') w') : wpList P ops Q (o :: rest) a w := by
 obtain ⟨i0, hi, hz0, hz1', hz2⟩ := info_parts h2
 obtain ⟨v', w', hr, k2, k3, k4⟩ := run_append_keep (P := P) w base t o.type e i0 z size bytes h1 hi hz0 hz1' hz2 hz1 hsz _ n xs hown ad m c us hl hcell hu1 (by unfold maxLen; omega) hb hbase
 have hE : Ext w w' := by
  subst hz1'
  have holds : ∀ j u, xs[j]? = some u → w.cell? ((⟨g, 0, none⟩ : Addr).add j) = some u := hown.cells (g := g) rfl
  have hr2 := run_append_grow (P := P) w t o.type e i0 z h1 hi hz0 ⟨g, 0, none⟩ n cap xs hown.1 holds ad m c us hl hcell (by omega) (by omega) (growslice_fits (by omega) (by rw [hz2]; exact hb))
  rw [hr] at hr2
  simp only [Result.ok.injEq] at hr2
  obtain ⟨-, rfl⟩ := hr2
  exact (Ext.drewN w 1).trans (Ext.alloc _ _)
 refine wpList_want hw fun K hK => ?_
 unfold Oper.wp execOp
 simp only [ho, resolve, invoke, builtin, Sem.run_bind, Sem.run_pure, Result.andThen_ok, List.map_toArray, List.map_cons, List.map_nil, hs, hx, hr]
 exact hK _ _ (h v' w' k2 hE)
end
end Go.Proofs.YtbnhaegidfbgbaaDoor
namespace Go.Proofs.YtbnhaegidfbgbaaDoor
open Go.RowKit
set_option maxHeartbeats 400000
theorem info_int : (Tryd.prog.info? 3).map (fun i => (i.zero, i.size, i.bytes)) = some (some (.int .i64 0), 1, 8) := by kernel_rfl
/-- toIntS copies. -/
theorem toIntS_any (a : Option Addr) (c n : Nat) (xs : List Int) (w : World) (hn : n < 2^45)
 (r : Sl w a n (xs.map (Value.int .i64))) :
 Calls Tryd.prog 63 #[.slice a n c] w fun e w' => ∃ v, e = .returned v ∧ w'.ownsRow w.heap.size 3 1 v n (xs.map (Value.int .i64)) ∧ Ext w w' := by
 go_enter Tryd.func63, Tryd.ntmps63
 go_wp2_with (at_make; refine wpList_mk _ rfl _ _ 23 rfl 3 (.int .i64 0) 8 Tryd.underlying23 info_int rfl _ n rfl rfl rfl (by omega) (by omega) ?_; intro w1 hown hgrow)
 have E1 : Ext w w1 := (Ext.grown (Below.refl _ _) hgrow (by simp))
 have H0 := mix_zero (xs.map (Value.int .i64)) (List.replicate n (.int .i64 0))
 rw [← H0] at hown
 clear H0 hgrow
 go_loopw [4] (fun i wr => ∃ k : Nat, k ≤ n ∧ i = .int .i64 k ∧ Ext w wr ∧ wr.ownsRow w.heap.size 3 1 (.slice (some ⟨w.heap.size, 0, none⟩) n n) n (mix (xs.map (Value.int .i64)) (List.replicate n (.int .i64 0)) k)) (fun i _ => n - (intOf i).toNat)
 case atStart => exact ⟨0, by omega, rfl, E1, hown⟩
 case round =>
  obtain ⟨k, hk, rfl, E2, hown2⟩ := hrel
  clear hown E1
  by_cases hlt : k < n
  ·obtain ⟨b1, o1, rfl, g1⟩ := (r.ext E2).int hlt
   obtain ⟨u, g2, -⟩ := owns_get hown2 hlt
   have g3 := hown2.frozenAt k
   go_wp2
   go_roundw
   case rel =>
    obtain ⟨o2, gr⟩ := hown2.stored k ((Value.int .i64) (nth xs k))
    rw [mix_set _ _ k (by simp [r.int_len]) (by simp [r.int_len, hlt]) _ (getD_map_int _ _ _ (by rw [r.int_len]; exact hlt))] at o2
    exact ⟨k + 1, by omega, rfl, Ext.grown E2 gr (by simp), o2⟩
   case measure => simp [intOf]; omega
  ·obtain rfl : k = n := by omega
   rw [mix_all _ _ k (by simp [r.int_len]) (by simp)] at hown2
   go_wp2
   go_ret
   exact ⟨_, rfl, hown2, E2⟩
theorem eqIntS_eq (a1 a2 : Option Addr) (c1 c2 n : Nat) (xs ys : List Int) (w : World) (hn : n < 2^47)
 (r1 : Sl w a1 n (xs.map (Value.int .i64))) (r2 : Sl w a2 n (ys.map (Value.int .i64))) :
 Calls Tryd.prog 67 #[.slice a1 n c1, .slice a2 n c2] w fun e w' => e = .returned (.bool (decide (xs = ys))) ∧ ∃ m, w' = w.drewN m := by
 go_enter Tryd.func67, Tryd.ntmps67
 go_wp2
 go_loopw [5] (fun i wr => ∃ k : Nat, k ≤ n ∧ i = .int .i64 k ∧ (∃ m, wr = w.drewN m) ∧ ∀ j, j < k → nth xs j = nth ys j) (fun i _ => n - (intOf i).toNat)
 case atStart => exact ⟨0, by omega, rfl, ⟨0, rfl⟩, by intro j hj; omega⟩
 case round =>
  obtain ⟨k, hk, rfl, ⟨m, rfl⟩, heq⟩ := hrel
  have Heq := Lib.hid heq
  clear heq
  by_cases hlt : k < n
  ·obtain ⟨b1, o1, rfl, g1⟩ := r1.int hlt
   obtain ⟨b2, o2, rfl, g2⟩ := r2.int hlt
   go_wp2
   go_quiet (fail)
   go_wp2
   ·have hne : nth xs k ≠ nth ys k := bne_iff_ne.1 (by assumption)
    go_ret
    exact ⟨ret_bool (by simp; intro h; exact hne (by rw [h])), m + nq, by simp⟩
   ·have he : nth xs k = nth ys k := by simpa using (by assumption : (nth xs k != nth ys k) = false)
    go_roundw
    case rel => exact ⟨k + 1, by omega, rfl, ⟨_, rfl⟩, fun j hj => by
     rcases Nat.lt_succ_iff_lt_or_eq.1 hj with h | rfl
     ·exact Heq.out j h
     ·exact he⟩
    case measure => simp [intOf]; omega
  ·obtain rfl : k = n := by omega
   go_wp2
   go_ret
   exact ⟨ret_bool (by simp; exact ext_nth (by rw [r1.int_len, r2.int_len]) (fun i hi => Heq.out i (by rw [r1.int_len] at hi; exact hi))), _, rfl⟩
theorem eqIntS_ne (a1 a2 : Option Addr) (c1 c2 n n2 : Nat) (w : World) (_hn : n < 2^47) (_hn2 : n2 < 2^47) (hne : ((n : Int) != n2) = true) :
 Calls Tryd.prog 67 #[.slice a1 n c1, .slice a2 n2 c2] w fun e w' => e = .returned (.bool false) ∧ w = w' := by
 go_enter Tryd.func67, Tryd.ntmps67
 go_wp2
 go_ret
 exact ⟨rfl, rfl⟩
/-- eqIntS: equality of two lists. -/
theorem eqIntS_any (a1 a2 : Option Addr) (c1 c2 n n2 : Nat) (xs ys : List Int) (w : World) (hn : n < 2^47) (hn2 : n2 < 2^47)
 (r1 : Sl w a1 n (xs.map (Value.int .i64))) (r2 : Sl w a2 n2 (ys.map (Value.int .i64))) :
 Calls Tryd.prog 67 #[.slice a1 n c1, .slice a2 n2 c2] w fun e w' => e = .returned (.bool (decide (xs = ys))) ∧ ∃ m, w' = w.drewN m := by
 by_cases h : n = n2
 ·subst h
  exact eqIntS_eq a1 a2 c1 c2 n xs ys w hn r1 r2
 ·refine (eqIntS_ne a1 a2 c1 c2 n n2 w hn hn2 (by simp; omega)).mono fun e w' he => ?_
  obtain ⟨rfl, rfl⟩ := he
  refine ⟨ret_bool ?_, 0, rfl⟩
  symm
  simp
  rintro rfl
  exact h (by rw [← r1.int_len, ← r2.int_len])
/-- The numbers from k on. -/
def marks (k : Int) (n : Nat) : List Int := (List.range n).map fun (i : Nat) => k + (i : Int)
end Go.Proofs.YtbnhaegidfbgbaaDoor
namespace Go.Proofs.YtbnhaegidfbgbaaDoor
open Go.RowKit
set_option maxHeartbeats 400000
theorem l1In_yes (n lo hi : Int) (w : World) (h1 : lo ≤ n) (h2 : n ≤ hi) :
 Calls Tryd.prog 51 #[.int .i64 n, .int .i64 lo, .int .i64 hi] w fun e w' => e = .returned (.bool true) ∧ w = w' := by
 go_enter Tryd.func51, Tryd.ntmps51
 go_wp2
 go_ret
 exact ⟨by simp, rfl⟩
theorem l1In_no (n lo hi : Int) (w : World) (h1 : n < lo ∨ hi < n) :
 Calls Tryd.prog 51 #[.int .i64 n, .int .i64 lo, .int .i64 hi] w fun e w' => e = .returned (.bool false) ∧ w = w' := by
 by_cases h : lo ≤ n
 ·have h2 : ¬ n ≤ hi := by omega
  go_enter Tryd.func51, Tryd.ntmps51
  go_wp2
  go_ret
  exact ⟨by simp, rfl⟩
 ·go_enter Tryd.func51, Tryd.ntmps51
  go_wp2
  go_ret
  exact ⟨rfl, rfl⟩
end Go.Proofs.YtbnhaegidfbgbaaDoor
namespace Go.Proofs.YtbnhaegidfbgbaaDoor
open Go.RowKit
theorem own_gr {w w' : World} {base e size n b : Nat} {v : Value} {xs : List Value} (h : w.ownsRow base e size v n xs) (g : w.grownBy w' (some b)) (hb : b < base) : w'.ownsRow base e size v n xs := by
 refine h.kept g ?_
 cases hv : v.ownBlock with
 | none => exact .inl rfl
 | some k => right; have := (h.lt k hv).1; simp; omega
theorem blk_gr {w w' : World} {b : Nat} {o : Obj} {row : Option Nat} (h : w.heap[b]? = some o) (g : w.grownBy w' row) (hne : row ≠ some b) : w'.heap[b]? = some o := by
 rw [g.block b (lt_of_block h) (fun e => hne e.symm)]; exact h
end Go.Proofs.YtbnhaegidfbgbaaDoor
namespace Go.Proofs.YtbnhaegidfbgbaaDoor
open Go.RowKit
set_option maxHeartbeats 400000
/-- The cells of a list of integers. -/
def ic (zs : List Int) : Array Value := (zs.map (Value.int .i64)).toArray
theorem ic_size (zs : List Int) : (ic zs).size = zs.length := by simp [ic]
theorem ic_toList (zs : List Int) : (ic zs).toList = zs.map (Value.int .i64) := by simp [ic]
theorem ic_get (zs : List Int) (i : Nat) (h : i < zs.length) : (ic zs)[i]? = some (.int .i64 (nth zs i)) := by simp [ic, nth, h]
/-- n of zs from off on. -/
def sub (zs : List Int) (off n : Nat) : List Int := (zs.drop off).take n
theorem sub_len (zs : List Int) (off n : Nat) (h : off + n ≤ zs.length) : (sub zs off n).length = n := by simp [sub]; omega
theorem sub_all (zs : List Int) (n : Nat) (h : zs.length = n) : sub zs 0 n = zs := by subst h; simp [sub]
theorem nth_sub (zs : List Int) (off n i : Nat) (h : i < n) : nth (sub zs off n) i = nth zs (off + i) := by
 simp [nth, sub, List.getD, List.getElem?_take, h, List.getElem?_drop]
theorem sub_one (zs : List Int) (i : Nat) (h : i < zs.length) : sub zs i 1 = [nth zs i] := by
 refine List.ext_getElem (by simp [sub]; omega) fun j h1 h2 => ?_
 have : j = 0 := by simp at h2; omega
 subst this
 simp [sub, nth, h]
theorem ic_extract (zs : List Int) (off n : Nat) : (ic zs).extract off (off + n) = ic (sub zs off n) := by
 apply Array.toList_inj.1
 rw [ic_toList]
 simp [ic, sub, List.extract, List.map_take, List.map_drop]
/-- ys laid over zs from off on. -/
def spl (zs : List Int) (off : Nat) (ys : List Int) : List Int := zs.take off ++ ys ++ zs.drop (off + ys.length)
theorem spl_len {zs ys : List Int} {off : Nat} (h : off + ys.length ≤ zs.length) : (spl zs off ys).length = zs.length := by simp [spl]; omega
theorem spl_all {zs ys : List Int} (h : ys.length = zs.length) : spl zs 0 ys = ys := by simp [spl, h]
theorem spl_nil (zs : List Int) (off : Nat) : spl zs off [] = zs := by simp [spl]
theorem spl_cons {zs ys : List Int} {off : Nat} {y : Int} (h : off < zs.length) : spl (zs.set off y) (off + 1) ys = spl zs off (y :: ys) := by
 unfold spl
 rw [List.take_set, List.drop_set_of_lt (by omega), List.take_succ_eq_append_getElem h, List.set_append_right _ _ (by simp; omega)]
 have e : off - (List.take off zs).length = 0 := by simp; omega
 rw [e]
 simp [Nat.add_assoc, Nat.add_comm 1]
theorem nth_spl_in {zs ys : List Int} {off i : Nat} (h : off + ys.length ≤ zs.length) (h1 : off ≤ i) (h2 : i < off + ys.length) : nth (spl zs off ys) i = nth ys (i - off) := by
 have hl : (List.take off zs).length = off := by simp; omega
 unfold nth spl
 rw [List.append_assoc, List.getD_eq_getElem?_getD, List.getElem?_append_right (by rw [hl]; exact h1), hl, List.getElem?_append_left (by omega), ← List.getD_eq_getElem?_getD]
theorem nth_spl_out {zs ys : List Int} {off i : Nat} (h : off + ys.length ≤ zs.length) (h1 : i < off ∨ off + ys.length ≤ i) : nth (spl zs off ys) i = nth zs i := by
 have hl : (List.take off zs).length = off := by simp; omega
 unfold nth spl
 rw [List.append_assoc]
 rcases h1 with h1 | h1
 ·rw [List.getD_eq_getElem?_getD, List.getElem?_append_left (by rw [hl]; exact h1), List.getElem?_take_of_lt h1, ← List.getD_eq_getElem?_getD]
 ·rw [List.getD_eq_getElem?_getD, List.getElem?_append_right (by rw [hl]; omega), hl, List.getElem?_append_right (by omega), List.getElem?_drop, ← List.getD_eq_getElem?_getD]
  congr 1; omega
theorem nth_set_same (zs : List Int) (i : Nat) (v : Int) (h : i < zs.length) : nth (zs.set i v) i = v := by simp [nth, h]
theorem nth_set_ne (zs : List Int) (i j : Nat) (v : Int) (h : i ≠ j) : nth (zs.set i v) j = nth zs j := by simp [nth, List.getD, h]
/-- Block b holds just the integers zs. -/
def IB (w : World) (b T : Nat) (zs : List Int) : Prop := w.heap[b]? = some (.cells (ic zs) T (0, 0))
theorem IB.lt {w : World} {b T : Nat} {zs : List Int} (h : IB w b T zs) : b < w.heap.size := lt_of_block h
theorem IB.cell {w : World} {b T : Nat} {zs : List Int} (h : IB w b T zs) {i : Nat} (hi : i < zs.length) : w.cell? ⟨b, i, none⟩ = some (.int .i64 (nth zs i)) := by
 have : w.heap[b]? = some (.cells (ic zs) T (0, 0)) := h
 simp only [World.cell?, this]
 simpa using ic_get zs i hi
theorem IB.frozen {w : World} {b T : Nat} {zs : List Int} (h : IB w b T zs) (i : Nat) : w.frozen? ⟨b, i, none⟩ = false := by
 have : w.heap[b]? = some (.cells (ic zs) T (0, 0)) := h
 simp [World.frozen?, this]
theorem IB.ext {w w' : World} {b T : Nat} {zs : List Int} (h : IB w b T zs) (e : Ext w w') : IB w' b T zs := e.blk h
theorem IB.alloc {w : World} {b T : Nat} {zs : List Int} (h : IB w b T zs) (o : Obj) : IB (w.alloc o) b T zs := blk_alloc h o
theorem IB.new (w : World) (T : Nat) (zs : List Int) : IB (w.alloc (.cells (ic zs) T)) w.heap.size T zs := blk_new w _
theorem IB.gr {w w' : World} {b T : Nat} {zs : List Int} {row : Option Nat} (h : IB w b T zs) (g : w.grownBy w' row) (hne : row ≠ some b) : IB w' b T zs := blk_gr h g hne
theorem IB.drewN {w : World} {b T : Nat} {zs : List Int} (h : IB w b T zs) (n : Nat) : IB (w.drewN n) b T zs := h
theorem IB.set {w : World} {b T : Nat} {zs : List Int} (h : IB w b T zs) (i : Nat) (v : Int) : IB (w.setCell ⟨b, i, none⟩ (.int .i64 v)) b T (zs.set i v) := by
 have h1 := heap_setCell_same w b i (ic zs) T (.int .i64 v) h
 have h2 : (ic zs).setIfInBounds i (.int .i64 v) = ic (zs.set i v) := by
  apply Array.toList_inj.1
  rw [ic_toList, Array.toList_setIfInBounds, ic_toList, List.map_set]
 rw [h2] at h1
 exact h1
theorem IB.set_other {w : World} {b c i T : Nat} {v : Value} {zs : List Int} (h : IB w b T zs) (hne : b ≠ c) : IB (w.setCell ⟨c, i, none⟩ v) b T zs := blk_set_other h hne
theorem gr_set (w : World) (B i : Nat) (v : Value) : w.grownBy (w.setCell ⟨B, i, none⟩ v) (some B) := ⟨rfl, rfl, rfl, by simp, fun k _ hk => heap_setCell_other w ⟨B, i, none⟩ k v (fun e => hk (by simp [e]))⟩
section
variable {P : Program}
theorem wpList_wanted {ops : Array Oper} {rest : List Oper} {o : Oper} {a : Act} {Q : Exit → Act → World → Prop} {w : World} (hw : Region.wanted o (yielded ops a.tmps) = true)
 (h : ∀ K : Act → World → Prop, (∀ a w, wpList P ops Q rest a w → K a w) → o.wp P a w K Q) : wpList P ops Q (o :: rest) a w :=
 wpList_step fun K hK => by rw [if_pos hw]; exact h K hK
theorem isAgg_of {ty : TypeId} {d : TypeDesc} (w : World) (hu : P.underlying ty = some d) (hd : (match d with | .struct _ | .array _ _ => true | _ => false) = true) : (isAgg ty).run P w = .ok true w := by
 unfold isAgg
 rw [Sem.run_bind, run_underlying hu w]
 cases d <;> simp_all
theorem run_loadVar_ib (w : World) {b T : Nat} {zs : List Int} (h : IB w b T zs) (ty : TypeId) (off n : Nat) (d : TypeDesc) (hu : P.underlying ty = some d) (hd : (match d with | .struct _ | .array _ _ => true | _ => false) = true) (hi : (P.info? ty).map (·.size) = some n) (hb : off + n ≤ zs.length) :
 (loadVar ty ⟨b, off, none⟩).run P w = .ok (.agg (ic (sub zs off n))) w := by
 have hl : (loadCells ⟨b, off, none⟩ ((sub zs off n).map (Value.int .i64)).length).run P w = .ok ((sub zs off n).map (Value.int .i64)).toArray w :=
  run_loadCells_list (P := P) w ⟨b, off, none⟩ _ (fun j v hv => by
   have hj : j < n := by
    have := (List.getElem?_eq_some_iff.1 hv).1
    simp [sub] at this; omega
   have hadd : (⟨b, off, none⟩ : Addr).add j = ⟨b, off + j, none⟩ := by rw [Addr.add_lit]
   rw [hadd, h.cell (by omega)]
   have e : ((sub zs off n).map (Value.int .i64))[j]? = some (.int .i64 (nth (sub zs off n) j)) := by
    have : j < (sub zs off n).length := by rw [sub_len _ _ _ hb]; exact hj
    simp [nth, this]
   rw [e, nth_sub _ _ _ _ hj] at hv
   exact hv)
 cases hq : P.info? ty with
 | none => simp [hq] at hi
 | some i =>
  have hs : i.size = n := by simpa [hq] using hi
  rw [List.length_map, sub_len _ _ _ hb] at hl
  simp [loadVar, Sem.run_bind, isAgg_of w hu hd, sizeOf, typeInfo, hq, hs, hl, ic]
/-- x := *p, p at off in a block of integers, the type an array or a struct of n cells. -/
theorem wpList_iload {ops : Array Oper} {rest : List Oper} {o : Oper} {a : Act} {w : World} {Q : Exit → Act → World → Prop} (ty : TypeId) (x : Operand) (ho : o.op = .load ty x) (hgd : Region.wanted o (yielded ops a.tmps) = true)
 {b T : Nat} {zs : List Int} (h : IB w b T zs) (off n : Nat) (hx : a.eval x = .pointer (some ⟨b, off, none⟩)) (d : TypeDesc)
 (hu : P.underlying ty = some d) (hd : (match d with | .struct _ | .array _ _ => true | _ => false) = true) (hi : (P.info? ty).map (·.size) = some n) (hb : off + n ≤ zs.length) (cs : Array Value) (hc : ic (sub zs off n) = cs)
 (hK : wpList P ops Q rest (a.put o.dst (.agg cs)) w) : wpList P ops Q (o :: rest) a w := by
 subst hc
 refine wpList_wanted hgd fun _ hK' => ?_
 unfold Oper.wp execOp
 simp only [ho, hx, Instr.loadAt, Instr.sureAddr, Sem.run_bind, Sem.run_pure, Result.andThen_ok, run_loadVar_ib w h ty off n d hu hd hi hb]
 exact hK' _ _ hK
theorem run_storeCells_ib {b T off : Nat} : ∀ (ys : List Int) (i : Nat) (zs : List Int) (w : World), IB w b T zs → off + i + ys.length ≤ zs.length →
 ∃ w', (storeCells ⟨b, off, none⟩ (ys.map (Value.int .i64)) i).run P w = .ok () w' ∧ IB w' b T (spl zs (off + i) ys) ∧ w.grownBy w' (some b)
 | [], i, zs, w, h, hl => ⟨w, by simp [storeCells], by rw [spl_nil]; exact h, World.grownBy.refl _ _⟩
 | y :: ys, i, zs, w, h, hl => by
  have hlt : off + i < zs.length := by simp at hl; omega
  have hadd : (⟨b, off, none⟩ : Addr).add i = ⟨b, off + i, none⟩ := by rw [Addr.add_lit]
  have hst : (store ((⟨b, off, none⟩ : Addr).add i) (.int .i64 y)).run P w = .ok () (w.setCell ⟨b, off + i, none⟩ (.int .i64 y)) := by
   rw [hadd, run_store P w _ (.int .i64 y) _ rfl, h.cell hlt]
   simp [h.frozen]
  obtain ⟨w', h1, h2, h3⟩ := run_storeCells_ib (off := off) ys (i + 1) (zs.set (off + i) y) _ (h.set (off + i) y) (by simp at hl ⊢; omega)
  refine ⟨w', ?_, ?_, grownBy_trans (gr_set _ _ _ _) h3⟩
  ·simp only [List.map_cons, storeCells, Sem.run_bind, hst, Result.andThen_ok, h1]
  ·rw [← spl_cons hlt]
   exact h2
/-- *p = y. -/
theorem wpList_istore {ops : Array Oper} {rest : List Oper} {o : Oper} {a : Act} {w : World} {Q : Exit → Act → World → Prop} (ty : TypeId) (x y : Operand) (ho : o.op = .store ty x y) (hgd : Region.wanted o (yielded ops a.tmps) = true)
 {b T : Nat} {zs : List Int} (h : IB w b T zs) (off n : Nat) (hx : a.eval x = .pointer (some ⟨b, off, none⟩)) (cs : Array Value) (hy : a.eval y = .agg cs) (ys : List Int) (hc : cs = ic ys)
 (hi : (P.info? ty).map (·.size) = some n) (hn : ys.length = n) (hb : off + n ≤ zs.length)
 (hK : ∀ w', IB w' b T (spl zs off ys) → w.grownBy w' (some b) → wpList P ops Q rest (a.put o.dst undef) w') : wpList P ops Q (o :: rest) a w := by
 subst hc hn
 refine wpList_wanted hgd fun _ hK' => ?_
 obtain ⟨w', h1, h2, h3⟩ := run_storeCells_ib (P := P) (off := off) ys 0 zs w h (by omega)
 have hs : (storeVar ty ⟨b, off, none⟩ (.agg (ic ys))).run P w = .ok () w' := by
  cases hq : P.info? ty with
  | none => simp [hq] at hi
  | some i =>
   have hs : i.size = ys.length := by simpa [hq] using hi
   simp [storeVar, sizeOf, typeInfo, hq, Value.cells, hs, ic_size, ic_toList, h1]
 unfold Oper.wp execOp
 simp only [ho, hx, hy, Instr.storeAt, Instr.sureAddr, Sem.run_bind, Sem.run_pure, Result.andThen_ok, hs]
 exact hK' _ _ (hK w' h2 h3)
/-- a[i], a an array value of integers. -/
theorem wpList_iindex {ops : Array Oper} {rest : List Oper} {o : Oper} {a : Act} {w : World} {Q : Exit → Act → World → Prop} (t : TypeId) (x ix : Operand) (ho : o.op = .index t x ix) (hgd : Region.wanted o (yielded ops a.tmps) = true)
 (zs : List Int) (hx : a.eval x = .agg (ic zs)) (k len : Nat) (z : Int) (hix : a.eval ix = .int .i64 z) (hz : z = (k : Int)) (e : TypeId) (hu : P.underlying t = some (.array len e)) (he : P.underlying e = some (.int .i64)) (hi : (P.info? e).map (·.size) = some 1) (hk : k < len) (hl : zs.length = len)
 (hK : wpList P ops Q rest (a.put o.dst (.int .i64 (nth zs k))) w) : wpList P ops Q (o :: rest) a w := by
 subst hz
 refine wpList_wanted hgd fun _ hK' => ?_
 have hag : (isAgg e).run P w = .ok false w := by
  unfold isAgg
  rw [Sem.run_bind, run_underlying he w]
  simp
 have hrun : (Instr.index t (.agg (ic zs)) (.int .i64 (k : Int))).run P w = .ok (.int .i64 (nth zs k)) w := by
  cases hq : P.info? e with
  | none => simp [hq] at hi
  | some i =>
   have hs : i.size = 1 := by simpa [hq] using hi
   have h1 := ic_get zs k (by omega)
   simp [Instr.index, asIntOf, run_underlying hu, hk, sizeOf, typeInfo, hq, hs, part, Sem.run_bind, hag, h1]
 unfold Oper.wp execOp
 simp only [ho, hx, hix, hrun, Sem.run_bind, Result.andThen_ok]
 exact hK' _ _ hK
/-- a[i], a an array value of arrays of m integers. -/
theorem wpList_iindexa {ops : Array Oper} {rest : List Oper} {o : Oper} {a : Act} {w : World} {Q : Exit → Act → World → Prop} (t : TypeId) (x ix : Operand) (ho : o.op = .index t x ix) (hgd : Region.wanted o (yielded ops a.tmps) = true)
 (zs : List Int) (hx : a.eval x = .agg (ic zs)) (k len m : Nat) (z : Int) (hix : a.eval ix = .int .i64 z) (hz : z = (k : Int)) (e : TypeId) (d : TypeDesc) (hu : P.underlying t = some (.array len e)) (he : P.underlying e = some d) (hd : (match d with | .struct _ | .array _ _ => true | _ => false) = true) (hi : (P.info? e).map (·.size) = some m) (hk : k < len)
 (hK : wpList P ops Q rest (a.put o.dst (.agg (ic (sub zs (k * m) m)))) w) : wpList P ops Q (o :: rest) a w := by
 subst hz
 refine wpList_wanted hgd fun _ hK' => ?_
 have hag := isAgg_of w he hd
 have hrun : (Instr.index t (.agg (ic zs)) (.int .i64 (k : Int))).run P w = .ok (.agg (ic (sub zs (k * m) m))) w := by
  cases hq : P.info? e with
  | none => simp [hq] at hi
  | some i =>
   have hs : i.size = m := by simpa [hq] using hi
   have h1 := ic_extract zs (k * m) m
   simp [Instr.index, asIntOf, run_underlying hu, hk, sizeOf, typeInfo, hq, hs, part, Sem.run_bind, hag, h1]
 unfold Oper.wp execOp
 simp only [ho, hx, hix, hrun, Sem.run_bind, Result.andThen_ok]
 exact hK' _ _ hK
end
end Go.Proofs.YtbnhaegidfbgbaaDoor
namespace Go.Proofs.YtbnhaegidfbgbaaDoor
open Go.RowKit
set_option maxHeartbeats 400000
section
variable {P : Program}
/-- Elements of type e, of c integers each, are compared as lists. -/
def EqE (P : Program) (e : TypeId) (c : Nat) (d : Nat) : Prop := ∀ (w : World) (xs ys : List Int) (off : Nat), off + c ≤ xs.length → off + c ≤ ys.length →
 ∃ a b, (part e (ic xs) off).run P w = .ok a w ∧ (part e (ic ys) off).run P w = .ok b w ∧ (Op.equalIn d e a b).run P w = .ok (decide (sub xs off c = sub ys off c)) w
theorem EqE.int {e : TypeId} (he : P.underlying e = some (.int .i64)) (d : Nat) : EqE P e 1 (d + 1) := by
 intro w xs ys off h1 h2
 have hag : (isAgg e).run P w = .ok false w := by
  unfold isAgg
  rw [Sem.run_bind, run_underlying he w]
  simp
 refine ⟨.int .i64 (nth xs off), .int .i64 (nth ys off), ?_, ?_, ?_⟩
 ·simp [part, Sem.run_bind, hag, ic_get xs off (by omega)]
 ·simp [part, Sem.run_bind, hag, ic_get ys off (by omega)]
 ·rw [run_equalIn_int w d e .i64 .i64 _ _ he, sub_one xs off (by omega), sub_one ys off (by omega)]
  congr 1
  by_cases h : nth xs off = nth ys off
  ·simp [h]
  ·simp [h]
theorem eqItems_run {e : TypeId} {c d : Nat} (hE : EqE P e c d) (w : World) (xs ys : List Int) : ∀ (is : List Nat), (∀ i ∈ is, i * c + c ≤ xs.length ∧ i * c + c ≤ ys.length) →
 (Op.eqItems d e c (ic xs) (ic ys) is).run P w = .ok (decide (∀ i ∈ is, sub xs (i * c) c = sub ys (i * c) c)) w
 | [], _ => by simp [Op.eqItems]
 | i :: is, h => by
  obtain ⟨a, b, h1, h2, h3⟩ := hE w xs ys (i * c) (h i (by simp)).1 (h i (by simp)).2
  have ih := eqItems_run hE w xs ys is (fun j hj => h j (by simp [hj]))
  simp only [Op.eqItems, Sem.run_bind, h1, h2, h3, Result.andThen_ok]
  by_cases hs : sub xs (i * c) c = sub ys (i * c) c
  ·simp only [hs, decide_true, Bool.not_true, Bool.false_eq_true, if_false, ih]
   congr 1
   simp [hs]
  ·simp only [hs, decide_false, Bool.not_false, if_true, Sem.run_pure]
   congr 1
   simp [hs]
theorem sub_sub (zs : List Int) (o n p m : Nat) (h : p + m ≤ n) : sub (sub zs o n) p m = sub zs (o + p) m := by
 unfold sub
 rw [List.drop_take, List.drop_drop, List.take_take]
 congr 1
 omega
theorem sub_ext {xs ys : List Int} {o n c : Nat} (h1 : o + n * c ≤ xs.length) (h2 : o + n * c ≤ ys.length) : (∀ i ∈ List.range n, sub (sub xs o (n * c)) (i * c) c = sub (sub ys o (n * c)) (i * c) c) ↔ sub xs o (n * c) = sub ys o (n * c) := by
 constructor
 ·intro h
  refine ext_nth (by rw [sub_len _ _ _ h1, sub_len _ _ _ h2]) fun j hj => ?_
  rw [sub_len _ _ _ h1] at hj
  have hc : 0 < c := by
   rcases Nat.eq_zero_or_pos c with h0 | h0
   ·subst h0; simp at hj
   ·exact h0
  have hd : j / c < n := Nat.div_lt_of_lt_mul (by rw [Nat.mul_comm]; exact hj)
  have hm : j % c < c := Nat.mod_lt _ hc
  have e := h (j / c) (by simpa using hd)
  have e1 : j / c * c + j % c = j := by rw [Nat.mul_comm]; exact Nat.div_add_mod j c
  have e2 : nth (sub (sub xs o (n * c)) (j / c * c) c) (j % c) = nth (sub (sub ys o (n * c)) (j / c * c) c) (j % c) := by rw [e]
  rw [nth_sub _ _ _ _ hm, nth_sub _ _ _ _ hm, e1] at e2
  exact e2
 ·intro h i _
  rw [h]
theorem EqE.arr {t e : TypeId} {n c d : Nat} (ht : P.underlying t = some (.array n e)) (hi : (P.info? e).map (·.size) = some c) (hti : (P.info? t).map (·.size) = some (n * c)) (hE : EqE P e c d) : EqE P t (n * c) (d + 1) := by
 intro w xs ys off h1 h2
 cases hq : P.info? e with
 | none => simp [hq] at hi
 | some ii =>
  have hs : ii.size = c := by simpa [hq] using hi
  have hce : P.cellsOf e = c := by simp [Program.cellsOf, hq, hs]
  have hag := isAgg_of (P := P) w ht rfl
  cases hqt : P.info? t with
  | none => simp [hqt] at hti
  | some jj =>
   have hst : jj.size = n * c := by simpa [hqt] using hti
   refine ⟨.agg (ic (sub xs off (n * c))), .agg (ic (sub ys off (n * c))), ?_, ?_, ?_⟩
   ·simp [part, Sem.run_bind, hag, sizeOf, typeInfo, hqt, hst, ic_extract]
   ·simp [part, Sem.run_bind, hag, sizeOf, typeInfo, hqt, hst, ic_extract]
   ·rw [run_equalIn_array w d _ _ ht hq, hce, eqItems_run hE w _ _ (List.range n) (fun i hi' => by
     rw [sub_len _ _ _ h1, sub_len _ _ _ h2]
     have hin : i < n := by simpa using hi'
     have : (i + 1) * c ≤ n * c := Nat.mul_le_mul_right _ hin
     rw [Nat.succ_mul] at this
     exact ⟨this, this⟩)]
    congr 1
    exact decide_eq_decide.2 (sub_ext h1 h2)
/-- x == y, arrays of integers. -/
theorem run_eql_ints {t : TypeId} {n c : Nat} {e : TypeId} (ht : P.underlying t = some (.array n e)) (hi : (P.info? e).map (·.size) = some c) (hE : EqE P e c 9999) (w : World) (xs ys : List Int) (h1 : xs.length = n * c) (h2 : ys.length = n * c) :
 (Op.equalIn 10000 t (.agg (ic xs)) (.agg (ic ys))).run P w = .ok (decide (xs = ys)) w := by
 cases hq : P.info? e with
 | none => simp [hq] at hi
 | some ii =>
  have hs : ii.size = c := by simpa [hq] using hi
  have hce : P.cellsOf e = c := by simp [Program.cellsOf, hq, hs]
  rw [run_equalIn_array w 9999 _ _ ht hq, hce, eqItems_run hE w _ _ (List.range n) (fun i hi' => by
   rw [h1, h2]
   have hin : i < n := by simpa using hi'
   have : (i + 1) * c ≤ n * c := Nat.mul_le_mul_right _ hin
   rw [Nat.succ_mul] at this
   exact ⟨this, this⟩)]
  congr 1
  have e := sub_ext (xs := xs) (ys := ys) (o := 0) (n := n) (c := c) (by omega) (by omega)
  rw [sub_all xs _ h1, sub_all ys _ h2] at e
  exact decide_eq_decide.2 e
theorem wpList_ieql {ops : Array Oper} {rest : List Oper} {o : Oper} {a : Act} {w : World} {Q : Exit → Act → World → Prop} (t : TypeId) (x y : Operand) (t2 : TypeId) (ho : o.op = .binOp .eql t x y t2) (hgd : Region.wanted o (yielded ops a.tmps) = true)
 (cs ds : Array Value) (hx : a.eval x = .agg cs) (hy : a.eval y = .agg ds) (xs ys : List Int) (hcs : cs = ic xs) (hds : ds = ic ys) {n c : Nat} {e : TypeId} (ht : P.underlying t = some (.array n e)) (hi : (P.info? e).map (·.size) = some c) (hE : EqE P e c 9999) (h1 : xs.length = n * c) (h2 : ys.length = n * c)
 (hm : P.eqGuardType P.depth t = false) (r : Bool) (hr : decide (xs = ys) = r) (hK : wpList P ops Q rest (a.put o.dst (.bool r)) w) : wpList P ops Q (o :: rest) a w := by
 subst hcs hds hr
 refine wpList_wanted hgd fun _ hK' => ?_
 unfold Oper.wp execOp
 simp [ho, hx, hy, Sem.run_bind, run_eqGuard_agg w .eql t x y _ _ hm, run_eql_struct w t, run_eql_ints ht hi hE w xs ys h1 h2, Result.andThen]
 exact hK' _ _ hK
theorem wpList_ineq {ops : Array Oper} {rest : List Oper} {o : Oper} {a : Act} {w : World} {Q : Exit → Act → World → Prop} (t : TypeId) (x y : Operand) (t2 : TypeId) (ho : o.op = .binOp .neq t x y t2) (hgd : Region.wanted o (yielded ops a.tmps) = true)
 (cs ds : Array Value) (hx : a.eval x = .agg cs) (hy : a.eval y = .agg ds) (xs ys : List Int) (hcs : cs = ic xs) (hds : ds = ic ys) {n c : Nat} {e : TypeId} (ht : P.underlying t = some (.array n e)) (hi : (P.info? e).map (·.size) = some c) (hE : EqE P e c 9999) (h1 : xs.length = n * c) (h2 : ys.length = n * c)
 (hm : P.eqGuardType P.depth t = false) (r : Bool) (hr : decide (xs = ys) = r) (hK : wpList P ops Q rest (a.put o.dst (.bool (!r))) w) : wpList P ops Q (o :: rest) a w := by
 subst hcs hds hr
 refine wpList_wanted hgd fun _ hK' => ?_
 unfold Oper.wp execOp
 simp [ho, hx, hy, Sem.run_bind, run_eqGuard_agg w .neq t x y _ _ hm, run_neq_struct w t, run_eql_ints ht hi hE w xs ys h1 h2, Result.andThen]
 exact hK' _ _ (by simpa using hK)
/-- [n]T{}, T an array of integers or an integer. -/
theorem wpList_izero {ops : Array Oper} {rest : List Oper} {o : Oper} {a : Act} {w : World} {Q : Exit → Act → World → Prop} (t : TypeId) (ho : o.op = .build t #[]) (hgd : Region.wanted o (yielded ops a.tmps) = true)
 {n c : Nat} {e : TypeId} (ht : P.underlying t = some (.array n e)) (hi : (P.info? e).map (·.size) = some c) (N : Nat) (hz : (P.info? t).map (·.zero) = some (some (.agg (ic (List.replicate N 0)))))
 (hK : wpList P ops Q rest (a.put o.dst (.agg (ic (List.replicate N 0)))) w) : wpList P ops Q (o :: rest) a w := by
 refine wpList_wanted hgd fun _ hK' => ?_
 cases hq : P.info? e with
 | none => simp [hq] at hi
 | some ii =>
  cases hqt : P.info? t with
  | none => simp [hqt] at hz
  | some jj =>
   have hzz : jj.zero = some (.agg (ic (List.replicate N 0))) := by simpa [hqt] using hz
   unfold Oper.wp execOp
   simp [ho, Instr.build, zeroValue, typeInfo, hqt, hzz, run_underlying ht, sizeOf, hq, Instr.fill, Value.cells, Sem.run_bind, Result.andThen]
   exact hK' _ _ hK
/-- new(T), T of integers alone. -/
theorem wpList_ialloc {ops : Array Oper} {rest : List Oper} {o : Oper} {a : Act} {w : World} {Q : Exit → Act → World → Prop} (t : TypeId) (ho : o.op = .alloc t) (hgd : Region.wanted o (yielded ops a.tmps) = true)
 (N : Nat) (hz : (P.info? t).map (·.zero) = some (some (.agg (ic (List.replicate N 0)))))
 (hK : wpList P ops Q rest (a.put o.dst (.pointer (some ⟨w.heap.size, 0, none⟩))) (w.alloc (.cells (ic (List.replicate N 0)) t))) : wpList P ops Q (o :: rest) a w := by
 refine wpList_wanted hgd fun _ hK' => ?_
 cases hqt : P.info? t with
 | none => simp [hqt] at hz
 | some jj =>
  have hzz : jj.zero = some (.agg (ic (List.replicate N 0))) := by simpa [hqt] using hz
  unfold Oper.wp execOp
  simp [ho, Instr.alloc, zeroValue, typeInfo, hqt, hzz, Value.cells, newVar, newRow, Sem.run_bind, Result.andThen]
  exact hK' _ _ hK
/-- n zeros. -/
def zl (n : Nat) : List Int := List.replicate n 0
theorem zl_len (n : Nat) : (zl n).length = n := by simp [zl]
/-- new(T), T of integers alone. -/
theorem wpList_iallocz {ops : Array Oper} {rest : List Oper} {o : Oper} {a : Act} {w : World} {Q : Exit → Act → World → Prop} (t : TypeId) (ho : o.op = .alloc t) (hgd : Region.wanted o (yielded ops a.tmps) = true)
 (N : Nat) (hz : (P.info? t).map (·.zero) = some (some (.agg (ic (zl N)))))
 (hK : wpList P ops Q rest (a.put o.dst (.pointer (some ⟨w.heap.size, 0, none⟩))) (w.alloc (.cells (ic (zl N)) t))) : wpList P ops Q (o :: rest) a w := by
 refine wpList_wanted hgd fun _ hK' => ?_
 cases hqt : P.info? t with
 | none => simp [hqt] at hz
 | some jj =>
  have hzz : jj.zero = some (.agg (ic (zl N))) := by simpa [hqt] using hz
  unfold Oper.wp execOp
  simp [ho, Instr.alloc, zeroValue, typeInfo, hqt, hzz, Value.cells, newVar, newRow, Sem.run_bind, Result.andThen]
  exact hK' _ _ hK
end
end Go.Proofs.YtbnhaegidfbgbaaDoor
namespace Go.Proofs.YtbnhaegidfbgbaaDoor
open Go.RowKit
theorem i64_nat_ofInt (a : Nat) (ha : a < 9223372036854775808) : (BitVec.ofInt 64 (a : Int)).toNat = a := by
 rw [BitVec.ofInt_natCast, BitVec.toNat_ofNat]; exact Nat.mod_eq_of_lt (by omega)
theorem grown_ext {w w1 w2 : World} {row : Option Nat} (h : w.grownBy w1 row) (e : Ext w1 w2) : w.grownBy w2 row :=
 ⟨e.os.trans h.os, e.tape.trans h.tape, e.output.trans h.output, Nat.le_trans h.size e.size, fun k hk hr => (e.block k (Nat.lt_of_lt_of_le hk h.size)).trans (h.block k hk hr)⟩
theorem grown_refl (w : World) (row : Option Nat) : w.grownBy w row := ⟨rfl, rfl, rfl, Nat.le_refl _, fun _ _ _ => rfl⟩
end Go.Proofs.YtbnhaegidfbgbaaDoor
namespace Go.Proofs.YtbnhaegidfbgbaaDoor
open Go.RowKit
set_option maxHeartbeats 1000000
/-- The row of the j-th number of diagonal d. -/
def scRow (d j : Nat) : Nat := if d % 2 = 0 then d - j else j
def scStep (d j : Nat) (s : Nat × List Int) : Nat × List Int := if scRow d j < 4 ∧ d - scRow d j < 4 then (s.1 + 1, s.2.set s.1 (4 * (scRow d j : Int) + ((d - scRow d j : Nat) : Int))) else (s.1, s.2)
def scIn (d : Nat) (s : Nat × List Int) : Nat → Nat × List Int
 | 0 => s
 | j + 1 => scStep d j (scIn d s j)
def scOut : Nat → Nat × List Int
 | 0 => (0, zl 16)
 | d + 1 => scIn d (scOut d) (d + 1)
/-- The order. -/
def scanL : List Int := [0, 1, 4, 8, 5, 2, 3, 6, 9, 12, 13, 10, 7, 11, 14, 15]
theorem scOut_all : scOut 7 = (16, scanL) := by decide
theorem sc_len : ∀ d, d < 7 → ∀ j, j ≤ d + 1 → (scIn d (scOut d) j).2.length = 16 ∧ (scIn d (scOut d) j).1 ≤ 16 ∧ (j < d + 1 → scRow d j < 4 ∧ d - scRow d j < 4 → (scIn d (scOut d) j).1 < 16) := by decide
theorem zero_A16s : (Tryd.prog.info? 31).map (·.zero) = some (some (.agg (ic (zl 16)))) := by kernel_rfl
theorem size_A16s : (Tryd.prog.info? 31).map (·.size) = some 16 := by kernel_rfl
set_option maxRecDepth 100000 in
theorem scanOrder_any (w : World) :
 Calls Tryd.prog 153 #[] w fun e w' => e = .returned (.agg (ic scanL)) ∧ Ext w w' := by
 go_enter Tryd.func153, Tryd.ntmps153
 have r0 := (IB.new w 31 (zl 16)).alloc (.cells (ic (zl 16)) 31)
 have p0 := IB.new (w.alloc (.cells (ic (zl 16)) 31)) 31 (zl 16)
 have E0 := (Ext.alloc w (.cells (ic (zl 16)) 31)).trans (Ext.alloc _ (.cells (ic (zl 16)) 31))
 simp only [World.size_alloc] at p0
 go_wp2_with (refine wpList_iallocz 31 rfl rfl 16 zero_A16s ?_; (try simp only [World.size_alloc]))
 go_loopw [2, 7] (fun n i wr => ∃ d : Nat, d ≤ 7 ∧ i = .int .i64 d ∧ n = .int .i64 ((scOut d).1 : Nat) ∧ Ext w wr ∧ IB wr w.heap.size 31 (zl 16) ∧ IB wr (w.heap.size + 1) 31 (scOut d).2) (fun _ i _ => 7 - (intOf i).toNat)
 case atStart => exact ⟨0, by omega, rfl, rfl, E0, r0, p0⟩
 case round =>
  obtain ⟨d, hd, rfl, rfl, E1, r1, p1⟩ := hrel
  clear E0 r0 p0
  by_cases hlt : d < 7
  ·have hd7 : decide ((d : Int) < 7) = true := by simp; omega
   go_wp2_with fail
   go_loopw [2, 12] (fun n i wr => ∃ j : Nat, j ≤ d + 1 ∧ i = .int .i64 j ∧ n = .int .i64 ((scIn d (scOut d) j).1 : Nat) ∧ Ext w wr ∧ IB wr w.heap.size 31 (zl 16) ∧ IB wr (w.heap.size + 1) 31 (scIn d (scOut d) j).2) (fun _ i _ => d + 1 - (intOf i).toNat)
   case atStart => exact ⟨0, by omega, rfl, rfl, E1, r1, p1⟩
   case round =>
    obtain ⟨j, hj, rfl, rfl, E2, r2, p2⟩ := hrel
    clear E1 r1 p1
    by_cases hlt2 : j < d + 1
    ·have hdj : decide ((j : Int) < (d : Int) + 1) = true := by simp; omega
     obtain ⟨l1, l2, l3⟩ := sc_len d hlt j hj
     have hst : scIn d (scOut d) (j + 1) = scStep d j (scIn d (scOut d) j) := rfl
     unfold scStep at hst
     obtain ⟨n, hn⟩ : ∃ n, n = (scIn d (scOut d) j).1 := ⟨_, rfl⟩
     obtain ⟨zs, hzs⟩ : ∃ zs, zs = (scIn d (scOut d) j).2 := ⟨_, rfl⟩
     rw [← hn, ← hzs] at hst
     rw [← hn] at l2 l3 ⊢
     rw [← hzs] at l1 p2
     have Hst := Lib.hid hst
     have L1 := Lib.hid l1
     have L3 := Lib.hid (l3 hlt2)
     clear hst hn hzs l1 l3
     obtain ⟨rw', hrw⟩ : ∃ r, r = scRow d j := ⟨_, rfl⟩
     rw [← hrw] at Hst L3
     have hrle : rw' ≤ d := by rw [hrw]; unfold scRow; split <;> omega
     have hfr := p2.frozen n
     by_cases hev : d % 2 = 0
     ·have he : rw' = d - j := by rw [hrw]; unfold scRow; rw [if_pos hev]
      have hm : ((d : Int) % 2 == 0) = true := by simp; omega
      have hev2 := Lib.hid hev
      clear hev hrw
      by_cases h1 : rw' < 4
      ·have d1 : decide (((d : Int) - (j : Int)) < 4) = true := by simp; omega
       by_cases h2 : d - rw' < 4
       ·have d2 : decide (((d : Int) - ((d : Int) - (j : Int))) < 4) = true := by simp; omega
        have hn16 := L3.out ⟨h1, h2⟩
        have hc := p2.cell (i := n) (by rw [L1.out]; exact hn16)
        have hst := Hst.out
        rw [if_pos ⟨h1, h2⟩] at hst
        have hv : 4 * ((d : Int) - (j : Int)) + ((d : Int) - ((d : Int) - (j : Int))) = 4 * (rw' : Int) + ((d - rw' : Nat) : Int) := by omega
        have Hv := Lib.hid hv
        have HS := Lib.hid hst
        clear hst hv Hst L3
        go_wp2
        go_roundw
        case rel => exact ⟨j + 1, by omega, by go_num, by rw [HS.out]; simp, Ext.grown E2 (gr_set _ _ _ _) (fun q hq => by cases hq; omega), r2.set_other (by omega), by rw [HS.out, ← Hv.out]; exact p2.set n _⟩
        case measure => simp [intOf]; omega
       ·have d2 : decide (((d : Int) - ((d : Int) - (j : Int))) < 4) = false := by simp; omega
        have hst := Hst.out
        rw [if_neg (fun h => h2 h.2)] at hst
        have HS := Lib.hid hst
        clear hst Hst L3
        go_wp2
        go_roundw
        case rel => exact ⟨j + 1, by omega, by go_num, by rw [HS.out], E2, r2, by rw [HS.out]; exact p2⟩
        case measure => simp [intOf]; omega
      ·have d1 : decide (((d : Int) - (j : Int)) < 4) = false := by simp; omega
       have hst := Hst.out
       rw [if_neg (fun h => h1 h.1)] at hst
       have HS := Lib.hid hst
       clear hst Hst L3
       go_wp2
       go_roundw
       case rel => exact ⟨j + 1, by omega, by go_num, by rw [HS.out], E2, r2, by rw [HS.out]; exact p2⟩
       case measure => simp [intOf]; omega
     ·have he : rw' = j := by rw [hrw]; unfold scRow; rw [if_neg hev]
      have hm : ((d : Int) % 2 == 0) = false := by simp; omega
      have hev2 := Lib.hid hev
      clear hev hrw
      by_cases h1 : rw' < 4
      ·have d1 : decide ((j : Int) < 4) = true := by simp; omega
       by_cases h2 : d - rw' < 4
       ·have d2 : decide (((d : Int) - (j : Int)) < 4) = true := by simp; omega
        have hn16 := L3.out ⟨h1, h2⟩
        have hc := p2.cell (i := n) (by rw [L1.out]; exact hn16)
        have hst := Hst.out
        rw [if_pos ⟨h1, h2⟩] at hst
        have hv : 4 * (j : Int) + ((d : Int) - (j : Int)) = 4 * (rw' : Int) + ((d - rw' : Nat) : Int) := by omega
        have Hv := Lib.hid hv
        have HS := Lib.hid hst
        clear hst hv Hst L3
        go_wp2
        go_roundw
        case rel => exact ⟨j + 1, by omega, by go_num, by rw [HS.out]; simp, Ext.grown E2 (gr_set _ _ _ _) (fun q hq => by cases hq; omega), r2.set_other (by omega), by rw [HS.out, ← Hv.out]; exact p2.set n _⟩
        case measure => simp [intOf]; omega
       ·have d2 : decide (((d : Int) - (j : Int)) < 4) = false := by simp; omega
        have hst := Hst.out
        rw [if_neg (fun h => h2 h.2)] at hst
        have HS := Lib.hid hst
        clear hst Hst L3
        go_wp2
        go_roundw
        case rel => exact ⟨j + 1, by omega, by go_num, by rw [HS.out], E2, r2, by rw [HS.out]; exact p2⟩
        case measure => simp [intOf]; omega
      ·have d1 : decide ((j : Int) < 4) = false := by simp; omega
       have hst := Hst.out
       rw [if_neg (fun h => h1 h.1)] at hst
       have HS := Lib.hid hst
       clear hst Hst L3
       go_wp2
       go_roundw
       case rel => exact ⟨j + 1, by omega, by go_num, by rw [HS.out], E2, r2, by rw [HS.out]; exact p2⟩
       case measure => simp [intOf]; omega
    ·obtain rfl : j = d + 1 := by omega
     have hdj : decide (((d + 1 : Nat) : Int) < (d : Int) + 1) = false := by simp
     go_wp2
     go_roundw
     case rel => exact ⟨d + 1, by omega, by go_num, rfl, E2, r2, p2⟩
     case measure => simp [intOf]; omega
  ·obtain rfl : d = 7 := by omega
   rw [scOut_all] at p1
   replace p1 : IB wr (w.heap.size + 1) 31 scanL := p1
   go_wp2_with (first | (refine wpList_iload 31 _ rfl rfl p1 0 16 rfl _ Tryd.underlying31 rfl size_A16s (by simp [scanL]) _ (by rw [sub_all scanL 16 rfl]) ?_) | (refine wpList_istore 31 _ _ rfl rfl r1 0 16 rfl _ rfl scanL rfl size_A16s rfl (by simp [zl]) ?_; intro wf pf gf; refine Hid.out ?_))
   rw [spl_all (by simp [zl, scanL])] at pf
   have Ef : Ext w wf := Ext.grown E1 gf (fun q hq => by cases hq; omega)
   refine Lib.hid ?_
   go_wp2
   exact bodyPost_ret (v := .agg (ic scanL)) (results_cell_row rfl _ _ w.heap.size 31 (ic scanL) (0, 0) _ rfl pf Tryd.underlying31 rfl (by rw [ic_size]; exact size_A16s)) rfl ⟨rfl, Ef⟩
end Go.Proofs.YtbnhaegidfbgbaaDoor
namespace Go.Proofs.YtbnhaegidfbgbaaDoor
open Go.RowKit
set_option maxHeartbeats 1000000
/-- Not a block of type T. -/
def notT (T : TypeId) (o : Obj) : Prop := ∀ cs fr, o ≠ .cells cs T fr
/-- Nothing below B changed, and of the rest only rows of type T. -/
structure FR (B T : Nat) (w w' : World) : Prop where
 lo : Below B w w'
 ot : ∀ (i : Nat) (o : Obj), w.heap[i]? = some o → notT T o → w'.heap[i]? = some o
theorem FR.refl (B T : Nat) (w : World) : FR B T w w := ⟨Below.refl _ _, fun _ _ h _ => h⟩
theorem FR.trans {B T : Nat} {a b c : World} (h : FR B T a b) (k : FR B T b c) : FR B T a c := ⟨h.lo.trans k.lo, fun i o h1 h2 => k.ot i o (h.ot i o h1 h2) h2⟩
theorem FR.of_ext {B T : Nat} {w w' : World} (h : Ext w w') (hB : B ≤ w.heap.size) : FR B T w w' := ⟨h.mono hB, fun _ _ h1 _ => h.blk h1⟩
theorem FR.of_row {B T s n : Nat} {v : Value} {xs : List Value} {w w' : World} (o : w.ownsRow B T s v n xs) (g : w.grownBy w' v.ownBlock) (hB : B ≤ w.heap.size) : FR B T w w' := by
 have hge := owns_ge o
 refine ⟨⟨g.os, g.tape, g.output, g.size, fun k hk => g.block k (by omega) (fun e => by have := hge k e.symm; omega)⟩, fun i ob h1 h2 => ?_⟩
 refine (g.block i (lt_of_block h1) (fun e => ?_)).trans h1
 rcases o.2 with ⟨rfl, -⟩ | ⟨b, cap, cur, rfl, -, hb, -⟩
 ·cases e
 ·cases e
  rw [hb] at h1
  cases h1
  exact h2 _ _ rfl
theorem FR.size {B T : Nat} {w w' : World} (h : FR B T w w') : w.heap.size ≤ w'.heap.size := h.lo.size
theorem FR.ext {B T : Nat} {a w w' : World} (h : Ext a w) (f : FR B T w w') (hB : a.heap.size ≤ B) : Ext a w' := Below.trans h (f.lo.mono hB)
theorem FR.ib {B T U b : Nat} {zs : List Int} {w w' : World} (f : FR B T w w') (h : IB w b U zs) (hne : U ≠ T) : IB w' b U zs := f.ot b _ h (fun cs fr e => by cases e; exact hne rfl)
theorem FR.blk {B T U b : Nat} {cs : Array Value} {fr : Nat × Nat} {w w' : World} (f : FR B T w w') (h : w.heap[b]? = some (.cells cs U fr)) (hne : U ≠ T) : w'.heap[b]? = some (.cells cs U fr) := f.ot b _ h (fun cs fr e => by cases e; exact hne rfl)
theorem FR.keeps {B T : Nat} {w w' : World} (f : FR B T w w') : KeepsOthers w w' := ⟨f.size, fun k o h1 h2 => f.ot k o h1 (fun cs fr e => by subst e; cases h2)⟩
set_option maxRecDepth 100000 in
set_option maxHeartbeats 4000000 in
theorem len64_in (x : Int) (w : World) (h0 : 0 ≤ x) (h1 : x < 65536) :
 Calls Tryd.prog 155 #[.int .u64 x] w fun e w' => e = .returned (.int .i64 (Lib.bitLen x.toNat)) ∧ w' = w := by
 by_cases hc : x < 256
 ·have h2 : x ≤ 255 := by omega
  have l := Lib.bitLen_le8' x h0 h2
  have e8 := Lib.len8_of x h0 h2
  go_enter Tryd.func155, Tryd.ntmps155
  go_wp2
  go_ret
  refine ⟨congrArg Ending.returned (congrArg (Value.int IntKind.i64) ?_), rfl⟩
  first | rfl | (unfold wrap64; omega)
 ·have h2 : 0 ≤ x / 256 := by omega
  have h3 : x / 256 ≤ 255 := by omega
  have l := Lib.bitLen_le8' (x / 256) h2 h3
  have e8 := Lib.len8_of (x / 256) h2 h3
  have s := Lib.bitLen_shift8 x.toNat (by omega) (by omega)
  have e : (x / 256).toNat = x.toNat / 256 := by omega
  rw [e] at l e8
  go_enter Tryd.func155, Tryd.ntmps155
  go_wp2
  go_ret
  refine ⟨congrArg Ending.returned (congrArg (Value.int IntKind.i64) ?_), rfl⟩
  first | rfl | (unfold wrap64; omega)
theorem len_in (x : Int) (w : World) (h0 : 0 ≤ x) (h1 : x < 65536) :
 Calls Tryd.prog 151 #[.int .u64 x] w fun e w' => e = .returned (.int .i64 (Lib.bitLen x.toNat)) ∧ w = w' := by
 have hw : IntKind.u64.wrap x = x := by rw [IntKind.wrap_u64]; omega
 go_enter Tryd.func151, Tryd.ntmps151
 go_wp2_with fail
 refine (len64_in x _ h0 h1).mono ?_
 rintro e w1 ⟨rfl, rfl⟩
 go_wp2
 go_ret
 exact ⟨rfl, rfl⟩
theorem bitLen_of {x k : Nat} (h1 : 2 ^ k ≤ x) (h2 : x < 2 ^ (k + 1)) (h3 : x < 2 ^ 64) : Lib.bitLen x = k + 1 := by
 rw [Lib.bitLen_shift k x h1 h3]
 have hp : 0 < 2 ^ k := Nat.pow_pos (by decide)
 have e : x / 2 ^ k = 1 := by
  rw [Nat.pow_succ] at h2
  exact (Nat.div_eq_iff hp).2 ⟨by omega, by omega⟩
 rw [e]
 rfl
/-- One less than the number of binary digits of n + 1. -/
def kOf (n : Nat) : Nat := Nat.log2 (n + 1)
theorem kOf_lo (n : Nat) : 2 ^ kOf n ≤ n + 1 := Nat.log2_self_le (by omega)
theorem kOf_hi (n : Nat) : n + 1 < 2 ^ (kOf n + 1) := Nat.lt_log2_self
theorem kOf_le {n : Nat} (h : n < 32768) : kOf n ≤ 15 := by
 have h1 := kOf_lo n
 refine Classical.byContradiction fun hk => ?_
 have h2 := Nat.pow_le_pow_right (show 0 < 2 by decide) (show 16 ≤ kOf n by omega)
 have : (2 : Nat) ^ 16 = 65536 := by decide
 omega
/-- The first i decisions: k times 1, and 0. -/
def upL (b k : Nat) : Nat → List Int
 | 0 => []
 | i + 1 => upL b k i ++ [((b + min i 5 : Nat) : Int), if i = k then 0 else 1]
/-- The k digits behind the first one, down to digit j. -/
def dnL (m b k : Nat) : Nat → List Int
 | 0 => []
 | j + 1 => dnL m b k j ++ [((b + 6 : Nat) : Int), ((m / 2 ^ (k - 1 - j) % 2 : Nat) : Int)]
def numL (n b : Nat) : List Int := upL b (kOf n) (kOf n + 1) ++ dnL (n + 1) b (kOf n) (kOf n)
/-- How many decisions there are. -/
def numN (n : Nat) : Nat := 2 * kOf n + 1
theorem numN_le {n : Nat} (h : n < 32768) : numN n ≤ 31 := by have := kOf_le h; unfold numN; omega
def sidx (v : Int) : Int := if 0 < v then 2 * v - 1 else -2 * v
theorem sidx_rng {v B : Int} (h1 : -B ≤ v) (h2 : v ≤ B) : 0 ≤ sidx v ∧ sidx v ≤ 2 * B := by unfold sidx; split <;> omega
theorem impl_SignedIndex_in (v : Int) (w : World) (h1 : -32767 ≤ v) (h2 : v ≤ 32767) :
 Calls Tryd.prog 147 #[.int .i64 v] w fun e w' => e = .returned (.int .i64 (sidx v)) ∧ w = w' := by
 unfold sidx
 go_enter Tryd.func147, Tryd.ntmps147
 by_cases hc : 0 < v
 ·rw [if_pos hc]
  go_wp2
  go_ret
  first | exact ⟨rfl, rfl⟩ | exact ⟨by simp; omega, rfl⟩
 ·rw [if_neg hc]
  go_wp2
  go_ret
  first | exact ⟨rfl, rfl⟩ | exact ⟨by simp; omega, rfl⟩
theorem spec_SignedIndex_in (v : Int) (w : World) (h1 : -32767 ≤ v) (h2 : v ≤ 32767) :
 Calls Tryd.prog 139 #[.int .i64 v] w fun e w' => e = .returned (.int .i64 (sidx v)) ∧ w = w' := by
 unfold sidx
 go_enter Tryd.func139, Tryd.ntmps139
 by_cases hc : 0 < v
 ·rw [if_pos hc]
  go_wp2_with fail
  refine (l1In_yes v (-32767) 32767 _ h1 h2).mono ?_
  rintro e w1 ⟨rfl, rfl⟩
  go_wp2
  go_ret
  first | exact ⟨rfl, rfl⟩ | exact ⟨by simp; omega, rfl⟩
 ·rw [if_neg hc]
  go_wp2_with fail
  refine (l1In_yes v (-32767) 32767 _ h1 h2).mono ?_
  rintro e w1 ⟨rfl, rfl⟩
  go_wp2
  go_ret
  first | exact ⟨rfl, rfl⟩ | exact ⟨by simp; omega, rfl⟩
end Go.Proofs.YtbnhaegidfbgbaaDoor
