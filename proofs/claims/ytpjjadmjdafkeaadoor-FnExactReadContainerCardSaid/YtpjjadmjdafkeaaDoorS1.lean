/- Lists of container entries: what they read as; the helpers of their exact laws. -/
import Derived.Test.YtpjjadmjdafkeaaDoorRegion
import Derived.Test.YtpjjadmjdafkeaaDoorH
namespace Go.Proofs.YtpjjadmjdafkeaaDoor
open Go.RowKit
set_option maxHeartbeats 400000

/-- An entry: time, key, data. -/
abbrev Smp := Int × Bool × List Int
def smp0 : Smp := (0, false, [])
/-- The i-th entry. -/
def sget (L : List Smp) (i : Nat) : Smp := L.getD i smp0
theorem sget_eq (L : List Smp) (i : Nat) (h : i < L.length) : sget L i = L[i] := by simp [sget, h]

/-- The three cells at b, o read as an entry whose data lies in no block below g. -/
def SmpAt (g : Nat) (w : World) (b o : Nat) (x : Smp) : Prop :=
  ∃ (a : Option Addr) (n c : Nat), w.cell? ⟨b, o, none⟩ = some (.int .i64 x.1) ∧ w.cell? ⟨b, o + 1, none⟩ = some (.bool x.2.1) ∧ w.cell? ⟨b, o + 2, none⟩ = some (.slice a n c) ∧ Sl w a n (x.2.2.map (Value.int .u8)) ∧ n ≤ c ∧ c ≤ maxLen ∧ ∀ y, a = some y → g ≤ y.block
/-- The slice at a of n entries reads as L. -/
def SP (w : World) (a : Option Addr) (n : Nat) (L : List Smp) : Prop :=
  L.length = n ∧ ∀ i, i < n → ∃ b off, a = some ⟨b, off, none⟩ ∧ SmpAt 0 w b (off + i * 3) (sget L i)

theorem SmpAt.ext {g : Nat} {w w' : World} {b o : Nat} {x : Smp} (h : SmpAt g w b o x) (e : Ext w w') : SmpAt g w' b o x := by
  obtain ⟨a, n, c, h1, h2, h3, h4, h5, h6, h7⟩ := h
  exact ⟨a, n, c, cell_ext e h1, cell_ext e h2, cell_ext e h3, h4.ext e, h5, h6, h7⟩
theorem SmpAt.lt {g : Nat} {w : World} {b o : Nat} {x : Smp} (h : SmpAt g w b o x) : b < w.heap.size := by
  obtain ⟨a, n, c, h1, -⟩ := h
  exact World.block_lt_of_cell? w _ h1
theorem SmpAt.mono {g g' : Nat} {w : World} {b o : Nat} {x : Smp} (h : SmpAt g w b o x) (hg : g' ≤ g) : SmpAt g' w b o x := by
  obtain ⟨a, n, c, h1, h2, h3, h4, h5, h6, h7⟩ := h
  exact ⟨a, n, c, h1, h2, h3, h4, h5, h6, fun y hy => Nat.le_trans hg (h7 y hy)⟩
theorem SP.ext {w w' : World} {a : Option Addr} {n : Nat} {L : List Smp} (h : SP w a n L) (e : Ext w w') : SP w' a n L := by
  refine ⟨h.1, fun i hi => ?_⟩
  obtain ⟨b, off, ha, hs⟩ := h.2 i hi
  exact ⟨b, off, ha, hs.ext e⟩
theorem SP.drewN {w : World} {a : Option Addr} {n : Nat} {L : List Smp} (h : SP w a n L) (m : Nat) : SP (w.drewN m) a n L := h
theorem SP.nil (w : World) (a : Option Addr) : SP w a 0 [] := ⟨rfl, fun i hi => by omega⟩

/-- The world with the three cells of an entry written. -/
def put3 (w : World) (g o : Nat) (u0 u1 u2 : Value) : World := ((w.setCell ⟨g, o, none⟩ u0).setCell ⟨g, o + 1, none⟩ u1).setCell ⟨g, o + 2, none⟩ u2
theorem put3_grown (w : World) (g o : Nat) (u0 u1 u2 : Value) : w.grownBy (put3 w g o u0 u1 u2) (some g) :=
  ⟨rfl, rfl, rfl, by simp [put3], fun k _ hk => by
    unfold put3
    rw [Below.heap_setCell _ _ _ _ (fun e => hk (by simp [e])), Below.heap_setCell _ _ _ _ (fun e => hk (by simp [e])), Below.heap_setCell _ _ _ _ (fun e => hk (by simp [e]))]⟩
theorem put3_cell {w : World} {g o b q : Nat} {u0 u1 u2 : Value} (h : b ≠ g ∨ q < o ∨ o + 2 < q) : (put3 w g o u0 u1 u2).cell? ⟨b, q, none⟩ = w.cell? ⟨b, q, none⟩ := by
  unfold put3
  rw [World.cell?_setCell_other _ _ _ _ (by intro e; simp at e; omega), World.cell?_setCell_other _ _ _ _ (by intro e; simp at e; omega), World.cell?_setCell_other _ _ _ _ (by intro e; simp at e; omega)]
theorem put3_at {w : World} {g o : Nat} {u0 u1 u2 v0 v1 v2 : Value} (h0 : w.cell? ⟨g, o, none⟩ = some v0) (h1 : w.cell? ⟨g, o + 1, none⟩ = some v1) (h2 : w.cell? ⟨g, o + 2, none⟩ = some v2) :
    (put3 w g o u0 u1 u2).cell? ⟨g, o, none⟩ = some u0 ∧ (put3 w g o u0 u1 u2).cell? ⟨g, o + 1, none⟩ = some u1 ∧ (put3 w g o u0 u1 u2).cell? ⟨g, o + 2, none⟩ = some u2 := by
  unfold put3
  refine ⟨?_, ?_, ?_⟩
  · rw [World.cell?_setCell_other _ _ _ _ (by intro e; simp at e), World.cell?_setCell_other _ _ _ _ (by intro e; simp at e)]
    exact World.cell?_setCell_same _ _ _ h0
  · rw [World.cell?_setCell_other _ _ _ _ (by intro e; simp at e)]
    refine World.cell?_setCell_same _ _ _ (u := v1) ?_
    rw [World.cell?_setCell_other _ _ _ _ (by intro e; simp at e)]; exact h1
  · refine World.cell?_setCell_same _ _ _ (u := v2) ?_
    rw [World.cell?_setCell_other _ _ _ _ (by intro e; simp at e), World.cell?_setCell_other _ _ _ _ (by intro e; simp at e)]; exact h2
theorem Sl.put3 {w : World} {g o n : Nat} {a : Option Addr} {xs : List Value} {u0 u1 u2 : Value} (h : Sl w a n xs) (hg : ∀ y, a = some y → g + 1 ≤ y.block) : Sl (put3 w g o u0 u1 u2) a n xs :=
  h.grown (put3_grown w g o u0 u1 u2) (fun x hx e => by have := hg x hx; simp at e; omega)
theorem SmpAt.put_other {w : World} {g o q : Nat} {x : Smp} {u0 u1 u2 : Value} (h : SmpAt (g + 1) w g q x) (hq : q + 2 < o ∨ o + 2 < q) : SmpAt (g + 1) (put3 w g o u0 u1 u2) g q x := by
  obtain ⟨a, n, c, h1, h2, h3, h4, h5, h6, h7⟩ := h
  exact ⟨a, n, c, by rw [put3_cell (by omega)]; exact h1, by rw [put3_cell (by omega)]; exact h2, by rw [put3_cell (by omega)]; exact h3, h4.put3 h7, h5, h6, h7⟩
theorem SmpAt.put_same {w : World} {g o n c : Nat} {a : Option Addr} {x : Smp} {v0 v1 v2 : Value} (h0 : w.cell? ⟨g, o, none⟩ = some v0) (h1 : w.cell? ⟨g, o + 1, none⟩ = some v1) (h2 : w.cell? ⟨g, o + 2, none⟩ = some v2)
    (s : Sl w a n (x.2.2.map (Value.int .u8))) (hc : n ≤ c) (hc2 : c ≤ maxLen) (hg : ∀ y, a = some y → g + 1 ≤ y.block) : SmpAt (g + 1) (Proofs.YtpjjadmjdafkeaaDoor.put3 w g o (.int .i64 x.1) (.bool x.2.1) (.slice a n c)) g o x := by
  obtain ⟨k0, k1, k2⟩ := put3_at (u0 := .int .i64 x.1) (u1 := .bool x.2.1) (u2 := .slice a n c) h0 h1 h2
  exact ⟨a, n, c, k0, k1, k2, s.put3 hg, hc, hc2, hg⟩

theorem info_Sample : (Tryd.prog.info? 40).map (fun i => (i.zero, i.size, i.bytes)) = some (some (.agg #[.int .i64 0, .bool false, .slice none 0 0]), 3, 40) := by kernel_rfl
end Go.Proofs.YtpjjadmjdafkeaaDoor
