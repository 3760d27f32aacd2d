/- Lists of container entries: what they read as; the helpers of their exact laws. -/
import Derived.Test.YtpjjadmjdafkeaaRegion
import Derived.Test.YtpjjadmjdafkeaaH
namespace Go.Proofs.Ytpjjadmjdafkeaa
open Go.RowKit
set_option maxHeartbeats 400000

/-- An entry: time, key, data. -/
abbrev Smp := Int × Bool × List Int
def smp0 : Smp := (0, false, [])
/-- The i-th entry. -/
def sget (L : List Smp) (i : Nat) : Smp := L.getD i smp0
theorem sget_eq (L : List Smp) (i : Nat) (h : i < L.length) : sget L i = L[i] := by simp [sget, h]

/-- The three cells at b, o read as an entry whose data lies in no block below g. -/
def SmpAt (g : Nat) (w : World) (b o : Nat) (x : Smp) : Prop :=
  ∃ (a : Option Addr) (n c : Nat), w.cell? ⟨b, o, none⟩ = some (.int .i64 x.1) ∧ w.cell? ⟨b, o + 1, none⟩ = some (.bool x.2.1) ∧ w.cell? ⟨b, o + 2, none⟩ = some (.slice a n c) ∧ Sl w a n (x.2.2.map (Value.int .u8)) ∧ n ≤ c ∧ c ≤ maxLen ∧ ∀ y, a = some y → g ≤ y.block
/-- The slice at a of n entries reads as L. -/
def SP (w : World) (a : Option Addr) (n : Nat) (L : List Smp) : Prop :=
  L.length = n ∧ ∀ i, i < n → ∃ b off, a = some ⟨b, off, none⟩ ∧ SmpAt 0 w b (off + i * 3) (sget L i)

theorem SmpAt.ext {g : Nat} {w w' : World} {b o : Nat} {x : Smp} (h : SmpAt g w b o x) (e : Ext w w') : SmpAt g w' b o x := by
  obtain ⟨a, n, c, h1, h2, h3, h4, h5, h6, h7⟩ := h
  exact ⟨a, n, c, cell_ext e h1, cell_ext e h2, cell_ext e h3, h4.ext e, h5, h6, h7⟩
theorem SmpAt.lt {g : Nat} {w : World} {b o : Nat} {x : Smp} (h : SmpAt g w b o x) : b < w.heap.size := by
  obtain ⟨a, n, c, h1, -⟩ := h
  exact World.block_lt_of_cell? w _ h1
theorem SmpAt.mono {g g' : Nat} {w : World} {b o : Nat} {x : Smp} (h : SmpAt g w b o x) (hg : g' ≤ g) : SmpAt g' w b o x := by
  obtain ⟨a, n, c, h1, h2, h3, h4, h5, h6, h7⟩ := h
  exact ⟨a, n, c, h1, h2, h3, h4, h5, h6, fun y hy => Nat.le_trans hg (h7 y hy)⟩
theorem SP.ext {w w' : World} {a : Option Addr} {n : Nat} {L : List Smp} (h : SP w a n L) (e : Ext w w') : SP w' a n L := by
  refine ⟨h.1, fun i hi => ?_⟩
  obtain ⟨b, off, ha, hs⟩ := h.2 i hi
  exact ⟨b, off, ha, hs.ext e⟩
theorem SP.drewN {w : World} {a : Option Addr} {n : Nat} {L : List Smp} (h : SP w a n L) (m : Nat) : SP (w.drewN m) a n L := h
theorem SP.nil (w : World) (a : Option Addr) : SP w a 0 [] := ⟨rfl, fun i hi => by omega⟩

/-- The world with the three cells of an entry written. -/
def put3 (w : World) (g o : Nat) (u0 u1 u2 : Value) : World := ((w.setCell ⟨g, o, none⟩ u0).setCell ⟨g, o + 1, none⟩ u1).setCell ⟨g, o + 2, none⟩ u2
theorem put3_grown (w : World) (g o : Nat) (u0 u1 u2 : Value) : w.grownBy (put3 w g o u0 u1 u2) (some g) :=
  ⟨rfl, rfl, rfl, by simp [put3], fun k _ hk => by
    unfold put3
    rw [Below.heap_setCell _ _ _ _ (fun e => hk (by simp [e])), Below.heap_setCell _ _ _ _ (fun e => hk (by simp [e])), Below.heap_setCell _ _ _ _ (fun e => hk (by simp [e]))]⟩
theorem put3_cell {w : World} {g o b q : Nat} {u0 u1 u2 : Value} (h : b ≠ g ∨ q < o ∨ o + 2 < q) : (put3 w g o u0 u1 u2).cell? ⟨b, q, none⟩ = w.cell? ⟨b, q, none⟩ := by
  unfold put3
  rw [World.cell?_setCell_other _ _ _ _ (by intro e; simp at e; omega), World.cell?_setCell_other _ _ _ _ (by intro e; simp at e; omega), World.cell?_setCell_other _ _ _ _ (by intro e; simp at e; omega)]
theorem put3_at {w : World} {g o : Nat} {u0 u1 u2 v0 v1 v2 : Value} (h0 : w.cell? ⟨g, o, none⟩ = some v0) (h1 : w.cell? ⟨g, o + 1, none⟩ = some v1) (h2 : w.cell? ⟨g, o + 2, none⟩ = some v2) :
    (put3 w g o u0 u1 u2).cell? ⟨g, o, none⟩ = some u0 ∧ (put3 w g o u0 u1 u2).cell? ⟨g, o + 1, none⟩ = some u1 ∧ (put3 w g o u0 u1 u2).cell? ⟨g, o + 2, none⟩ = some u2 := by
  unfold put3
  refine ⟨?_, ?_, ?_⟩
  · rw [World.cell?_setCell_other _ _ _ _ (by intro e; simp at e), World.cell?_setCell_other _ _ _ _ (by intro e; simp at e)]
    exact World.cell?_setCell_same _ _ _ h0
  · rw [World.cell?_setCell_other _ _ _ _ (by intro e; simp at e)]
    refine World.cell?_setCell_same _ _ _ (u := v1) ?_
    rw [World.cell?_setCell_other _ _ _ _ (by intro e; simp at e)]; exact h1
  · refine World.cell?_setCell_same _ _ _ (u := v2) ?_
    rw [World.cell?_setCell_other _ _ _ _ (by intro e; simp at e), World.cell?_setCell_other _ _ _ _ (by intro e; simp at e)]; exact h2
theorem Sl.put3 {w : World} {g o n : Nat} {a : Option Addr} {xs : List Value} {u0 u1 u2 : Value} (h : Sl w a n xs) (hg : ∀ y, a = some y → g + 1 ≤ y.block) : Sl (put3 w g o u0 u1 u2) a n xs :=
  h.grown (put3_grown w g o u0 u1 u2) (fun x hx e => by have := hg x hx; simp at e; omega)
theorem SmpAt.put_other {w : World} {g o q : Nat} {x : Smp} {u0 u1 u2 : Value} (h : SmpAt (g + 1) w g q x) (hq : q + 2 < o ∨ o + 2 < q) : SmpAt (g + 1) (put3 w g o u0 u1 u2) g q x := by
  obtain ⟨a, n, c, h1, h2, h3, h4, h5, h6, h7⟩ := h
  exact ⟨a, n, c, by rw [put3_cell (by omega)]; exact h1, by rw [put3_cell (by omega)]; exact h2, by rw [put3_cell (by omega)]; exact h3, h4.put3 h7, h5, h6, h7⟩
theorem SmpAt.put_same {w : World} {g o n c : Nat} {a : Option Addr} {x : Smp} {v0 v1 v2 : Value} (h0 : w.cell? ⟨g, o, none⟩ = some v0) (h1 : w.cell? ⟨g, o + 1, none⟩ = some v1) (h2 : w.cell? ⟨g, o + 2, none⟩ = some v2)
    (s : Sl w a n (x.2.2.map (Value.int .u8))) (hc : n ≤ c) (hc2 : c ≤ maxLen) (hg : ∀ y, a = some y → g + 1 ≤ y.block) : SmpAt (g + 1) (Proofs.Ytpjjadmjdafkeaa.put3 w g o (.int .i64 x.1) (.bool x.2.1) (.slice a n c)) g o x := by
  obtain ⟨k0, k1, k2⟩ := put3_at (u0 := .int .i64 x.1) (u1 := .bool x.2.1) (u2 := .slice a n c) h0 h1 h2
  exact ⟨a, n, c, k0, k1, k2, s.put3 hg, hc, hc2, hg⟩

theorem info_Sample : (Try.prog.info? 91).map (fun i => (i.zero, i.size, i.bytes)) = some (some (.agg #[.int .i64 0, .bool false, .slice none 0 0]), 3, 40) := by kernel_rfl
theorem toSample_any (t : Int) (k : Bool) (a : Option Addr) (n c : Nat) (xs : List Int) (w : World) (hn : n < 2^45) (r : Sl w a n (xs.map (Value.int .u8))) :
    Calls Try.prog 70 #[.agg #[.int .i64 t, .bool k, .slice a n c]] w fun e w' => ∃ a' c', e = .returned (.agg #[.int .i64 t, .bool k, .slice a' n c']) ∧ w'.ownsRow w.heap.size 5 1 (.slice a' n c') n (xs.map (Value.int .u8)) ∧ Ext w w' := by
  go_enter Try.func70, Try.ntmps70
  have p1 := blk_alloc (blk_new (w.alloc (.cells #[.int .i64 t, .bool k, .slice a n c] 89)) (.cells #[.int .i64 0, .bool false, .slice none 0 0] 91)) (.cells #[.int .i64 t, .bool k, .slice none 0 0] 91)
  have p2 := blk_new ((w.alloc (.cells #[.int .i64 t, .bool k, .slice a n c] 89)).alloc (.cells #[.int .i64 0, .bool false, .slice none 0 0] 91)) (.cells #[.int .i64 t, .bool k, .slice none 0 0] 91)
  simp only [World.size_alloc] at p1 p2
  go_wp2_with fail
  refine (toByteS_any a c n xs _ hn (r.ext (by (repeat (first | with_reducible exact Below.refl _ _ | assumption | with_reducible refine below_drewN ?_ _ | with_reducible refine Below.drew ?_ | with_reducible refine Below.setCell ?_ (by simp <;> omega) _ | with_reducible refine Ext.trans ?_ (Ext.alloc _ _)))))).mono ?_
  rintro e w1 ⟨v, rfl, own1, e1⟩
  obtain ⟨a1, c1, rfl⟩ := owns_form own1
  have E1 : Ext w w1 := by refine Ext.trans ?_ e1; (repeat (first | with_reducible exact Below.refl _ _ | assumption | with_reducible refine below_drewN ?_ _ | with_reducible refine Below.drew ?_ | with_reducible refine Below.setCell ?_ (by simp <;> omega) _ | with_reducible refine Ext.trans ?_ (Ext.alloc _ _)))
  have q1 := e1.blk p1
  have q2 := e1.blk p2
  simp only [World.size_alloc] at own1
  clear p1 p2 e1
  obtain ⟨m0, m1, m2, m3, m4, m5, m6⟩ := bx3 q1
  obtain ⟨n0, n1, n2, n3, n4, n5, n6⟩ := bx3 q2
  clear q1 q2
  go_wp2
  refine bodyPost_ret (v := .agg #[.int .i64 t, .bool k, .slice a1 n c1]) (by simp [results, Try.results70, go_sem, m1, m2, m3]) rfl ⟨_, _, rfl, ?_, ?_⟩
  · refine owns_mono (base := w.heap.size + 1 + 1 + 1) ?_ (by omega)
    (repeat refine ownsRow_setCell_below ?_ (by simp <;> omega) _)
    exact own1
  · have hz1 : w.heap.size ≤ w.heap.size + 1 := by omega
    have hz2 : w.heap.size ≤ w.heap.size + 1 + 1 := by omega
    (repeat (first | with_reducible exact Below.refl _ _ | assumption | with_reducible refine below_drewN ?_ _ | with_reducible refine Below.drew ?_ | with_reducible refine Below.setCell ?_ (by simp <;> omega) _ | with_reducible refine Ext.trans ?_ (Ext.alloc _ _)))

/-- toSampleS: a row of entries. -/
theorem toSampleS_any (a : Option Addr) (c n : Nat) (L : List Smp) (w : World) (hn : n < 2^40) (r : SP w a n L) (hL : ∀ x ∈ L, x.2.2.length < 2^45) :
    Calls Try.prog 47 #[.slice a n c] w fun e w' => ∃ a' c', e = .returned (.slice a' n c') ∧ SP w' a' n L ∧ Ext w w' := by
  obtain ⟨i0, hi, hz0, hz1, hz2⟩ := info_parts info_Sample
  go_enter Try.func47, Try.ntmps47
  go_wp2_with (at_make; refine wpList_make_full _ rfl _ _ 60 rfl w.heap.size 91 i0 (.agg #[.int .i64 0, .bool false, .slice none 0 0]) 3 Try.underlying60 hi hz0 hz1 .i64 .i64 _ _ n rfl rfl rfl rfl (by rw [hz2]; omega) (by unfold maxLen; omega) (Nat.le_refl _) ?_; intro w1 hown hgrow)
  have E1 : Ext w w1 := (Ext.grown (Below.refl _ _) hgrow (by simp))
  have hs1 : w.heap.size < w1.heap.size := (hown.lt w.heap.size rfl).2
  go_loopw [4] (fun i wr => ∃ (k : Nat) (cs : List Value), k ≤ n ∧ i = .int .i64 k ∧ Ext w wr ∧ w.heap.size < wr.heap.size ∧ wr.ownsRow w.heap.size 91 3 (.slice (some ⟨w.heap.size, 0, none⟩) n n) n cs ∧ ∀ j, j < k → SmpAt (w.heap.size + 1) wr w.heap.size (j * 3) (sget L j)) (fun i _ => n - (intOf i).toNat)
  case atStart => exact ⟨0, _, by omega, rfl, E1, hs1, hown, fun j hj => by omega⟩
  case round =>
    obtain ⟨k, cs, hk, rfl, E2, hs2, own2, hall⟩ := hrel
    clear hown E1 hgrow hs1
    have Hall := Lib.hid hall
    clear hall
    by_cases hlt : k < n
    · obtain ⟨b1, o1, rfl, g1⟩ := (r.ext E2).2 k hlt
      obtain ⟨a2, n2, c2, h1, h2, h3, h4, h5, h6, -⟩ := g1
      have hdl : (sget L k).2.2.length < 2^45 := by
        rw [sget_eq L k (by rw [r.1]; exact hlt)]
        exact hL _ (List.getElem_mem _)
      have hn2 : n2 < 2^45 := by rw [← h4.int_len]; exact hdl
      go_wp2_with fail
      refine (toSample_any (sget L k).1 (sget L k).2.1 a2 n2 c2 (sget L k).2.2 wr hn2 h4).mono ?_
      rintro e w2 ⟨a3, c3, rfl, own3, e3⟩
      have own4 := owns_ext own2 e3
      obtain ⟨u0, d0, -⟩ := owns_at own4 (j := k * 3) (by omega)
      obtain ⟨u1, d1, -⟩ := owns_at own4 (j := k * 3 + 1) (by omega)
      obtain ⟨u2, d2, -⟩ := owns_at own4 (j := k * 3 + 2) (by omega)
      have f0 := own4.frozenAt (k * 3)
      have f1 := own4.frozenAt (k * 3 + 1)
      have f2 := own4.frozenAt (k * 3 + 2)
      have hs3 : w.heap.size < w2.heap.size := Nat.lt_of_lt_of_le hs2 e3.size
      have E3 := E2.trans e3
      have All2 := Lib.hid (fun j hj => (Hall.out j hj).ext e3)
      have s3 := Sl.of_owns own3
      have hge := owns_ge own3
      have hn3 : n2 = (sget L k).2.2.length := h4.int_len.symm
      have Hn3 := Lib.hid hn3
      clear e3 own2 E2 Hall h1 h2 h3 h4 h5 h6 hn3
      go_wp2
      go_roundw
      case rel =>
        obtain ⟨o1, g1⟩ := own4.stored (k * 3) (.int .i64 (sget L k).1)
        obtain ⟨o2, g2⟩ := o1.stored (k * 3 + 1) (.bool (sget L k).2.1)
        obtain ⟨o3, g3⟩ := o2.stored (k * 3 + 2) (.slice a3 n2 c3)
        have G3 := grownBy_trans (grownBy_trans g1 g2) g3
        refine ⟨k + 1, _, by omega, rfl, Ext.grown E3 G3 (by simp), by simpa using hs3, o3, fun j hj => ?_⟩
        have hgo : ∀ y, a3 = some y → w.heap.size + 1 ≤ y.block := fun y hy => by
          have := hge y.block (by rw [hy]; rfl)
          omega
        by_cases hjk : j = k
        · subst hjk
          exact SmpAt.put_same d0 d1 d2 s3 (owns_cap own3).1 (owns_cap own3).2 hgo
        · exact SmpAt.put_other (All2.out j (by omega)) (by omega)
      case measure => simp [intOf]; omega
    · obtain rfl : k = n := by omega
      go_wp2
      go_ret
      refine ⟨_, _, rfl, ⟨r.1, fun i hi => ⟨w.heap.size, 0, rfl, ?_⟩⟩, E2⟩
      rw [Nat.zero_add]
      exact (Hall.out i hi).mono (Nat.zero_le _)
end Go.Proofs.Ytpjjadmjdafkeaa
