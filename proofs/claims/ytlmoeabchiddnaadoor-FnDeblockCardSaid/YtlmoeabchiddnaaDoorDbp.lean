/- Deblocking: the plain filter, the edges in their order. -/
import Derived.Test.YtlmoeabchiddnaaDoorCl
import Derived.Test.YtlmoeabchiddnaaDoorIa
import Derived.Test.YtlmoeabchiddnaaDoorPc
namespace Go.Proofs.YtlmoeabchiddnaaDoor
open Go.RowKit
set_option maxHeartbeats 1000000
def fltE (a b c d L : Int) : Int := clipI ((4 * (c - b) + a - d + 4) / 8) (-L) L
/-- The two samples beside an edge, filtered. -/
def flt (a b c d L : Int) : Int × Int := if 4 * L ≤ absI (b - c) then (b, c) else (clipI (b + fltE a b c d L) 0 255, clipI (c - fltE a b c d L) 0 255)
theorem flt_rng {a b c d L : Int} (hb : 0 ≤ b ∧ b ≤ 255) (hc : 0 ≤ c ∧ c ≤ 255) : 0 ≤ (flt a b c d L).1 ∧ (flt a b c d L).1 ≤ 255 ∧ 0 ≤ (flt a b c d L).2 ∧ (flt a b c d L).2 ≤ 255 := by
  have h1 := clipI_lo (n := b + fltE a b c d L) (show (0 : Int) ≤ 255 by omega)
  have h2 := clipI_lo (n := c - fltE a b c d L) (show (0 : Int) ≤ 255 by omega)
  unfold flt
  split
  · exact ⟨hb.1, hb.2, hc.1, hc.2⟩
  · exact ⟨h1.1, h1.2, h2.1, h2.2⟩
theorem flt_zero (a b c d : Int) : flt a b c d 0 = (b, c) := by
  unfold flt
  rw [if_pos (by have := absI_nn (b - c); omega)]
theorem flt_flat {v L : Int} (hv : 0 ≤ v ∧ v ≤ 255) (hL : 0 ≤ L) : flt v v v v L = (v, v) := by
  have e : fltE v v v v L = 0 := by
    unfold fltE
    rw [show (4 * (v - v) + v - v + 4) / 8 = 0 by omega]
    exact clipI_in (by omega) (by omega)
  unfold flt
  rw [e]
  split
  · rfl
  · rw [show v + 0 = v by omega, show v - 0 = v by omega, clipI_in hv.1 hv.2]
/-- One edge filtered. -/
def dbS (L : Int) (zs : List Int) (e : Nat × Nat) : List Int :=
  (zs.set (e.1 - e.2) (flt (nth zs (e.1 - 2 * e.2)) (nth zs (e.1 - e.2)) (nth zs e.1) (nth zs (e.1 + e.2)) L).1).set e.1 (flt (nth zs (e.1 - 2 * e.2)) (nth zs (e.1 - e.2)) (nth zs e.1) (nth zs (e.1 + e.2)) L).2
def dbL (L : Int) (zs : List Int) (es : List (Nat × Nat)) : List Int := es.foldl (dbS L) zs
theorem dbL_nil (L : Int) (zs : List Int) : dbL L zs [] = zs := rfl
theorem dbL_snoc (L : Int) (zs : List Int) (es : List (Nat × Nat)) (e : Nat × Nat) : dbL L zs (es ++ [e]) = dbS L (dbL L zs es) e := by simp [dbL, List.foldl_append]
theorem dbL_app (L : Int) (zs : List Int) (es fs : List (Nat × Nat)) : dbL L zs (es ++ fs) = dbL L (dbL L zs es) fs := by simp [dbL, List.foldl_append]
theorem dbS_len (L : Int) (zs : List Int) (e : Nat × Nat) : (dbS L zs e).length = zs.length := by simp [dbS]
theorem dbL_len (L : Int) (zs : List Int) (es : List (Nat × Nat)) : (dbL L zs es).length = zs.length := by
  induction es generalizing zs with
  | nil => rfl
  | cons e es ih => show (dbL L (dbS L zs e) es).length = _; rw [ih, dbS_len]
/-- An edge inside N samples. -/
def edgeOk (N : Nat) (e : Nat × Nat) : Prop := 1 ≤ e.2 ∧ 2 * e.2 ≤ e.1 ∧ e.1 + e.2 < N
theorem smp_set {zs : List Int} (h : smp zs) (i : Nat) {v : Int} (hv : 0 ≤ v ∧ v ≤ 255) : smp (zs.set i v) := by
  intro z hz
  rcases List.mem_or_eq_of_mem_set hz with h1 | rfl
  · exact h z h1
  · exact hv
theorem dbS_smp {L : Int} {zs : List Int} {e : Nat × Nat} (h : smp zs) (he : edgeOk zs.length e) : smp (dbS L zs e) := by
  obtain ⟨h1, h2, h3⟩ := he
  have r := flt_rng (a := nth zs (e.1 - 2 * e.2)) (d := nth zs (e.1 + e.2)) (L := L) (smp_nth h (i := e.1 - e.2) (by omega)) (smp_nth h (i := e.1) (by omega))
  exact smp_set (smp_set h _ ⟨r.1, r.2.1⟩) _ ⟨r.2.2.1, r.2.2.2⟩
theorem dbL_smp {L : Int} {zs : List Int} {es : List (Nat × Nat)} (h : smp zs) (he : ∀ e ∈ es, edgeOk zs.length e) : smp (dbL L zs es) := by
  induction es generalizing zs with
  | nil => exact h
  | cons e es ih =>
    show smp (dbL L (dbS L zs e) es)
    refine ih (dbS_smp h (he e (by simp))) fun e' he' => ?_
    rw [dbS_len]
    exact he e' (by simp [he'])
theorem nth_set_self (zs : List Int) (i : Nat) (h : i < zs.length) : zs.set i (nth zs i) = zs := by
  rw [nth_eq _ _ h]; exact List.set_getElem_self h
theorem dbS_zero {zs : List Int} {e : Nat × Nat} (he : edgeOk zs.length e) : dbS 0 zs e = zs := by
  obtain ⟨h1, h2, h3⟩ := he
  unfold dbS
  rw [flt_zero]
  simp only
  rw [nth_set_self _ _ (by omega), nth_set_self _ _ (by omega)]
theorem dbL_zero {zs : List Int} {es : List (Nat × Nat)} (he : ∀ e ∈ es, edgeOk zs.length e) : dbL 0 zs es = zs := by
  induction es with
  | nil => rfl
  | cons e es ih =>
    show dbL 0 (dbS 0 zs e) es = zs
    rw [dbS_zero (he e (by simp))]
    exact ih fun e' he' => he e' (by simp [he'])
theorem nth_rep (n i : Nat) (v : Int) (h : i < n) : nth (List.replicate n v) i = v := by simp [nth, h]
theorem dbS_flat {n : Nat} {v L : Int} {e : Nat × Nat} (hv : 0 ≤ v ∧ v ≤ 255) (hL : 0 ≤ L) (he : edgeOk n e) : dbS L (List.replicate n v) e = List.replicate n v := by
  obtain ⟨h1, h2, h3⟩ := he
  have h4 : ∀ i, i < n → (List.replicate n v).set i v = List.replicate n v := fun i hi => by
    have := nth_set_self (List.replicate n v) i (by simp; exact hi)
    rwa [nth_rep _ _ _ hi] at this
  unfold dbS
  rw [nth_rep _ _ _ (by omega), nth_rep _ _ _ (by omega), nth_rep _ _ _ (by omega), nth_rep _ _ _ (by omega), flt_flat hv hL]
  simp only
  rw [h4 _ (by omega), h4 _ (by omega)]
theorem dbL_flat {n : Nat} {v L : Int} {es : List (Nat × Nat)} (hv : 0 ≤ v ∧ v ≤ 255) (hL : 0 ≤ L) (he : ∀ e ∈ es, edgeOk n e) : dbL L (List.replicate n v) es = List.replicate n v := by
  induction es with
  | nil => rfl
  | cons e es ih =>
    show dbL L (dbS L _ e) es = _
    rw [dbS_flat hv hL (he e (by simp))]
    exact ih fun e' he' => he e' (by simp [he'])
/-- The edges of the first k columns of blocks in row y; of all rows before y; and likewise by columns. -/
def rowE (W y k : Nat) : List (Nat × Nat) := (List.range k).map fun j => (y * W + 4 * (j + 1), 1)
def rowsE (W n : Nat) : Nat → List (Nat × Nat)
  | 0 => []
  | y + 1 => rowsE W n y ++ rowE W y n
def colE (W x k : Nat) : List (Nat × Nat) := (List.range k).map fun j => (4 * (j + 1) * W + x, W)
def colsE (W n : Nat) : Nat → List (Nat × Nat)
  | 0 => []
  | x + 1 => colsE W n x ++ colE W x n
def edgesL (W H : Nat) : List (Nat × Nat) := rowsE W (W / 4 - 1) H ++ colsE W (H / 4 - 1) W
theorem rowE_succ (W y k : Nat) : rowE W y (k + 1) = rowE W y k ++ [(y * W + 4 * (k + 1), 1)] := by simp [rowE, List.range_succ]
theorem colE_succ (W x k : Nat) : colE W x (k + 1) = colE W x k ++ [(4 * (k + 1) * W + x, W)] := by simp [colE, List.range_succ]
theorem row_ok {W H y k : Nat} (hy : y < H) (hk : 4 * (k + 1) < W) (h4 : W % 4 = 0) : edgeOk (W * H) (y * W + 4 * (k + 1), 1) := by
  have h1 : (y + 1) * W ≤ H * W := Nat.mul_le_mul_right W hy
  have h2 : (y + 1) * W = y * W + W := Nat.succ_mul y W
  rw [Nat.mul_comm W H]
  exact ⟨Nat.le_refl _, by simp; omega, by simp; omega⟩
theorem col_ok {W H x k : Nat} (hx : x < W) (hk : 4 * (k + 1) < H) (h4 : H % 4 = 0) : edgeOk (W * H) (4 * (k + 1) * W + x, W) := by
  have h1 : (4 * (k + 1) + 2) * W ≤ H * W := Nat.mul_le_mul_right W (by omega)
  have h2 : (4 * (k + 1) + 2) * W = 4 * (k + 1) * W + 2 * W := Nat.add_mul _ _ _
  have h3 : 2 * W ≤ 4 * (k + 1) * W := Nat.mul_le_mul_right W (by omega)
  rw [Nat.mul_comm W H]
  exact ⟨by simp; omega, by simp; omega, by simp; omega⟩
theorem edges_ok {W H : Nat} (hw : W % 4 = 0) (hh : H % 4 = 0) : ∀ e ∈ edgesL W H, edgeOk (W * H) e := by
  have hr : ∀ y, y ≤ H → ∀ e ∈ rowsE W (W / 4 - 1) y, edgeOk (W * H) e := by
    intro y
    induction y with
    | zero => intro _ e he; cases he
    | succ y ih =>
      intro hy e he
      rcases List.mem_append.1 he with h | h
      · exact ih (by omega) e h
      · obtain ⟨j, hj, rfl⟩ := List.mem_map.1 h
        have := List.mem_range.1 hj
        exact row_ok (by omega) (by omega) hw
  have hc : ∀ x, x ≤ W → ∀ e ∈ colsE W (H / 4 - 1) x, edgeOk (W * H) e := by
    intro x
    induction x with
    | zero => intro _ e he; cases he
    | succ x ih =>
      intro hx e he
      rcases List.mem_append.1 he with h | h
      · exact ih (by omega) e h
      · obtain ⟨j, hj, rfl⟩ := List.mem_map.1 h
        have := List.mem_range.1 hj
        exact col_ok (by omega) (by omega) hh
  intro e he
  rcases List.mem_append.1 he with h | h
  · exact hr H (Nat.le_refl _) e h
  · exact hc W (Nat.le_refl _) e h
end Go.Proofs.YtlmoeabchiddnaaDoor
