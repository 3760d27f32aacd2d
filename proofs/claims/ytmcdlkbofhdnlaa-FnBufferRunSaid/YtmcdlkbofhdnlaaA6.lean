/- Contracts: BufferRun. -/
import Derived.Test.YtmcdlkbofhdnlaaA5
import Derived.Test.YtmcdlkbofhdnlaaRegion
namespace Go.Proofs.Ytmcdlkbofhdnlaa
open Go.RowKit
set_option maxHeartbeats 400000

/-- The fill behind an arrival. -/
def arr (s r f : Int) : Int := if s < f + r then s else f + r
theorem arr_valid {s r f : Int} (h : vbuf s r f) : vbuf s r (arr s r f) := by
  unfold vbuf arr at *
  split <;> omega
theorem arrive_any (s r f : Int) (w : World) (h : vbuf s r f) :
    Calls Try.prog 56 #[.agg #[.int .i64 s, .int .i64 r, .int .i64 f]] w fun e w' => e = .returned (.agg #[.int .i64 s, .int .i64 r, .int .i64 (arr s r f)]) ∧ Ext w w' := by
  have hv := h
  obtain ⟨h1, h2, h3, h4, h5, h6⟩ := h
  by_cases hc0 : s < f + r
  · have hh : s < f + r := by omega
    rw [show arr s r f = s from if_pos hc0]
    clear hc0
    go_enter Try.func56, Try.ntmps56
    go_wp2
    refine bodyPost_ret (v := .agg #[.int .i64 s, .int .i64 r, .int .i64 (s)]) (by simp [results, Try.results56, go_sem]) rfl ⟨rfl, ?_⟩
    (repeat (first | with_reducible exact Below.refl _ _ | assumption | with_reducible refine below_drewN ?_ _ | with_reducible refine Below.drew ?_ | with_reducible refine Below.setCell ?_ (by simp <;> omega) _ | with_reducible refine Ext.trans ?_ (Ext.alloc _ _)))
  · have hh : ¬ s < f + r := by omega
    rw [show arr s r f = f + r from if_neg hc0]
    clear hc0
    go_enter Try.func56, Try.ntmps56
    go_wp2
    refine bodyPost_ret (v := .agg #[.int .i64 s, .int .i64 r, .int .i64 (f + r)]) (by simp [results, Try.results56, go_sem]) rfl ⟨rfl, ?_⟩
    (repeat (first | with_reducible exact Below.refl _ _ | assumption | with_reducible refine below_drewN ?_ _ | with_reducible refine Below.drew ?_ | with_reducible refine Below.setCell ?_ (by simp <;> omega) _ | with_reducible refine Ext.trans ?_ (Ext.alloc _ _)))
theorem spec_BufferArrive_any (s r f : Int) (w : World) (h : vbuf s r f) :
    Calls Try.prog 53 #[.agg #[.int .i64 s, .int .i64 r, .int .i64 f]] w fun e w' => e = .returned (.agg #[.int .i64 s, .int .i64 r, .int .i64 (arr s r f)]) ∧ Ext w w' := by
  have hv := h
  obtain ⟨h1, h2, h3, h4, h5, h6⟩ := h
  by_cases hc0 : s ≤ f + r
  · have hh : s ≤ f + r := by omega
    rw [show arr s r f = s by unfold arr; split <;> omega]
    clear hc0
    go_enter Try.func53, Try.ntmps53
    go_wp2_with fail
    refine (spec_BufferValid_yes s r f _ hv).mono ?_
    rintro e w1 ⟨rfl, e1⟩
    obtain ⟨hc, hf⟩ := bcell e1
    have hz : w.heap.size + 1 < w1.heap.size := by have := e1.size; simp at this; omega
    have E1 : Ext w w1 := by refine Ext.trans ?_ e1; (repeat (first | with_reducible exact Below.refl _ _ | assumption | with_reducible refine below_drewN ?_ _ | with_reducible refine Below.drew ?_ | with_reducible refine Below.setCell ?_ (by simp <;> omega) _ | with_reducible refine Ext.trans ?_ (Ext.alloc _ _)))
    have c0 : w1.cell? ⟨w.heap.size, 0, none⟩ = some (.int .i64 s) := by rw [hc _ _ (by simp; omega), World.cell?_alloc_past _ _ _ (by simp), World.cell?_alloc_at _ _ _ _ rfl]; rfl
    have c1 : w1.cell? ⟨w.heap.size, 1, none⟩ = some (.int .i64 r) := by rw [hc _ _ (by simp; omega), World.cell?_alloc_past _ _ _ (by simp), World.cell?_alloc_at _ _ _ _ rfl]; rfl
    have c2 : w1.cell? ⟨w.heap.size, 2, none⟩ = some (.int .i64 f) := by rw [hc _ _ (by simp; omega), World.cell?_alloc_past _ _ _ (by simp), World.cell?_alloc_at _ _ _ _ rfl]; rfl
    clear e1
    go_wp2
    refine bodyPost_ret (v := .agg #[.int .i64 s, .int .i64 r, .int .i64 (s)]) (by simp [results, Try.results53, go_sem, hc]) rfl ⟨rfl, ?_⟩
    (repeat (first | with_reducible exact Below.refl _ _ | assumption | with_reducible refine below_drewN ?_ _ | with_reducible refine Below.drew ?_ | with_reducible refine Below.setCell ?_ (by simp <;> omega) _ | with_reducible refine Ext.trans ?_ (Ext.alloc _ _)))
  · have hh : ¬ s ≤ f + r := by omega
    rw [show arr s r f = f + r by unfold arr; split <;> omega]
    clear hc0
    go_enter Try.func53, Try.ntmps53
    go_wp2_with fail
    refine (spec_BufferValid_yes s r f _ hv).mono ?_
    rintro e w1 ⟨rfl, e1⟩
    obtain ⟨hc, hf⟩ := bcell e1
    have hz : w.heap.size + 1 < w1.heap.size := by have := e1.size; simp at this; omega
    have E1 : Ext w w1 := by refine Ext.trans ?_ e1; (repeat (first | with_reducible exact Below.refl _ _ | assumption | with_reducible refine below_drewN ?_ _ | with_reducible refine Below.drew ?_ | with_reducible refine Below.setCell ?_ (by simp <;> omega) _ | with_reducible refine Ext.trans ?_ (Ext.alloc _ _)))
    have c0 : w1.cell? ⟨w.heap.size, 0, none⟩ = some (.int .i64 s) := by rw [hc _ _ (by simp; omega), World.cell?_alloc_past _ _ _ (by simp), World.cell?_alloc_at _ _ _ _ rfl]; rfl
    have c1 : w1.cell? ⟨w.heap.size, 1, none⟩ = some (.int .i64 r) := by rw [hc _ _ (by simp; omega), World.cell?_alloc_past _ _ _ (by simp), World.cell?_alloc_at _ _ _ _ rfl]; rfl
    have c2 : w1.cell? ⟨w.heap.size, 2, none⟩ = some (.int .i64 f) := by rw [hc _ _ (by simp; omega), World.cell?_alloc_past _ _ _ (by simp), World.cell?_alloc_at _ _ _ _ rfl]; rfl
    clear e1
    go_wp2
    refine bodyPost_ret (v := .agg #[.int .i64 s, .int .i64 r, .int .i64 (f + r)]) (by simp [results, Try.results53, go_sem, hc]) rfl ⟨rfl, ?_⟩
    (repeat (first | with_reducible exact Below.refl _ _ | assumption | with_reducible refine below_drewN ?_ _ | with_reducible refine Below.drew ?_ | with_reducible refine Below.setCell ?_ (by simp <;> omega) _ | with_reducible refine Ext.trans ?_ (Ext.alloc _ _)))
/-- A run of a buffer: how many pictures, and the fill behind them. -/
def brun (s r : Int) : Int → List Int → Nat × Int
  | f, [] => (0, f)
  | f, n :: ns => if n < 0 ∨ arr s r f < n then (0, f) else ((brun s r (arr s r f - n) ns).1 + 1, (brun s r (arr s r f - n) ns).2)
theorem btake_no {s r f b : Int} (h : vbuf s r f) (hb : b < 0 ∨ f < b) : (btake s r f b).2 = false := by
  unfold btake
  by_cases h1 : vbuf s r f ∧ 0 ≤ b
  · rw [if_pos h1, if_pos (by omega)]
  · rw [if_neg h1]
theorem btake_yes {s r f b : Int} (h : vbuf s r f) (hb : 0 ≤ b) (hf : b ≤ f) : btake s r f b = ((s, r, f - b), true) := by
  unfold btake
  rw [if_pos ⟨h, hb⟩, if_neg (by omega)]
theorem brun_stop {s r f : Int} {xs : List Int} {k : Nat} (hk : k < xs.length) (h : nth xs k < 0 ∨ arr s r f < nth xs k) : brun s r f (xs.drop k) = (0, f) := by
  rw [List.drop_eq_getElem_cons hk]
  rw [nth_eq xs k hk] at h
  simp [brun, h]
theorem brun_go {s r f : Int} {xs : List Int} {k : Nat} (hk : k < xs.length) (h0 : 0 ≤ nth xs k) (h1 : nth xs k ≤ arr s r f) : brun s r f (xs.drop k) = ((brun s r (arr s r f - nth xs k) (xs.drop (k + 1))).1 + 1, (brun s r (arr s r f - nth xs k) (xs.drop (k + 1))).2) := by
  rw [List.drop_eq_getElem_cons hk]
  rw [nth_eq xs k hk] at *
  rw [brun, if_neg (by omega)]
theorem spec_BufferRun_yes (s r f : Int) (a : Option Addr) (c n : Nat) (xs0 : List Int) (w : World) (hn : n < 2^47) (sl : Sl w a n (xs0.map (Value.int .i64))) (h : vbuf s r f) :
    Calls Try.prog 20 #[.agg #[.int .i64 s, .int .i64 r, .int .i64 f], .slice a n c] w fun e w' => e = .returned (.tuple #[.int .i64 (brun s r f xs0).1, btV (s, r, (brun s r f xs0).2)]) ∧ Ext w w' := by
  go_enter Try.func20, Try.ntmps20
  have p0 := blk_alloc (blk_new w (.cells #[.int .i64 s, .int .i64 r, .int .i64 f] 38)) (.cells #[.int .i64 0, .int .i64 0, .int .i64 0] 38)
  have p1 := blk_new (w.alloc (.cells #[.int .i64 s, .int .i64 r, .int .i64 f] 38)) (.cells #[.int .i64 0, .int .i64 0, .int .i64 0] 38)
  simp only [World.size_alloc] at p1
  go_wp2_with fail
  refine (spec_BufferValid_yes s r f _ h).mono ?_
  rintro e w1 ⟨rfl, e1⟩
  have q0 := e1.blk p0
  have q1 := e1.blk p1
  have E1 : Ext w w1 := by refine Ext.trans ?_ e1; (repeat (first | with_reducible exact Below.refl _ _ | assumption | with_reducible refine below_drewN ?_ _ | with_reducible refine Below.drew ?_ | with_reducible refine Below.setCell ?_ (by simp <;> omega) _ | with_reducible refine Ext.trans ?_ (Ext.alloc _ _)))
  clear e1 p0 p1
  go_wp2_with fail
  go_loopw [6] (fun i wr => ∃ (k : Nat) (g : Int), k ≤ n ∧ i = .int .i64 k ∧ Ext w wr ∧ vbuf s r g ∧ Hid (brun s r f xs0 = (k + (brun s r g (xs0.drop k)).1, (brun s r g (xs0.drop k)).2)) ∧ wr.heap[w.heap.size]? = some (.cells #[.int .i64 s, .int .i64 r, .int .i64 g] 38 (0, 0)) ∧ wr.heap[w.heap.size + 1]? = some (.cells #[.int .i64 0, .int .i64 0, .int .i64 0] 38 (0, 0))) (fun i _ => n - (intOf i).toNat)
  case atStart => exact ⟨0, f, by omega, rfl, E1, h, Lib.hid (by simp), q0, q1⟩
  case round =>
    obtain ⟨k, g, hk, rfl, E2, hv, Hr, q0, q1⟩ := hrel
    obtain ⟨c1, c2, c3, c4, c5, c6, c7⟩ := bx3 q0
    by_cases hlt : k < n
    · obtain ⟨b1, o1, rfl, g1⟩ := (sl.ext E2).int hlt
      have hb1 := World.block_lt_of_cell? wr _ g1
      go_wp2_with fail
      have hext : ∀ (i : Nat) (own : Value) (ys : Nat → Value) (wa wb : World), Ext wa wb → (match i with | 0 => own = .agg #[.int .i64 s, .int .i64 r, .int .i64 g] | 1 => own = .agg #[.int .i64 s, .int .i64 r, .int .i64 (arr s r g)] | 2 => own = .slice (some ⟨b1, o1, none⟩) n c | 3 => own = .int .i64 k | 4 => own = .pointer (some ⟨b1, o1 + k, none⟩) | 5 => own = .int .i64 (nth xs0 k) | 6 => own = .tuple #[btV (btake s r (arr s r g) (nth xs0 k)).1, .bool (btake s r (arr s r g) (nth xs0 k)).2] | 7 => own = .tuple #[btV (btake s r (arr s r g) (nth xs0 k)).1, .bool (btake s r (arr s r g) (nth xs0 k)).2] | 8 => own = btV (btake s r (arr s r g) (nth xs0 k)).1 | 9 => own = .bool (btake s r (arr s r g) (nth xs0 k)).2 | 10 => ∃ q x y z, own = .pointer (some ⟨q, 0, none⟩) ∧ wr.heap.size ≤ q ∧ wa.heap[q]? = some (.cells #[x, y, z] 38 (0, 0)) | 11 => ∃ q, ys 10 = .pointer (some ⟨q, 0, none⟩) ∧ wr.heap.size ≤ q ∧ wa.heap[q]? = some (.cells #[.int .i64 (btake s r (arr s r g) (nth xs0 k)).1.1, .int .i64 (btake s r (arr s r g) (nth xs0 k)).1.2.1, .int .i64 (btake s r (arr s r g) (nth xs0 k)).1.2.2] 38 (0, 0)) | 12 => own = .bool (btake s r (arr s r g) (nth xs0 k)).2 | _ => True) → (match i with | 0 => own = .agg #[.int .i64 s, .int .i64 r, .int .i64 g] | 1 => own = .agg #[.int .i64 s, .int .i64 r, .int .i64 (arr s r g)] | 2 => own = .slice (some ⟨b1, o1, none⟩) n c | 3 => own = .int .i64 k | 4 => own = .pointer (some ⟨b1, o1 + k, none⟩) | 5 => own = .int .i64 (nth xs0 k) | 6 => own = .tuple #[btV (btake s r (arr s r g) (nth xs0 k)).1, .bool (btake s r (arr s r g) (nth xs0 k)).2] | 7 => own = .tuple #[btV (btake s r (arr s r g) (nth xs0 k)).1, .bool (btake s r (arr s r g) (nth xs0 k)).2] | 8 => own = btV (btake s r (arr s r g) (nth xs0 k)).1 | 9 => own = .bool (btake s r (arr s r g) (nth xs0 k)).2 | 10 => ∃ q x y z, own = .pointer (some ⟨q, 0, none⟩) ∧ wr.heap.size ≤ q ∧ wb.heap[q]? = some (.cells #[x, y, z] 38 (0, 0)) | 11 => ∃ q, ys 10 = .pointer (some ⟨q, 0, none⟩) ∧ wr.heap.size ≤ q ∧ wb.heap[q]? = some (.cells #[.int .i64 (btake s r (arr s r g) (nth xs0 k)).1.1, .int .i64 (btake s r (arr s r g) (nth xs0 k)).1.2.1, .int .i64 (btake s r (arr s r g) (nth xs0 k)).1.2.2] 38 (0, 0)) | 12 => own = .bool (btake s r (arr s r g) (nth xs0 k)).2 | _ => True) := by
        intro i own ys wa wb e h
        match i, h with
        | 0, h => exact h
        | 1, h => exact h
        | 2, h => exact h
        | 3, h => exact h
        | 4, h => exact h
        | 5, h => exact h
        | 6, h => exact h
        | 7, h => exact h
        | 8, h => exact h
        | 9, h => exact h
        | 10, h => obtain ⟨q, x, y, z, h1, h2, h3⟩ := h; exact ⟨q, x, y, z, h1, h2, e.blk h3⟩
        | 11, h => obtain ⟨q, h1, h2, h3⟩ := h; exact ⟨q, h1, h2, e.blk h3⟩
        | 12, h => exact h
        | _ + 13, _ => trivial
      have Hext := Lib.hid hext
      clear hext
      refine wp_region_inv2 (by kernel_rfl) [(7, 10), (8, 12), (19, 7), (20, 0), (21, 1), (22, 2), (23, 3), (24, 4), (25, 5), (26, 6), (27, 8), (28, 9)] [[], [0], [], [], [2, 3], [2, 3, 4], [0, 1, 2, 3, 4, 5], [0, 1, 2, 3, 4, 5, 6], [0, 1, 2, 3, 4, 5, 6, 7], [0, 1, 2, 3, 4, 5, 6, 7], [], [0, 1, 2, 3, 4, 5, 6, 7, 8, 10], [0, 1, 2, 3, 4, 5, 6, 7, 8, 9, 10, 11]] (fun i own ys wx => match i with | 0 => own = .agg #[.int .i64 s, .int .i64 r, .int .i64 g] | 1 => own = .agg #[.int .i64 s, .int .i64 r, .int .i64 (arr s r g)] | 2 => own = .slice (some ⟨b1, o1, none⟩) n c | 3 => own = .int .i64 k | 4 => own = .pointer (some ⟨b1, o1 + k, none⟩) | 5 => own = .int .i64 (nth xs0 k) | 6 => own = .tuple #[btV (btake s r (arr s r g) (nth xs0 k)).1, .bool (btake s r (arr s r g) (nth xs0 k)).2] | 7 => own = .tuple #[btV (btake s r (arr s r g) (nth xs0 k)).1, .bool (btake s r (arr s r g) (nth xs0 k)).2] | 8 => own = btV (btake s r (arr s r g) (nth xs0 k)).1 | 9 => own = .bool (btake s r (arr s r g) (nth xs0 k)).2 | 10 => ∃ q x y z, own = .pointer (some ⟨q, 0, none⟩) ∧ wr.heap.size ≤ q ∧ wx.heap[q]? = some (.cells #[x, y, z] 38 (0, 0)) | 11 => ∃ q, ys 10 = .pointer (some ⟨q, 0, none⟩) ∧ wr.heap.size ≤ q ∧ wx.heap[q]? = some (.cells #[.int .i64 (btake s r (arr s r g) (nth xs0 k)).1.1, .int .i64 (btake s r (arr s r g) (nth xs0 k)).1.2.1, .int .i64 (btake s r (arr s r g) (nth xs0 k)).1.2.2] 38 (0, 0)) | 12 => own = .bool (btake s r (arr s r g) (nth xs0 k)).2 | _ => True) (fun kx wx => Ext wr wx) (by kernel_rfl) (by kernel_rfl) (by kernel_rfl) ?g0_r1 ?gop_r1 ?gend_r1
      case g0_r1 => exact Ext.drewN _ 1
      case gop_r1 =>
        refine ⟨?_, ?_, ?_, ?_, ?_, ?_, ?_, ?_, ?_, ?_, ?_, ?_, ?_, trivial⟩
        · intro kx xs wx hk hG hD Qo Kx hK hQo
          clear hD
          simp only [patchS, Nat.reduceAdd, Nat.reduceEqDiff, ↓reduceIte] at hQo ⊢
          have c2' := (cell_ext hG c2)
          have c3' := (cell_ext hG c3)
          have c4' := (cell_ext hG c4)
          go_wp2
          exact hK.out _ _ ⟨rfl, hG, fun _ _ _ _ _ _ h => h⟩
        · intro kx xs wx hk hG hD Qo Kx hK hQo
          have d0 : (xs 0) = .agg #[.int .i64 s, .int .i64 r, .int .i64 g] := hD 0 rfl
          clear hD
          simp only [patchS, Nat.reduceAdd, Nat.reduceEqDiff, ↓reduceIte] at hQo ⊢
          generalize xs 0 = y0 at *
          subst d0
          go_wp2_with fail
          refine (spec_BufferArrive_any s r g _ hv).mono ?_
          rintro e w4 ⟨rfl, e4⟩
          go_wp2
          exact hK.out _ _ ⟨rfl, hG.trans e4, fun i _ _ _ own ys h => Hext.out i own ys _ _ e4 h⟩
        · intro kx xs wx hk hG hD Qo Kx hK hQo
          clear hD
          simp only [patchS, Nat.reduceAdd, Nat.reduceEqDiff, ↓reduceIte] at hQo ⊢
          go_wp2
          exact hK.out _ _ ⟨rfl, hG, fun _ _ _ _ _ _ h => h⟩
        · intro kx xs wx hk hG hD Qo Kx hK hQo
          clear hD
          simp only [patchS, Nat.reduceAdd, Nat.reduceEqDiff, ↓reduceIte] at hQo ⊢
          go_wp2
          exact hK.out _ _ ⟨rfl, hG, fun _ _ _ _ _ _ h => h⟩
        · intro kx xs wx hk hG hD Qo Kx hK hQo
          have d2 : (xs 2) = .slice (some ⟨b1, o1, none⟩) n c := hD 2 rfl
          have d3 : (xs 3) = .int .i64 k := hD 3 rfl
          clear hD
          simp only [patchS, Nat.reduceAdd, Nat.reduceEqDiff, ↓reduceIte] at hQo ⊢
          generalize xs 2 = y2 at *
          generalize xs 3 = y3 at *
          subst d2
          subst d3
          go_wp2
          exact hK.out _ _ ⟨rfl, hG, fun _ _ _ _ _ _ h => h⟩
        · intro kx xs wx hk hG hD Qo Kx hK hQo
          have d4 : (xs 4) = .pointer (some ⟨b1, o1 + k, none⟩) := hD 4 rfl
          clear hD
          simp only [patchS, Nat.reduceAdd, Nat.reduceEqDiff, ↓reduceIte] at hQo ⊢
          generalize xs 4 = y4 at *
          subst d4
          have c5' := (cell_ext hG g1)
          go_wp2
          exact hK.out _ _ ⟨rfl, hG, fun _ _ _ _ _ _ h => h⟩
        · intro kx xs wx hk hG hD Qo Kx hK hQo
          have d1 : (xs 1) = .agg #[.int .i64 s, .int .i64 r, .int .i64 (arr s r g)] := hD 1 rfl
          have d5 : (xs 5) = .int .i64 (nth xs0 k) := hD 5 rfl
          clear hD
          simp only [patchS, Nat.reduceAdd, Nat.reduceEqDiff, ↓reduceIte] at hQo ⊢
          generalize xs 1 = y1 at *
          generalize xs 5 = y5 at *
          subst d1
          subst d5
          go_wp2_with fail
          refine (spec_BufferTake_any s r _ _ _).mono ?_
          rintro e w4 ⟨rfl, e4⟩
          go_wp2
          exact hK.out _ _ ⟨rfl, hG.trans e4, fun i _ _ _ own ys h => Hext.out i own ys _ _ e4 h⟩
        · intro kx xs wx hk hG hD Qo Kx hK hQo
          have d6 : (xs 6) = .tuple #[btV (btake s r (arr s r g) (nth xs0 k)).1, .bool (btake s r (arr s r g) (nth xs0 k)).2] := hD 6 rfl
          clear hD
          simp only [patchS, Nat.reduceAdd, Nat.reduceEqDiff, ↓reduceIte] at hQo ⊢
          generalize xs 6 = y6 at *
          subst d6
          go_wp2
          exact hK.out _ _ ⟨rfl, hG, fun _ _ _ _ _ _ h => h⟩
        · intro kx xs wx hk hG hD Qo Kx hK hQo
          have d7 : (xs 7) = .tuple #[btV (btake s r (arr s r g) (nth xs0 k)).1, .bool (btake s r (arr s r g) (nth xs0 k)).2] := hD 7 rfl
          clear hD
          simp only [patchS, Nat.reduceAdd, Nat.reduceEqDiff, ↓reduceIte] at hQo ⊢
          generalize xs 7 = y7 at *
          subst d7
          go_wp2
          exact hK.out _ _ ⟨rfl, hG, fun _ _ _ _ _ _ h => h⟩
        · intro kx xs wx hk hG hD Qo Kx hK hQo
          have d7 : (xs 7) = .tuple #[btV (btake s r (arr s r g) (nth xs0 k)).1, .bool (btake s r (arr s r g) (nth xs0 k)).2] := hD 7 rfl
          clear hD
          simp only [patchS, Nat.reduceAdd, Nat.reduceEqDiff, ↓reduceIte] at hQo ⊢
          generalize xs 7 = y7 at *
          subst d7
          go_wp2
          exact hK.out _ _ ⟨rfl, hG, fun _ _ _ _ _ _ h => h⟩
        · intro kx xs wx hk hG hD Qo Kx hK hQo
          clear hD
          simp only [patchS, Nat.reduceAdd, Nat.reduceEqDiff, ↓reduceIte] at hQo ⊢
          have e5 := Ext.alloc wx (.cells #[.int .i64 0, .int .i64 0, .int .i64 0] 38)
          go_wp2
          exact hK.out _ _ ⟨⟨_, _, _, _, rfl, hG.size, blk_new _ _⟩, hG.trans e5, fun i _ _ _ own ys h => Hext.out i own ys _ _ e5 h⟩
        · intro kx xs wx hk hG hD Qo Kx hK hQo
          have d10 : ∃ q x y z, (xs 10) = .pointer (some ⟨q, 0, none⟩) ∧ wr.heap.size ≤ q ∧ wx.heap[q]? = some (.cells #[x, y, z] 38 (0, 0)) := hD 10 rfl
          have d8 : (xs 8) = btV (btake s r (arr s r g) (nth xs0 k)).1 := hD 8 rfl
          clear hD
          simp only [patchS, Nat.reduceAdd, Nat.reduceEqDiff, ↓reduceIte] at hQo ⊢
          generalize hx10 : xs 10 = y10 at *
          have Hx10 := Lib.hid hx10
          clear hx10
          generalize xs 8 = y8 at *
          obtain ⟨q, x, y, z, rfl, hq, hqb⟩ := d10
          subst d8
          obtain ⟨z0, z1, z2, z3, z4, z5, z6⟩ := bx3 hqb
          unfold btV
          go_wp2
          have hst : ∀ (wy : World), (∀ (b : Nat) (o : Obj), wx.heap[b]? = some o → b ≠ q → wy.heap[b]? = some o) ∧ (∃ x y z, wy.heap[q]? = some (.cells #[x, y, z] 38 (0, 0))) → ∀ (ii : Nat), ii < 13 → ii ≠ 11 → ([[], [0], [], [], [2, 3], [2, 3, 4], [0, 1, 2, 3, 4, 5], [0, 1, 2, 3, 4, 5, 6], [0, 1, 2, 3, 4, 5, 6, 7], [0, 1, 2, 3, 4, 5, 6, 7], [], [0, 1, 2, 3, 4, 5, 6, 7, 8, 10], [0, 1, 2, 3, 4, 5, 6, 7, 8, 9, 10, 11]].getD ii []).contains 11 = false → ∀ (own : Value) (ys : Nat → Value), (match ii with | 0 => own = .agg #[.int .i64 s, .int .i64 r, .int .i64 g] | 1 => own = .agg #[.int .i64 s, .int .i64 r, .int .i64 (arr s r g)] | 2 => own = .slice (some ⟨b1, o1, none⟩) n c | 3 => own = .int .i64 k | 4 => own = .pointer (some ⟨b1, o1 + k, none⟩) | 5 => own = .int .i64 (nth xs0 k) | 6 => own = .tuple #[btV (btake s r (arr s r g) (nth xs0 k)).1, .bool (btake s r (arr s r g) (nth xs0 k)).2] | 7 => own = .tuple #[btV (btake s r (arr s r g) (nth xs0 k)).1, .bool (btake s r (arr s r g) (nth xs0 k)).2] | 8 => own = btV (btake s r (arr s r g) (nth xs0 k)).1 | 9 => own = .bool (btake s r (arr s r g) (nth xs0 k)).2 | 10 => ∃ q x y z, own = .pointer (some ⟨q, 0, none⟩) ∧ wr.heap.size ≤ q ∧ wx.heap[q]? = some (.cells #[x, y, z] 38 (0, 0)) | 11 => ∃ q, ys 10 = .pointer (some ⟨q, 0, none⟩) ∧ wr.heap.size ≤ q ∧ wx.heap[q]? = some (.cells #[.int .i64 (btake s r (arr s r g) (nth xs0 k)).1.1, .int .i64 (btake s r (arr s r g) (nth xs0 k)).1.2.1, .int .i64 (btake s r (arr s r g) (nth xs0 k)).1.2.2] 38 (0, 0)) | 12 => own = .bool (btake s r (arr s r g) (nth xs0 k)).2 | _ => True) → (match ii with | 0 => own = .agg #[.int .i64 s, .int .i64 r, .int .i64 g] | 1 => own = .agg #[.int .i64 s, .int .i64 r, .int .i64 (arr s r g)] | 2 => own = .slice (some ⟨b1, o1, none⟩) n c | 3 => own = .int .i64 k | 4 => own = .pointer (some ⟨b1, o1 + k, none⟩) | 5 => own = .int .i64 (nth xs0 k) | 6 => own = .tuple #[btV (btake s r (arr s r g) (nth xs0 k)).1, .bool (btake s r (arr s r g) (nth xs0 k)).2] | 7 => own = .tuple #[btV (btake s r (arr s r g) (nth xs0 k)).1, .bool (btake s r (arr s r g) (nth xs0 k)).2] | 8 => own = btV (btake s r (arr s r g) (nth xs0 k)).1 | 9 => own = .bool (btake s r (arr s r g) (nth xs0 k)).2 | 10 => ∃ q x y z, own = .pointer (some ⟨q, 0, none⟩) ∧ wr.heap.size ≤ q ∧ wy.heap[q]? = some (.cells #[x, y, z] 38 (0, 0)) | 11 => ∃ q, ys 10 = .pointer (some ⟨q, 0, none⟩) ∧ wr.heap.size ≤ q ∧ wy.heap[q]? = some (.cells #[.int .i64 (btake s r (arr s r g) (nth xs0 k)).1.1, .int .i64 (btake s r (arr s r g) (nth xs0 k)).1.2.1, .int .i64 (btake s r (arr s r g) (nth xs0 k)).1.2.2] 38 (0, 0)) | 12 => own = .bool (btake s r (arr s r g) (nth xs0 k)).2 | _ => True) := by
            intro wy hy ii hii hne hc own ys h
            match ii, h with
            | 0, h => exact h
            | 1, h => exact h
            | 2, h => exact h
            | 3, h => exact h
            | 4, h => exact h
            | 5, h => exact h
            | 6, h => exact h
            | 7, h => exact h
            | 8, h => exact h
            | 9, h => exact h
            | 10, h => obtain ⟨q', x', y', z', h1, h2, h3⟩ := h; by_cases hqq : q' = q; (subst hqq; obtain ⟨u1, u2, u3, u4⟩ := hy.2; exact ⟨_, u1, u2, u3, h1, h2, u4⟩); exact ⟨q', x', y', z', h1, h2, hy.1 _ _ h3 hqq⟩
            | 11, h => exact absurd rfl hne
            | 12, h => exact absurd hc (by decide)
            | _ + 13, _ => trivial
          refine hQo undef _ (hK.out _ _ ⟨⟨q, Hx10.out, hq, blk_set3 hqb⟩, ?_, hst _ ⟨fun b o hb hne => blk_set_other (blk_set_other (blk_set_other hb hne) hne) hne, _, _, _, blk_set3 hqb⟩⟩)
          exact Below.setCell (Below.setCell (Below.setCell hG hq _) hq _) hq _
        · intro kx xs wx hk hG hD Qo Kx hK hQo
          have d9 : (xs 9) = .bool (btake s r (arr s r g) (nth xs0 k)).2 := hD 9 rfl
          clear hD
          simp only [patchS, Nat.reduceAdd, Nat.reduceEqDiff, ↓reduceIte] at hQo ⊢
          generalize xs 9 = y9 at *
          subst d9
          go_wp2
          exact hK.out _ _ ⟨rfl, hG, fun _ _ _ _ _ _ h => h⟩
      clear Hext
      intro xs wx hV hG
      have d0 : (xs 0) = .agg #[.int .i64 s, .int .i64 r, .int .i64 g] := hV 0 (by decide)
      have d1 : (xs 1) = .agg #[.int .i64 s, .int .i64 r, .int .i64 (arr s r g)] := hV 1 (by decide)
      have d2 : (xs 2) = .slice (some ⟨b1, o1, none⟩) n c := hV 2 (by decide)
      have d3 : (xs 3) = .int .i64 k := hV 3 (by decide)
      have d4 : (xs 4) = .pointer (some ⟨b1, o1 + k, none⟩) := hV 4 (by decide)
      have d5 : (xs 5) = .int .i64 (nth xs0 k) := hV 5 (by decide)
      have d6 : (xs 6) = .tuple #[btV (btake s r (arr s r g) (nth xs0 k)).1, .bool (btake s r (arr s r g) (nth xs0 k)).2] := hV 6 (by decide)
      have d7 : (xs 7) = .tuple #[btV (btake s r (arr s r g) (nth xs0 k)).1, .bool (btake s r (arr s r g) (nth xs0 k)).2] := hV 7 (by decide)
      have d8 : (xs 8) = btV (btake s r (arr s r g) (nth xs0 k)).1 := hV 8 (by decide)
      have d9 : (xs 9) = .bool (btake s r (arr s r g) (nth xs0 k)).2 := hV 9 (by decide)
      have d10 : ∃ q x y z, (xs 10) = .pointer (some ⟨q, 0, none⟩) ∧ wr.heap.size ≤ q ∧ wx.heap[q]? = some (.cells #[x, y, z] 38 (0, 0)) := hV 10 (by decide)
      have d11 : ∃ q, (xs 10) = .pointer (some ⟨q, 0, none⟩) ∧ wr.heap.size ≤ q ∧ wx.heap[q]? = some (.cells #[.int .i64 (btake s r (arr s r g) (nth xs0 k)).1.1, .int .i64 (btake s r (arr s r g) (nth xs0 k)).1.2.1, .int .i64 (btake s r (arr s r g) (nth xs0 k)).1.2.2] 38 (0, 0)) := hV 11 (by decide)
      have d12 : (xs 12) = .bool (btake s r (arr s r g) (nth xs0 k)).2 := hV 12 (by decide)
      clear hV
      simp only [patchS, Nat.reduceAdd, Nat.reduceEqDiff, ↓reduceIte]
      generalize xs 0 = y0 at *
      generalize xs 1 = y1 at *
      generalize xs 2 = y2 at *
      generalize xs 3 = y3 at *
      generalize xs 4 = y4 at *
      generalize xs 5 = y5 at *
      generalize xs 6 = y6 at *
      generalize xs 7 = y7 at *
      generalize xs 8 = y8 at *
      generalize xs 9 = y9 at *
      generalize xs 10 = y10 at *
      generalize xs 11 = y11 at *
      generalize xs 12 = y12 at *
      replace hG : Ext wr wx := hG
      subst d0
      subst d1
      subst d2
      subst d3
      subst d4
      subst d5
      subst d6
      subst d7
      subst d8
      subst d9
      obtain ⟨q, x, y, z, rfl, hq, hqb⟩ := d10
      obtain ⟨q2, hq2, hq3, hq4⟩ := d11
      subst d12
      simp only [Option.some.injEq, Value.pointer.injEq, Addr.mk.injEq, and_true] at hq2
      subst hq2
      obtain ⟨z0, z1, z2, z3, z4, z5, z6⟩ := bx3 hq4
      have q0' := hG.blk q0
      have q1' := hG.blk q1
      have E3 := E2.trans hG
      have hne0 : w.heap.size ≠ q := by omega
      have hne1 : w.heap.size + 1 ≠ q := by have := lt_of_block q1; omega
      obtain ⟨m0, m1, m2, m3, m4, m5, m6⟩ := bx3 q0'
      obtain ⟨n0, n1, n2, n3, n4, n5, n6⟩ := bx3 q1'
      clear c1 c2 c3 c4 c5 c6 c7 q0 q1 hqb
      by_cases hst : nth xs0 k < 0 ∨ arr s r g < nth xs0 k
      · have hb2 := btake_no (arr_valid hv) hst
        have e1 := brun_stop (by rw [sl.int_len]; exact hlt) hst
        have F := Hr.out
        rw [e1] at F
        have F' := Lib.hid F
        clear F e1 hst
        rw [hb2]
        have hb3 := Lib.hid hb2
        clear hb2
        go_wp2_with fail
        go_region
        go_wp2
        refine bodyPost_ret (v := .tuple #[.int .i64 (k : Int), .agg #[.int .i64 s, .int .i64 r, .int .i64 g]]) (by simp [results, Try.results20, go_sem, n1, n2, n3]) rfl ⟨?_, ?_⟩
        · rw [F'.out]; simp [btV]
        · have hz1 : w.heap.size ≤ w.heap.size + 1 := by omega
          (repeat (first | with_reducible exact Below.refl _ _ | assumption | with_reducible refine below_drewN ?_ _ | with_reducible refine Below.drew ?_ | with_reducible refine Below.setCell ?_ (by simp <;> omega) _ | with_reducible refine Ext.trans ?_ (Ext.alloc _ _)))
      · have e0 : 0 ≤ nth xs0 k ∧ nth xs0 k ≤ arr s r g := by omega
        have hb2 := btake_yes (arr_valid hv) e0.1 e0.2
        have e1 := brun_go (by rw [sl.int_len]; exact hlt) e0.1 e0.2
        have F := Hr.out
        rw [e1] at F
        have F' := Lib.hid F
        have hbk := Lib.hid hb2
        have hbk2 : (btake s r (arr s r g) (nth xs0 k)).2 = true := by rw [hb2]
        clear F e1 hst hb2
        rw [hbk2]
        clear hbk2
        go_wp2
        refine ⟨⟨k + 1, arr s r g - nth xs0 k, by omega, by go_num, ?_, ?_, ?_, ?_, ?_⟩, by simp [intOf]; omega⟩
        · (repeat (first | with_reducible exact Below.refl _ _ | assumption | with_reducible refine below_drewN ?_ _ | with_reducible refine Below.drew ?_ | with_reducible refine Below.setCell ?_ (by simp <;> omega) _ | with_reducible refine Ext.trans ?_ (Ext.alloc _ _)))
        · have h1 := hv
          have h2 := arr_valid hv
          unfold vbuf at *
          omega
        · refine Lib.hid ?_
          rw [F'.out]
          simp only [Prod.mk.injEq, and_true]
          omega
        · rw [hbk.out]
          exact blk_set3 q0'
        · exact blk_set_other (blk_set_other (blk_set_other q1' (by omega)) (by omega)) (by omega)
    · obtain rfl : k = n := by omega
      have F := Hr.out
      rw [List.drop_of_length_le (by rw [sl.int_len]; omega)] at F
      have F' := Lib.hid F
      clear F
      obtain ⟨n0, n1, n2, n3, n4, n5, n6⟩ := bx3 q1
      go_wp2_with fail
      go_region
      go_wp2
      refine bodyPost_ret (v := .tuple #[.int .i64 (k : Int), .agg #[.int .i64 s, .int .i64 r, .int .i64 g]]) (by simp [results, Try.results20, go_sem, n1, n2, n3]) rfl ⟨?_, ?_⟩
      · rw [F'.out]; simp [btV, brun]
      · have hz1 : w.heap.size ≤ w.heap.size + 1 := by omega
        (repeat (first | with_reducible exact Below.refl _ _ | assumption | with_reducible refine below_drewN ?_ _ | with_reducible refine Below.drew ?_ | with_reducible refine Below.setCell ?_ (by simp <;> omega) _ | with_reducible refine Ext.trans ?_ (Ext.alloc _ _)))
theorem impl_BufferRun_yes (s r f : Int) (a : Option Addr) (c n : Nat) (xs0 : List Int) (w : World) (hn : n < 2^47) (sl : Sl w a n (xs0.map (Value.int .i64))) (h : vbuf s r f) :
    Calls Try.prog 23 #[.agg #[.int .i64 s, .int .i64 r, .int .i64 f], .slice a n c] w fun e w' => e = .returned (.tuple #[.int .i64 (brun s r f xs0).1, btV (s, r, (brun s r f xs0).2)]) ∧ Ext w w' := by
  go_enter Try.func23, Try.ntmps23
  have p0 := blk_alloc (blk_new w (.cells #[.int .i64 s, .int .i64 r, .int .i64 f] 38)) (.cells #[.int .i64 0, .int .i64 0, .int .i64 0] 38)
  have p1 := blk_new (w.alloc (.cells #[.int .i64 s, .int .i64 r, .int .i64 f] 38)) (.cells #[.int .i64 0, .int .i64 0, .int .i64 0] 38)
  simp only [World.size_alloc] at p1
  go_wp2_with fail
  refine (impl_BufferValid_yes s r f _ h).mono ?_
  rintro e w1 ⟨rfl, e1⟩
  have q0 := e1.blk p0
  have q1 := e1.blk p1
  have E1 : Ext w w1 := by refine Ext.trans ?_ e1; (repeat (first | with_reducible exact Below.refl _ _ | assumption | with_reducible refine below_drewN ?_ _ | with_reducible refine Below.drew ?_ | with_reducible refine Below.setCell ?_ (by simp <;> omega) _ | with_reducible refine Ext.trans ?_ (Ext.alloc _ _)))
  clear e1 p0 p1
  go_wp2_with fail
  go_loopw [16] (fun i wr => ∃ (k : Nat) (g : Int), k ≤ n ∧ i = .int .i64 k ∧ Ext w wr ∧ vbuf s r g ∧ Hid (brun s r f xs0 = (k + (brun s r g (xs0.drop k)).1, (brun s r g (xs0.drop k)).2)) ∧ wr.heap[w.heap.size]? = some (.cells #[.int .i64 s, .int .i64 r, .int .i64 g] 38 (0, 0)) ∧ wr.heap[w.heap.size + 1]? = some (.cells #[.int .i64 0, .int .i64 0, .int .i64 0] 38 (0, 0))) (fun i _ => n - (intOf i).toNat)
  case atStart => exact ⟨0, f, by omega, rfl, E1, h, Lib.hid (by simp), q0, q1⟩
  case round =>
    obtain ⟨k, g, hk, rfl, E2, hv, Hr, q0, q1⟩ := hrel
    obtain ⟨c1, c2, c3, c4, c5, c6, c7⟩ := bx3 q0
    by_cases hlt : k < n
    · obtain ⟨b1, o1, rfl, g1⟩ := (sl.ext E2).int hlt
      go_wp2_with fail
      refine (arrive_any s r g _ hv).mono ?_
      rintro e w2 ⟨rfl, e2⟩
      go_wp2_with fail
      refine (impl_BufferTake_any s r (arr s r g) (nth xs0 k) _).mono ?_
      rintro e w3 ⟨he, e3⟩
      have E3 : Ext w w3 := (E2.trans e2).trans e3
      have q0' := e3.blk (e2.blk q0)
      have q1' := e3.blk (e2.blk q1)
      have hsz3 : w.heap.size ≤ w3.heap.size := E3.size
      clear c1 c2 c3 c4 c5 c6 c7 q0 q1 e2 e3 E2
      obtain ⟨m0, m1, m2, m3, m4, m5, m6⟩ := bx3 q0'
      obtain ⟨n0, n1, n2, n3, n4, n5, n6⟩ := bx3 q1'
      by_cases hst : nth xs0 k < 0 ∨ arr s r g < nth xs0 k
      · have hb2 := btake_no (arr_valid hv) hst
        have e1 := brun_stop (by rw [sl.int_len]; exact hlt) hst
        have F := Hr.out
        rw [e1] at F
        have F' := Lib.hid F
        clear F e1 hst
        rw [hb2] at he
        subst he
        have hb3 := Lib.hid hb2
        clear hb2
        unfold btV
        go_wp2_with fail
        go_region
        go_wp2
        refine bodyPost_ret (v := .tuple #[.int .i64 (k : Int), .agg #[.int .i64 s, .int .i64 r, .int .i64 g]]) (by simp [results, Try.results23, go_sem, n1, n2, n3, n0]) rfl ⟨?_, ?_⟩
        · rw [F'.out]; simp [btV]
        · have hz1 : w.heap.size ≤ w.heap.size + 1 := by omega
          (repeat (first | with_reducible exact Below.refl _ _ | assumption | with_reducible refine below_drewN ?_ _ | with_reducible refine Below.drew ?_ | with_reducible refine Below.setCell ?_ (by simp <;> omega) _ | with_reducible refine Ext.trans ?_ (Ext.alloc _ _)))
      · have e0 : 0 ≤ nth xs0 k ∧ nth xs0 k ≤ arr s r g := by omega
        have hb2 := btake_yes (arr_valid hv) e0.1 e0.2
        have e1 := brun_go (by rw [sl.int_len]; exact hlt) e0.1 e0.2
        have F := Hr.out
        rw [e1] at F
        have F' := Lib.hid F
        clear F e1 hst
        rw [hb2] at he
        subst he
        clear hb2
        unfold btV
        go_wp2
        refine ⟨⟨k + 1, arr s r g - nth xs0 k, by omega, by go_num, ?_, ?_, ?_, ?_, ?_⟩, by simp [intOf]; omega⟩
        · (repeat (first | with_reducible exact Below.refl _ _ | assumption | with_reducible refine below_drewN ?_ _ | with_reducible refine Below.drew ?_ | with_reducible refine Below.setCell ?_ (by simp <;> omega) _ | with_reducible refine Ext.trans ?_ (Ext.alloc _ _)))
        · have h1 := hv
          have h2 := arr_valid hv
          unfold vbuf at *
          omega
        · refine Lib.hid ?_
          rw [F'.out]
          simp only [Prod.mk.injEq, and_true]
          omega
        · exact blk_alloc (blk_set3 q0') _
        · exact blk_alloc (blk_set_other (blk_set_other (blk_set_other q1' (by omega)) (by omega)) (by omega)) _
    · obtain rfl : k = n := by omega
      have F := Hr.out
      rw [List.drop_of_length_le (by rw [sl.int_len]; omega)] at F
      have F' := Lib.hid F
      clear F
      obtain ⟨n0, n1, n2, n3, n4, n5, n6⟩ := bx3 q1
      go_wp2_with fail
      go_region
      go_wp2
      refine bodyPost_ret (v := .tuple #[.int .i64 (k : Int), .agg #[.int .i64 s, .int .i64 r, .int .i64 g]]) (by simp [results, Try.results23, go_sem, n1, n2, n3]) rfl ⟨?_, ?_⟩
      · rw [F'.out]; simp [btV, brun]
      · have hz1 : w.heap.size ≤ w.heap.size + 1 := by omega
        (repeat (first | with_reducible exact Below.refl _ _ | assumption | with_reducible refine below_drewN ?_ _ | with_reducible refine Below.drew ?_ | with_reducible refine Below.setCell ?_ (by simp <;> omega) _ | with_reducible refine Ext.trans ?_ (Ext.alloc _ _)))
theorem impl_BufferRun_no (s r f : Int) (a : Option Addr) (c n : Nat) (w : World) (h : ¬ vbuf s r f) :
    Calls Try.prog 23 #[.agg #[.int .i64 s, .int .i64 r, .int .i64 f], .slice a n c] w fun e w' => e = .returned (.tuple #[.int .i64 0, btV (0, 0, 0)]) ∧ Ext w w' := by
  go_enter Try.func23, Try.ntmps23
  go_wp2_with fail
  refine (impl_BufferValid_no s r f _ h).mono ?_
  rintro e w1 ⟨rfl, e1⟩
  obtain ⟨hc, hf⟩ := bcell e1
  have hz : w.heap.size + 1 < w1.heap.size := by have := e1.size; simp at this; omega
  have E1 : Ext w w1 := by refine Ext.trans ?_ e1; (repeat (first | with_reducible exact Below.refl _ _ | assumption | with_reducible refine below_drewN ?_ _ | with_reducible refine Below.drew ?_ | with_reducible refine Below.setCell ?_ (by simp <;> omega) _ | with_reducible refine Ext.trans ?_ (Ext.alloc _ _)))
  clear e1
  go_wp2
  exact bodyPost_ret (v := .tuple #[.int .i64 0, .agg #[.int .i64 0, .int .i64 0, .int .i64 0]]) (by simp [results, Try.results23, go_sem, hc]) rfl ⟨rfl, by (repeat (first | with_reducible exact Below.refl _ _ | assumption | with_reducible refine below_drewN ?_ _ | with_reducible refine Below.drew ?_ | with_reducible refine Below.setCell ?_ (by simp <;> omega) _ | with_reducible refine Ext.trans ?_ (Ext.alloc _ _)))⟩
theorem spec_BufferRun_no (s r f : Int) (a : Option Addr) (c n : Nat) (w : World) (h : ¬ vbuf s r f) :
    Calls Try.prog 20 #[.agg #[.int .i64 s, .int .i64 r, .int .i64 f], .slice a n c] w fun e w' => e = .returned (.tuple #[.int .i64 0, btV (0, 0, 0)]) ∧ Ext w w' := by
  go_enter Try.func20, Try.ntmps20
  go_wp2_with fail
  refine (spec_BufferValid_no s r f _ h).mono ?_
  rintro e w1 ⟨rfl, e1⟩
  obtain ⟨hc, hf⟩ := bcell e1
  have hz : w.heap.size + 1 < w1.heap.size := by have := e1.size; simp at this; omega
  have E1 : Ext w w1 := by refine Ext.trans ?_ e1; (repeat (first | with_reducible exact Below.refl _ _ | assumption | with_reducible refine below_drewN ?_ _ | with_reducible refine Below.drew ?_ | with_reducible refine Below.setCell ?_ (by simp <;> omega) _ | with_reducible refine Ext.trans ?_ (Ext.alloc _ _)))
  clear e1
  go_wp2
  exact bodyPost_ret (v := .tuple #[.int .i64 0, .agg #[.int .i64 0, .int .i64 0, .int .i64 0]]) (by simp [results, Try.results20, go_sem, hc]) rfl ⟨rfl, by (repeat (first | with_reducible exact Below.refl _ _ | assumption | with_reducible refine below_drewN ?_ _ | with_reducible refine Below.drew ?_ | with_reducible refine Below.setCell ?_ (by simp <;> omega) _ | with_reducible refine Ext.trans ?_ (Ext.alloc _ _)))⟩
/-- What BufferRun returns. -/
def brunN (s r f : Int) (xs : List Int) : Int := if vbuf s r f then ((brun s r f xs).1 : Int) else 0
def brunB (s r f : Int) (xs : List Int) : Int × Int × Int := if vbuf s r f then (s, r, (brun s r f xs).2) else (0, 0, 0)
theorem impl_BufferRun_any (s r f : Int) (a : Option Addr) (c n : Nat) (xs : List Int) (w : World) (hn : n < 2^47) (sl : Sl w a n (xs.map (Value.int .i64))) :
    Calls Try.prog 23 #[.agg #[.int .i64 s, .int .i64 r, .int .i64 f], .slice a n c] w fun e w' => e = .returned (.tuple #[.int .i64 (brunN s r f xs), btV (brunB s r f xs)]) ∧ Ext w w' := by
  by_cases h : vbuf s r f
  · rw [show brunN s r f xs = ((brun s r f xs).1 : Int) from if_pos h, show brunB s r f xs = (s, r, (brun s r f xs).2) from if_pos h]
    exact impl_BufferRun_yes s r f a c n xs w hn sl h
  · rw [show brunN s r f xs = 0 from if_neg h, show brunB s r f xs = (0, 0, 0) from if_neg h]
    exact impl_BufferRun_no s r f a c n w h
theorem spec_BufferRun_any (s r f : Int) (a : Option Addr) (c n : Nat) (xs : List Int) (w : World) (hn : n < 2^47) (sl : Sl w a n (xs.map (Value.int .i64))) :
    Calls Try.prog 20 #[.agg #[.int .i64 s, .int .i64 r, .int .i64 f], .slice a n c] w fun e w' => e = .returned (.tuple #[.int .i64 (brunN s r f xs), btV (brunB s r f xs)]) ∧ Ext w w' := by
  by_cases h : vbuf s r f
  · rw [show brunN s r f xs = ((brun s r f xs).1 : Int) from if_pos h, show brunB s r f xs = (s, r, (brun s r f xs).2) from if_pos h]
    exact spec_BufferRun_yes s r f a c n xs w hn sl h
  · rw [show brunN s r f xs = 0 from if_neg h, show brunB s r f xs = (0, 0, 0) from if_neg h]
    exact spec_BufferRun_no s r f a c n w h
end Go.Proofs.Ytmcdlkbofhdnlaa
