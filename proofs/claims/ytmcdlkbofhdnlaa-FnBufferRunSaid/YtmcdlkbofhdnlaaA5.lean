/- Contracts: buffers. -/
import Derived.Test.YtmcdlkbofhdnlaaA2
namespace Go.Proofs.Ytmcdlkbofhdnlaa
open Go.RowKit
set_option maxHeartbeats 400000

theorem toBuffer_any (s r f : Int) (w : World) :
    Calls Try.prog 21 #[.agg #[.int .i64 s, .int .i64 r, .int .i64 f]] w fun e w' => e = .returned (.agg #[.int .i64 s, .int .i64 r, .int .i64 f]) ∧ Ext w w' := by
  go_enter Try.func21, Try.ntmps21
  go_wp2
  refine bodyPost_ret (v := .agg #[.int .i64 s, .int .i64 r, .int .i64 f]) (by simp [results, Try.results21, go_sem]) rfl ⟨rfl, ?_⟩
  (repeat (first | with_reducible exact Below.refl _ _ | assumption | with_reducible refine below_drewN ?_ _ | with_reducible refine Below.drew ?_ | with_reducible refine Below.setCell ?_ (by simp <;> omega) _ | with_reducible refine Ext.trans ?_ (Ext.alloc _ _)))
theorem eqBuffer_same (s r f : Int) (w : World) :
    Calls Try.prog 24 #[.agg #[.int .i64 s, .int .i64 r, .int .i64 f], .agg #[.int .i64 s, .int .i64 r, .int .i64 f]] w fun e w' => e = .returned (.bool true) ∧ Ext w w' := by
  go_enter Try.func24, Try.ntmps24
  go_wp2
  go_ret
  refine ⟨rfl, ?_⟩
  (repeat (first | with_reducible exact Below.refl _ _ | assumption | with_reducible refine below_drewN ?_ _ | with_reducible refine Below.drew ?_ | with_reducible refine Below.setCell ?_ (by simp <;> omega) _ | with_reducible refine Ext.trans ?_ (Ext.alloc _ _)))
def vbuf (s r f : Int) : Prop := 1 ≤ s ∧ s ≤ 1000000 ∧ 0 ≤ r ∧ r ≤ s ∧ 0 ≤ f ∧ f ≤ s
instance (s r f : Int) : Decidable (vbuf s r f) := by unfold vbuf; infer_instance
theorem impl_BufferValid_yes (s r f : Int) (w : World) (h : vbuf s r f) :
    Calls Try.prog 54 #[.agg #[.int .i64 s, .int .i64 r, .int .i64 f]] w fun e w' => e = .returned (.bool true) ∧ Ext w w' := by
  obtain ⟨h1, h2, h3, h4, h5, h6⟩ := h
  go_enter Try.func54, Try.ntmps54
  go_wp2
  go_ret
  refine ⟨rfl, ?_⟩
  (repeat (first | with_reducible exact Below.refl _ _ | assumption | with_reducible refine below_drewN ?_ _ | with_reducible refine Below.drew ?_ | with_reducible refine Below.setCell ?_ (by simp <;> omega) _ | with_reducible refine Ext.trans ?_ (Ext.alloc _ _)))
theorem spec_BufferValid_yes (s r f : Int) (w : World) (h : vbuf s r f) :
    Calls Try.prog 27 #[.agg #[.int .i64 s, .int .i64 r, .int .i64 f]] w fun e w' => e = .returned (.bool true) ∧ Ext w w' := by
  obtain ⟨h1, h2, h3, h4, h5, h6⟩ := h
  go_enter Try.func27, Try.ntmps27
  go_wp2_with (go_at_call 47; refine (l1In_yes _ _ _ _ (by omega) (by omega)).mono ?_; rintro e w' ⟨rfl, rfl⟩)
  go_ret
  refine ⟨rfl, ?_⟩
  (repeat (first | with_reducible exact Below.refl _ _ | assumption | with_reducible refine below_drewN ?_ _ | with_reducible refine Below.drew ?_ | with_reducible refine Below.setCell ?_ (by simp <;> omega) _ | with_reducible refine Ext.trans ?_ (Ext.alloc _ _)))
theorem impl_BufferValid_no (s r f : Int) (w : World) (h : ¬ vbuf s r f) :
    Calls Try.prog 54 #[.agg #[.int .i64 s, .int .i64 r, .int .i64 f]] w fun e w' => e = .returned (.bool false) ∧ Ext w w' := by
  have H := Lib.hid h
  clear h
  by_cases h1 : 1 ≤ s
  · by_cases h2 : s ≤ 1000000
    · by_cases h3 : 0 ≤ r
      · by_cases h4 : r ≤ s
        · by_cases h5 : 0 ≤ f
          · have h6 : ¬ f ≤ s := fun h => H.out ⟨h1, h2, h3, h4, h5, h⟩
            go_enter Try.func54, Try.ntmps54
            go_wp2
            go_ret
            exact ⟨by first | (simp; done) | (simp; omega), by (repeat (first | with_reducible exact Below.refl _ _ | assumption | with_reducible refine below_drewN ?_ _ | with_reducible refine Below.drew ?_ | with_reducible refine Below.setCell ?_ (by simp <;> omega) _ | with_reducible refine Ext.trans ?_ (Ext.alloc _ _)))⟩
          · go_enter Try.func54, Try.ntmps54
            go_wp2
            go_ret
            exact ⟨rfl, by (repeat (first | with_reducible exact Below.refl _ _ | assumption | with_reducible refine below_drewN ?_ _ | with_reducible refine Below.drew ?_ | with_reducible refine Below.setCell ?_ (by simp <;> omega) _ | with_reducible refine Ext.trans ?_ (Ext.alloc _ _)))⟩
        · go_enter Try.func54, Try.ntmps54
          go_wp2
          go_ret
          exact ⟨rfl, by (repeat (first | with_reducible exact Below.refl _ _ | assumption | with_reducible refine below_drewN ?_ _ | with_reducible refine Below.drew ?_ | with_reducible refine Below.setCell ?_ (by simp <;> omega) _ | with_reducible refine Ext.trans ?_ (Ext.alloc _ _)))⟩
      · go_enter Try.func54, Try.ntmps54
        go_wp2
        go_ret
        exact ⟨rfl, by (repeat (first | with_reducible exact Below.refl _ _ | assumption | with_reducible refine below_drewN ?_ _ | with_reducible refine Below.drew ?_ | with_reducible refine Below.setCell ?_ (by simp <;> omega) _ | with_reducible refine Ext.trans ?_ (Ext.alloc _ _)))⟩
    · go_enter Try.func54, Try.ntmps54
      go_wp2
      go_ret
      exact ⟨rfl, by (repeat (first | with_reducible exact Below.refl _ _ | assumption | with_reducible refine below_drewN ?_ _ | with_reducible refine Below.drew ?_ | with_reducible refine Below.setCell ?_ (by simp <;> omega) _ | with_reducible refine Ext.trans ?_ (Ext.alloc _ _)))⟩
  · go_enter Try.func54, Try.ntmps54
    go_wp2
    go_ret
    exact ⟨rfl, by (repeat (first | with_reducible exact Below.refl _ _ | assumption | with_reducible refine below_drewN ?_ _ | with_reducible refine Below.drew ?_ | with_reducible refine Below.setCell ?_ (by simp <;> omega) _ | with_reducible refine Ext.trans ?_ (Ext.alloc _ _)))⟩
theorem spec_BufferValid_no (s r f : Int) (w : World) (h : ¬ vbuf s r f) :
    Calls Try.prog 27 #[.agg #[.int .i64 s, .int .i64 r, .int .i64 f]] w fun e w' => e = .returned (.bool false) ∧ Ext w w' := by
  have H := Lib.hid h
  clear h
  by_cases h1 : 1 ≤ s ∧ s ≤ 1000000
  · by_cases h2 : 0 ≤ r ∧ r ≤ s
    · have h3 : f < 0 ∨ s < f := by
        have := H.out
        unfold vbuf at this
        omega
      have H3 := Lib.hid h3
      obtain ⟨h4, h5⟩ := h1
      obtain ⟨h6, h7⟩ := h2
      clear h3
      go_enter Try.func27, Try.ntmps27
      go_wp2_with fail
      refine (l1In_yes _ _ _ _ (by omega) (by omega)).mono ?_
      rintro e w' ⟨rfl, rfl⟩
      go_wp2_with fail
      refine (l1In_yes _ _ _ _ (by omega) (by omega)).mono ?_
      rintro e w' ⟨rfl, rfl⟩
      go_wp2_with fail
      refine (l1In_no _ _ _ _ H3.out).mono ?_
      rintro e w' ⟨rfl, rfl⟩
      go_wp2
      go_ret
      exact ⟨rfl, by (repeat (first | with_reducible exact Below.refl _ _ | assumption | with_reducible refine below_drewN ?_ _ | with_reducible refine Below.drew ?_ | with_reducible refine Below.setCell ?_ (by simp <;> omega) _ | with_reducible refine Ext.trans ?_ (Ext.alloc _ _)))⟩
    · have h3 : r < 0 ∨ s < r := by omega
      have H3 := Lib.hid h3
      obtain ⟨h4, h5⟩ := h1
      clear h2 h3
      go_enter Try.func27, Try.ntmps27
      go_wp2_with fail
      refine (l1In_yes _ _ _ _ (by omega) (by omega)).mono ?_
      rintro e w' ⟨rfl, rfl⟩
      go_wp2_with fail
      refine (l1In_no _ _ _ _ H3.out).mono ?_
      rintro e w' ⟨rfl, rfl⟩
      go_wp2
      go_ret
      exact ⟨rfl, by (repeat (first | with_reducible exact Below.refl _ _ | assumption | with_reducible refine below_drewN ?_ _ | with_reducible refine Below.drew ?_ | with_reducible refine Below.setCell ?_ (by simp <;> omega) _ | with_reducible refine Ext.trans ?_ (Ext.alloc _ _)))⟩
  · have h3 : s < 1 ∨ 1000000 < s := by omega
    have H3 := Lib.hid h3
    clear h1 h3
    go_enter Try.func27, Try.ntmps27
    go_wp2_with fail
    refine (l1In_no _ _ _ _ H3.out).mono ?_
    rintro e w' ⟨rfl, rfl⟩
    go_wp2
    go_ret
    exact ⟨rfl, by (repeat (first | with_reducible exact Below.refl _ _ | assumption | with_reducible refine below_drewN ?_ _ | with_reducible refine Below.drew ?_ | with_reducible refine Below.setCell ?_ (by simp <;> omega) _ | with_reducible refine Ext.trans ?_ (Ext.alloc _ _)))⟩

/-- What BufferTake returns. -/
def btake (s r f b : Int) : (Int × Int × Int) × Bool := if vbuf s r f ∧ 0 ≤ b then (if f < b then ((s, r, f), false) else ((s, r, f - b), true)) else ((0, 0, 0), false)
def btV (p : Int × Int × Int) : Value := .agg #[.int .i64 p.1, .int .i64 p.2.1, .int .i64 p.2.2]

theorem take_any (s r f b : Int) (w : World) (h : vbuf s r f) (hb : 0 ≤ b) :
    Calls Try.prog 71 #[.agg #[.int .i64 s, .int .i64 r, .int .i64 f], .int .i64 b] w fun e w' => e = .returned (.tuple #[btV (btake s r f b).1, .bool (btake s r f b).2]) ∧ Ext w w' := by
  by_cases h1 : f < b
  · rw [show btake s r f b = ((s, r, f), false) by unfold btake; rw [if_pos ⟨h, hb⟩, if_pos h1]]
    obtain ⟨h1, h2, h3, h4, h5, h6⟩ := h
    go_enter Try.func71, Try.ntmps71
    go_wp2
    exact bodyPost_ret (v := .tuple #[.agg #[.int .i64 s, .int .i64 r, .int .i64 f], .bool false]) (by simp [results, Try.results71, go_sem]) rfl ⟨rfl, by (repeat (first | with_reducible exact Below.refl _ _ | assumption | with_reducible refine below_drewN ?_ _ | with_reducible refine Below.drew ?_ | with_reducible refine Below.setCell ?_ (by simp <;> omega) _ | with_reducible refine Ext.trans ?_ (Ext.alloc _ _)))⟩
  · rw [show btake s r f b = ((s, r, f - b), true) by unfold btake; rw [if_pos ⟨h, hb⟩, if_neg h1]]
    obtain ⟨h1, h2, h3, h4, h5, h6⟩ := h
    go_enter Try.func71, Try.ntmps71
    go_wp2
    exact bodyPost_ret (v := .tuple #[.agg #[.int .i64 s, .int .i64 r, .int .i64 (f - b)], .bool true]) (by simp [results, Try.results71, go_sem]) rfl ⟨rfl, by (repeat (first | with_reducible exact Below.refl _ _ | assumption | with_reducible refine below_drewN ?_ _ | with_reducible refine Below.drew ?_ | with_reducible refine Below.setCell ?_ (by simp <;> omega) _ | with_reducible refine Ext.trans ?_ (Ext.alloc _ _)))⟩
theorem impl_BufferTake_any (s r f b : Int) (w : World) :
    Calls Try.prog 55 #[.agg #[.int .i64 s, .int .i64 r, .int .i64 f], .int .i64 b] w fun e w' => e = .returned (.tuple #[btV (btake s r f b).1, .bool (btake s r f b).2]) ∧ Ext w w' := by
  by_cases h : vbuf s r f
  · by_cases hb : b < 0
    · rw [show btake s r f b = ((0, 0, 0), false) by unfold btake; rw [if_neg (by omega)]]
      go_enter Try.func55, Try.ntmps55
      go_wp2_with fail
      refine (impl_BufferValid_yes s r f _ h).mono ?_
      rintro e w1 ⟨rfl, e1⟩
      obtain ⟨hc, hf⟩ := bcell e1
      have hz : w.heap.size + 1 < w1.heap.size := by have := e1.size; simp at this; omega
      have E1 : Ext w w1 := by refine Ext.trans ?_ e1; (repeat (first | with_reducible exact Below.refl _ _ | assumption | with_reducible refine below_drewN ?_ _ | with_reducible refine Below.drew ?_ | with_reducible refine Below.setCell ?_ (by simp <;> omega) _ | with_reducible refine Ext.trans ?_ (Ext.alloc _ _)))
      clear e1
      go_wp2
      exact bodyPost_ret (v := .tuple #[.agg #[.int .i64 0, .int .i64 0, .int .i64 0], .bool false]) (by simp [results, Try.results55, go_sem, hc]) rfl ⟨rfl, by (repeat (first | with_reducible exact Below.refl _ _ | assumption | with_reducible refine below_drewN ?_ _ | with_reducible refine Below.drew ?_ | with_reducible refine Below.setCell ?_ (by simp <;> omega) _ | with_reducible refine Ext.trans ?_ (Ext.alloc _ _)))⟩
    · go_enter Try.func55, Try.ntmps55
      go_wp2_with fail
      refine (impl_BufferValid_yes s r f _ h).mono ?_
      rintro e w1 ⟨rfl, e1⟩
      obtain ⟨hc, hf⟩ := bcell e1
      have hz : w.heap.size + 1 < w1.heap.size := by have := e1.size; simp at this; omega
      have E1 : Ext w w1 := by refine Ext.trans ?_ e1; (repeat (first | with_reducible exact Below.refl _ _ | assumption | with_reducible refine below_drewN ?_ _ | with_reducible refine Below.drew ?_ | with_reducible refine Below.setCell ?_ (by simp <;> omega) _ | with_reducible refine Ext.trans ?_ (Ext.alloc _ _)))
      clear e1
      go_wp2_with fail
      refine (take_any s r f b _ h (by omega)).mono ?_
      rintro e w2 ⟨rfl, e2⟩
      obtain ⟨hc2, hf2⟩ := bcell e2
      have hz2 : w.heap.size + 1 < w2.heap.size := by have := e2.size; omega
      have E2 : Ext w w2 := E1.trans e2
      clear e2 E1
      unfold btV
      go_wp2
      refine bodyPost_ret (v := .tuple #[.agg #[.int .i64 (btake s r f b).1.1, .int .i64 (btake s r f b).1.2.1, .int .i64 (btake s r f b).1.2.2], .bool (btake s r f b).2]) (by simp [results, Try.results55, go_sem, hc, hz, hc2]) rfl ⟨rfl, ?_⟩
      (repeat (first | with_reducible exact Below.refl _ _ | assumption | with_reducible refine below_drewN ?_ _ | with_reducible refine Below.drew ?_ | with_reducible refine Below.setCell ?_ (by simp <;> omega) _ | with_reducible refine Ext.trans ?_ (Ext.alloc _ _)))
  · rw [show btake s r f b = ((0, 0, 0), false) by unfold btake; rw [if_neg (fun h' => h h'.1)]]
    go_enter Try.func55, Try.ntmps55
    go_wp2_with fail
    refine (impl_BufferValid_no s r f _ h).mono ?_
    rintro e w1 ⟨rfl, e1⟩
    obtain ⟨hc, hf⟩ := bcell e1
    have hz : w.heap.size + 1 < w1.heap.size := by have := e1.size; simp at this; omega
    have E1 : Ext w w1 := by refine Ext.trans ?_ e1; (repeat (first | with_reducible exact Below.refl _ _ | assumption | with_reducible refine below_drewN ?_ _ | with_reducible refine Below.drew ?_ | with_reducible refine Below.setCell ?_ (by simp <;> omega) _ | with_reducible refine Ext.trans ?_ (Ext.alloc _ _)))
    clear e1
    go_wp2
    exact bodyPost_ret (v := .tuple #[.agg #[.int .i64 0, .int .i64 0, .int .i64 0], .bool false]) (by simp [results, Try.results55, go_sem, hc]) rfl ⟨rfl, by (repeat (first | with_reducible exact Below.refl _ _ | assumption | with_reducible refine below_drewN ?_ _ | with_reducible refine Below.drew ?_ | with_reducible refine Below.setCell ?_ (by simp <;> omega) _ | with_reducible refine Ext.trans ?_ (Ext.alloc _ _)))⟩
theorem spec_BufferTake_any (s r f b : Int) (w : World) :
    Calls Try.prog 52 #[.agg #[.int .i64 s, .int .i64 r, .int .i64 f], .int .i64 b] w fun e w' => e = .returned (.tuple #[btV (btake s r f b).1, .bool (btake s r f b).2]) ∧ Ext w w' := by
  by_cases h : vbuf s r f
  · by_cases hb : b < 0
    · rw [show btake s r f b = ((0, 0, 0), false) by unfold btake; rw [if_neg (by omega)]]
      go_enter Try.func52, Try.ntmps52
      go_wp2_with fail
      refine (spec_BufferValid_yes s r f _ h).mono ?_
      rintro e w1 ⟨rfl, e1⟩
      obtain ⟨hc, hf⟩ := bcell e1
      have hz : w.heap.size + 1 < w1.heap.size := by have := e1.size; simp at this; omega
      have E1 : Ext w w1 := by refine Ext.trans ?_ e1; (repeat (first | with_reducible exact Below.refl _ _ | assumption | with_reducible refine below_drewN ?_ _ | with_reducible refine Below.drew ?_ | with_reducible refine Below.setCell ?_ (by simp <;> omega) _ | with_reducible refine Ext.trans ?_ (Ext.alloc _ _)))
      clear e1
      go_wp2
      exact bodyPost_ret (v := .tuple #[.agg #[.int .i64 0, .int .i64 0, .int .i64 0], .bool false]) (by simp [results, Try.results52, go_sem, hc]) rfl ⟨rfl, by (repeat (first | with_reducible exact Below.refl _ _ | assumption | with_reducible refine below_drewN ?_ _ | with_reducible refine Below.drew ?_ | with_reducible refine Below.setCell ?_ (by simp <;> omega) _ | with_reducible refine Ext.trans ?_ (Ext.alloc _ _)))⟩
    · by_cases h1 : f < b
      · rw [show btake s r f b = ((s, r, f), false) by unfold btake; rw [if_pos ⟨h, by omega⟩, if_pos h1]]
        go_enter Try.func52, Try.ntmps52
        go_wp2_with fail
        refine (spec_BufferValid_yes s r f _ h).mono ?_
        rintro e w1 ⟨rfl, e1⟩
        obtain ⟨hc, hf⟩ := bcell e1
        have hz : w.heap.size + 1 < w1.heap.size := by have := e1.size; simp at this; omega
        have E1 : Ext w w1 := by refine Ext.trans ?_ e1; (repeat (first | with_reducible exact Below.refl _ _ | assumption | with_reducible refine below_drewN ?_ _ | with_reducible refine Below.drew ?_ | with_reducible refine Below.setCell ?_ (by simp <;> omega) _ | with_reducible refine Ext.trans ?_ (Ext.alloc _ _)))
        clear e1
        obtain ⟨h3, h4, h5, h6, h7, h8⟩ := h
        go_wp2
        exact bodyPost_ret (v := .tuple #[.agg #[.int .i64 s, .int .i64 r, .int .i64 f], .bool false]) (by simp [results, Try.results52, go_sem, hc]) rfl ⟨rfl, by (repeat (first | with_reducible exact Below.refl _ _ | assumption | with_reducible refine below_drewN ?_ _ | with_reducible refine Below.drew ?_ | with_reducible refine Below.setCell ?_ (by simp <;> omega) _ | with_reducible refine Ext.trans ?_ (Ext.alloc _ _)))⟩
      · rw [show btake s r f b = ((s, r, f - b), true) by unfold btake; rw [if_pos ⟨h, by omega⟩, if_neg h1]]
        go_enter Try.func52, Try.ntmps52
        go_wp2_with fail
        refine (spec_BufferValid_yes s r f _ h).mono ?_
        rintro e w1 ⟨rfl, e1⟩
        obtain ⟨hc, hf⟩ := bcell e1
        have hz : w.heap.size + 1 < w1.heap.size := by have := e1.size; simp at this; omega
        have E1 : Ext w w1 := by refine Ext.trans ?_ e1; (repeat (first | with_reducible exact Below.refl _ _ | assumption | with_reducible refine below_drewN ?_ _ | with_reducible refine Below.drew ?_ | with_reducible refine Below.setCell ?_ (by simp <;> omega) _ | with_reducible refine Ext.trans ?_ (Ext.alloc _ _)))
        clear e1
        have c0 : w1.cell? ⟨w.heap.size, 0, none⟩ = some (.int .i64 s) := by rw [hc _ _ (by simp; omega), World.cell?_alloc_past _ _ _ (by simp), World.cell?_alloc_at _ _ _ _ rfl]; rfl
        have c1 : w1.cell? ⟨w.heap.size, 1, none⟩ = some (.int .i64 r) := by rw [hc _ _ (by simp; omega), World.cell?_alloc_past _ _ _ (by simp), World.cell?_alloc_at _ _ _ _ rfl]; rfl
        have c2 : w1.cell? ⟨w.heap.size, 2, none⟩ = some (.int .i64 f) := by rw [hc _ _ (by simp; omega), World.cell?_alloc_past _ _ _ (by simp), World.cell?_alloc_at _ _ _ _ rfl]; rfl
        obtain ⟨h3, h4, h5, h6, h7, h8⟩ := h
        go_wp2
        exact bodyPost_ret (v := .tuple #[.agg #[.int .i64 s, .int .i64 r, .int .i64 (f - b)], .bool true]) (by simp [results, Try.results52, go_sem, hc]) rfl ⟨rfl, by (repeat (first | with_reducible exact Below.refl _ _ | assumption | with_reducible refine below_drewN ?_ _ | with_reducible refine Below.drew ?_ | with_reducible refine Below.setCell ?_ (by simp <;> omega) _ | with_reducible refine Ext.trans ?_ (Ext.alloc _ _)))⟩
  · rw [show btake s r f b = ((0, 0, 0), false) by unfold btake; rw [if_neg (fun h' => h h'.1)]]
    go_enter Try.func52, Try.ntmps52
    go_wp2_with fail
    refine (spec_BufferValid_no s r f _ h).mono ?_
    rintro e w1 ⟨rfl, e1⟩
    obtain ⟨hc, hf⟩ := bcell e1
    have hz : w.heap.size + 1 < w1.heap.size := by have := e1.size; simp at this; omega
    have E1 : Ext w w1 := by refine Ext.trans ?_ e1; (repeat (first | with_reducible exact Below.refl _ _ | assumption | with_reducible refine below_drewN ?_ _ | with_reducible refine Below.drew ?_ | with_reducible refine Below.setCell ?_ (by simp <;> omega) _ | with_reducible refine Ext.trans ?_ (Ext.alloc _ _)))
    clear e1
    go_wp2
    exact bodyPost_ret (v := .tuple #[.agg #[.int .i64 0, .int .i64 0, .int .i64 0], .bool false]) (by simp [results, Try.results52, go_sem, hc]) rfl ⟨rfl, by (repeat (first | with_reducible exact Below.refl _ _ | assumption | with_reducible refine below_drewN ?_ _ | with_reducible refine Below.drew ?_ | with_reducible refine Below.setCell ?_ (by simp <;> omega) _ | with_reducible refine Ext.trans ?_ (Ext.alloc _ _)))⟩
end Go.Proofs.Ytmcdlkbofhdnlaa
