/- Are the arguments of Reconstruct valid: both sides. | The worlds while a macroblock of a picture is rebuilt. -/
import Derived.Test.YtbnhaegidfbgbaaGreatDoorQm11
set_option linter.unusedVariables false
set_option linter.unusedSimpArgs false
namespace Go.Proofs.YtbnhaegidfbgbaaGreatDoor
open Go.RowKit
set_option maxHeartbeats 1000000
/-- A macroblock begins at a position. -/
def placeP (p : Pic) (x y : Int) : Prop := p.valid ∧ 0 ≤ x ∧ x < p.w ∧ x % 8 = 0 ∧ 0 ≤ y ∧ y < p.h ∧ y % 8 = 0
instance (p : Pic) (x y : Int) : Decidable (placeP p x y) := by unfold placeP; infer_instance
/-- Two valid pictures of one size. -/
def alikeP (p s : Pic) : Prop := p.valid ∧ s.valid ∧ p.w = s.w ∧ p.h = s.h
instance (p s : Pic) : Decidable (alikeP p s) := by unfold alikeP; infer_instance
/-- The arguments of Reconstruct are valid. -/
def okR (ref p : Pic) (x y : Int) (m : Mac) (q top : Int) : Prop := placeP p x y ∧ m.valid ∧ (0 ≤ q ∧ q ≤ 15) ∧ (0 ≤ top ∧ top ≤ y) ∧ (m.kind = 2 ∨ alikeP ref p)
noncomputable instance (ref p : Pic) (x y : Int) (m : Mac) (q top : Int) : Decidable (okR ref p x y m q top) := Classical.propDecidable _
theorem l7Place_at (p : Pic) (x y : Int) (a : Option Addr) (c n : Nat) (w : World) (hn : n = p.px.length) (nc : n ≤ 9223372036854775807) (r : Sl w a n (p.px.map (Value.int .i64))) :
 Calls Tryz.prog 55 #[.agg #[.int .i64 p.w, .int .i64 p.h, .slice a n c], .int .i64 x, .int .i64 y] w fun e w' => e = .returned (.bool (decide (placeP p x y))) ∧ Ext w w' := by
 have h := l7Place_any p x y a c n w hn nc r
 rw [show decide ((p.valid) ∧ (0 ≤ x ∧ x ≤ p.w - 1) ∧ (0 ≤ y ∧ y ≤ p.h - 1) ∧ (x % 8 = 0) ∧ (y % 8 = 0)) = decide (placeP p x y) from decide_eq_decide.2 ⟨fun ⟨h0, h1, h2, h3, h4⟩ => ⟨h0, h1.1, by omega, h3, h2.1, by omega, h4⟩, fun ⟨h0, h1, h2, h3, h4, h5, h6⟩ => ⟨h0, ⟨h1, by omega⟩, ⟨h4, by omega⟩, h3, h6⟩⟩] at h
 exact h
theorem l1Same_at (p s : Pic) (a b : Option Addr) (c d n m : Nat) (w : World) (hn : n = p.px.length) (hm : m = s.px.length) (nc : n ≤ 9223372036854775807) (mc : m ≤ 9223372036854775807) (r : Sl w a n (p.px.map (Value.int .i64))) (q : Sl w b m (s.px.map (Value.int .i64))) :
 Calls Tryz.prog 41 #[.agg #[.int .i64 p.w, .int .i64 p.h, .slice a n c], .agg #[.int .i64 s.w, .int .i64 s.h, .slice b m d]] w fun e w' => e = .returned (.bool (decide (alikeP p s))) ∧ Ext w w' := l1Same_any p s a b c d n m w hn hm nc mc r q
theorem alike_at (p s : Pic) (a b : Option Addr) (c d n m : Nat) (w : World) (hn : n = p.px.length) (hm : m = s.px.length) (nc : n ≤ 9223372036854775807) (mc : m ≤ 9223372036854775807) (r : Sl w a n (p.px.map (Value.int .i64))) (q : Sl w b m (s.px.map (Value.int .i64))) :
 Calls Tryz.prog 38 #[.agg #[.int .i64 p.w, .int .i64 p.h, .slice a n c], .agg #[.int .i64 s.w, .int .i64 s.h, .slice b m d]] w fun e w' => e = .returned (.bool (decide (alikeP p s))) ∧ Ext w w' := alike_any p s a b c d n m w hn hm nc mc r q
theorem qV_in (q : Int) (w : World) (h : 0 ≤ q ∧ q ≤ 15) : Calls Tryz.prog 51 #[.int .i64 q] w fun e w' => e = .returned (.bool true) ∧ w = w' := qualityValid_in q w h.1 h.2
theorem qV_out (q : Int) (w : World) (h : ¬ (0 ≤ q ∧ q ≤ 15)) : Calls Tryz.prog 51 #[.int .i64 q] w fun e w' => e = .returned (.bool false) ∧ w = w' := by
 by_cases h1 : 0 ≤ q
 ·have d1 : decide (0 ≤ q) = true := by simpa using h1
  have d2 : decide (q ≤ 15) = false := by simp; omega
  go_enter Tryz.func51, Tryz.ntmps51
  go_wp2
  go_ret
  exact ⟨rfl, rfl⟩
 ·have d1 : decide (0 ≤ q) = false := by simpa using h1
  go_enter Tryz.func51, Tryz.ntmps51
  go_wp2
  go_ret
  exact ⟨rfl, rfl⟩
set_option maxRecDepth 100000 in
theorem reconstructsK_any (ref p : Pic) (x y : Int) (m : Mac) (q top : Int) (a b : Option Addr) (c d n l : Nat) (w : World) (hn : n = ref.px.length) (hl : l = p.px.length) (nc : n ≤ 9223372036854775807) (lc : l ≤ 9223372036854775807) (r : Sl w a n (ref.px.map (Value.int .i64))) (s : Sl w b l (p.px.map (Value.int .i64))) (hm : m.ok) (hk : m.kind = 2) :
 Calls Tryz.prog 39 #[.agg #[.int .i64 ref.w, .int .i64 ref.h, .slice a n c], .agg #[.int .i64 p.w, .int .i64 p.h, .slice b l d], .int .i64 x, .int .i64 y, .agg (ic m.zs), .int .i64 q, .int .i64 top] w fun e w' => e = .returned (.bool (decide ((p.valid) ∧ (m.valid) ∧ (0 ≤ q ∧ q ≤ 15) ∧ ((0 ≤ x) ∧ (x < p.w) ∧ (x % 8 = 0) ∧ (0 ≤ y) ∧ (y < p.h) ∧ (y % 8 = 0)) ∧ (0 ≤ top) ∧ (top ≤ y)))) ∧ Ext w w' := by
 obtain ⟨B, hB⟩ : ∃ B, B = decide ((p.valid) ∧ (m.valid) ∧ (0 ≤ q ∧ q ≤ 15) ∧ ((0 ≤ x) ∧ (x < p.w) ∧ (x % 8 = 0) ∧ (0 ≤ y) ∧ (y < p.h) ∧ (y % 8 = 0)) ∧ (0 ≤ top) ∧ (top ≤ y)) := ⟨_, rfl⟩
 rw [← hB]
 have HB := Lib.hid hB
 clear hB
 have HN := Lib.hid hn
 have HL := Lib.hid hl
 have HM := Lib.hid hm
 have Hl := Lib.hid (Mac.zs_len hm)
 clear hn hl hm
 have fk : (m.kind == 2) = true := by simpa using hk
 clear hk
 have a0_1 := Ext.alloc (w.alloc (.cells #[.int .i64 ref.w, .int .i64 ref.h, .slice a n c] 25)) (.cells #[.int .i64 p.w, .int .i64 p.h, .slice b l d] 25)
 have a0_2 := Ext.alloc ((w.alloc (.cells #[.int .i64 ref.w, .int .i64 ref.h, .slice a n c] 25)).alloc (.cells #[.int .i64 p.w, .int .i64 p.h, .slice b l d] 25)) (.cells (ic m.zs) 32)
 have X0_0 := a0_2.blk (a0_1.blk (blk_new w (.cells #[.int .i64 ref.w, .int .i64 ref.h, .slice a n c] 25)))
 have a1_2 := Ext.alloc ((w.alloc (.cells #[.int .i64 ref.w, .int .i64 ref.h, .slice a n c] 25)).alloc (.cells #[.int .i64 p.w, .int .i64 p.h, .slice b l d] 25)) (.cells (ic m.zs) 32)
 have X1_0 := a1_2.blk (blk_new (w.alloc (.cells #[.int .i64 ref.w, .int .i64 ref.h, .slice a n c] 25)) (.cells #[.int .i64 p.w, .int .i64 p.h, .slice b l d] 25))
 have X2_0 := IB.new ((w.alloc (.cells #[.int .i64 ref.w, .int .i64 ref.h, .slice a n c] 25)).alloc (.cells #[.int .i64 p.w, .int .i64 p.h, .slice b l d] 25)) 32 m.zs
 have E_0 := ((Ext.alloc w (.cells #[.int .i64 ref.w, .int .i64 ref.h, .slice a n c] 25)).trans (Ext.alloc (w.alloc (.cells #[.int .i64 ref.w, .int .i64 ref.h, .slice a n c] 25)) (.cells #[.int .i64 p.w, .int .i64 p.h, .slice b l d] 25))).trans (Ext.alloc ((w.alloc (.cells #[.int .i64 ref.w, .int .i64 ref.h, .slice a n c] 25)).alloc (.cells #[.int .i64 p.w, .int .i64 p.h, .slice b l d] 25)) (.cells (ic m.zs) 32))
 simp only [World.size_alloc] at X1_0 X2_0
 clear a0_1 a0_2 a1_2
 obtain ⟨-, k0_0, k0_1, k0_2, -⟩ := bx3 X0_0
 obtain ⟨-, k1_0, k1_1, k1_2, -⟩ := bx3 X1_0
 have k2_0 := X2_0.cell (i := 0) (by rw [Hl.out]; omega)
 rw [Mac.zs_kind] at k2_0
 go_enter Tryz.func39, Tryz.ntmps39
 obtain ⟨D0, hD0⟩ : ∃ D0, D0 = decide (p.valid) := ⟨_, rfl⟩
 have HD0 := Lib.hid hD0.symm
 clear hD0
 go_wp2_with fail
 refine (impl_PictureValid_any p b d l _ HL.out lc (s.ext E_0)).mono ?_
 rw [show decide (p.valid) = D0 from HD0.out]
 rintro e w_1 ⟨rfl, e_1⟩
 have X0_1 := e_1.blk X0_0
 have X1_1 := e_1.blk X1_0
 have X2_1 := X2_0.ext e_1
 have E_1 := E_0.trans e_1
 clear k0_0 k0_1 k0_2 X0_0 k1_0 k1_1 k1_2 X1_0 k2_0 X2_0 E_0 e_1
 obtain ⟨-, k0_0, k0_1, k0_2, -⟩ := bx3 X0_1
 obtain ⟨-, k1_0, k1_1, k1_2, -⟩ := bx3 X1_1
 have k2_0 := X2_1.cell (i := 0) (by rw [Hl.out]; omega)
 rw [Mac.zs_kind] at k2_0
 by_cases h0 : p.valid
 rotate_left
 ·have H0 := Lib.hid (show ¬ (p.valid) by first | exact h0 | omega)
  obtain rfl : D0 = false := by rw [← HD0.out]; exact decide_eq_false h0
  clear h0
  go_wp2
  go_ret
  exact ⟨by rw [HB.out, (decide_eq_false fun hh => by have h9 := H0.out; have h8 := hh.1; first | exact h9 h8 | omega)]; (first | done | rfl), E_1⟩
 obtain rfl : D0 = true := by rw [← HD0.out]; exact decide_eq_true h0
 have H0 := Lib.hid h0
 clear h0
 obtain ⟨D1, hD1⟩ : ∃ D1, D1 = decide (m.valid) := ⟨_, rfl⟩
 have HD1 := Lib.hid hD1.symm
 clear hD1
 go_wp2_with (refine wpList_iload 32 _ rfl rfl X2_1 0 71 rfl _ Tryz.underlying32 rfl size_Macro (by rw [Hl.out]; omega) _ (by rw [sub_all _ _ Hl.out]) ?_)
 refine (impl_MacroValid_any m _ HM.out).mono ?_
 rw [show decide (m.valid) = D1 from HD1.out]
 rintro e w_2 ⟨rfl, e_2⟩
 have X0_2 := e_2.blk X0_1
 have X1_2 := e_2.blk X1_1
 have X2_2 := X2_1.ext e_2
 have E_2 := E_1.trans e_2
 clear k0_0 k0_1 k0_2 X0_1 k1_0 k1_1 k1_2 X1_1 k2_0 X2_1 E_1 e_2
 obtain ⟨-, k0_0, k0_1, k0_2, -⟩ := bx3 X0_2
 obtain ⟨-, k1_0, k1_1, k1_2, -⟩ := bx3 X1_2
 have k2_0 := X2_2.cell (i := 0) (by rw [Hl.out]; omega)
 rw [Mac.zs_kind] at k2_0
 by_cases h1 : m.valid
 rotate_left
 ·have H1 := Lib.hid (show ¬ (m.valid) by first | exact h1 | omega)
  obtain rfl : D1 = false := by rw [← HD1.out]; exact decide_eq_false h1
  clear h1
  go_wp2
  go_ret
  exact ⟨by rw [HB.out, (decide_eq_false fun hh => by have h9 := H1.out; have h8 := hh.2.1; first | exact h9 h8 | omega)]; (first | done | rfl), E_2⟩
 obtain rfl : D1 = true := by rw [← HD1.out]; exact decide_eq_true h1
 have H1 := Lib.hid h1
 clear h1
 by_cases h2 : 0 ≤ q ∧ q ≤ 15
 rotate_left
 ·have H2 := Lib.hid (show ¬ (0 ≤ q ∧ q ≤ 15) by first | exact h2 | omega)
  have Q2 := Lib.hid h2
  clear h2
  go_wp2_with fail
  refine (qV_out q _ Q2.out).mono ?_
  rintro e w_s2 ⟨rfl, rfl⟩
  go_wp2
  go_ret
  exact ⟨by rw [HB.out, (decide_eq_false fun hh => by have h9 := H2.out; have h8 := hh.2.2.1; first | exact h9 h8 | omega)]; (first | done | rfl), E_2⟩
 have H2 := Lib.hid h2
 have Q2 := Lib.hid h2
 clear h2
 go_wp2_with fail
 refine (qV_in q _ Q2.out).mono ?_
 rintro e w_s2 ⟨rfl, rfl⟩
 obtain ⟨D3, hD3⟩ : ∃ D3, D3 = decide ((0 ≤ x) ∧ (x < p.w) ∧ (x % 8 = 0) ∧ (0 ≤ y) ∧ (y < p.h) ∧ (y % 8 = 0)) := ⟨_, rfl⟩
 have HD3 := Lib.hid hD3.symm
 clear hD3
 go_wp2_with fail
 refine (begins_any p x y b d l _).mono ?_
 rw [show decide ((0 ≤ x) ∧ (x < p.w) ∧ (x % 8 = 0) ∧ (0 ≤ y) ∧ (y < p.h) ∧ (y % 8 = 0)) = D3 from HD3.out]
 rintro e w_3 ⟨rfl, e_3⟩
 have X0_3 := e_3.blk X0_2
 have X1_3 := e_3.blk X1_2
 have X2_3 := X2_2.ext e_3
 have E_3 := E_2.trans e_3
 clear k0_0 k0_1 k0_2 X0_2 k1_0 k1_1 k1_2 X1_2 k2_0 X2_2 E_2 e_3
 obtain ⟨-, k0_0, k0_1, k0_2, -⟩ := bx3 X0_3
 obtain ⟨-, k1_0, k1_1, k1_2, -⟩ := bx3 X1_3
 have k2_0 := X2_3.cell (i := 0) (by rw [Hl.out]; omega)
 rw [Mac.zs_kind] at k2_0
 by_cases h3 : (0 ≤ x) ∧ (x < p.w) ∧ (x % 8 = 0) ∧ (0 ≤ y) ∧ (y < p.h) ∧ (y % 8 = 0)
 rotate_left
 ·have H3 := Lib.hid (show ¬ ((0 ≤ x) ∧ (x < p.w) ∧ (x % 8 = 0) ∧ (0 ≤ y) ∧ (y < p.h) ∧ (y % 8 = 0)) by first | exact h3 | omega)
  obtain rfl : D3 = false := by rw [← HD3.out]; exact decide_eq_false h3
  clear h3
  go_wp2
  go_ret
  exact ⟨by rw [HB.out, (decide_eq_false fun hh => by have h9 := H3.out; have h8 := hh.2.2.2.1; first | exact h9 h8 | omega)]; (first | done | rfl), E_3⟩
 obtain rfl : D3 = true := by rw [← HD3.out]; exact decide_eq_true h3
 have H3 := Lib.hid h3
 clear h3
 by_cases h4 : 0 ≤ top
 rotate_left
 ·have H4 := Lib.hid (show ¬ (0 ≤ top) by first | exact h4 | omega)
  have f4 : decide (top < 0) = true := by simpa using h4
  go_wp2
  go_ret
  exact ⟨by rw [HB.out, (decide_eq_false fun hh => by have h9 := H4.out; have h8 := hh.2.2.2.2.1; first | exact h9 h8 | omega)]; (first | done | rfl), E_3⟩
 have H4 := Lib.hid h4
 have f4 : decide (top < 0) = false := by simpa using h4
 by_cases h5 : top ≤ y
 rotate_left
 ·have H5 := Lib.hid (show ¬ (top ≤ y) by first | exact h5 | omega)
  have f5 : decide (y < top) = true := by simpa using h5
  go_wp2
  go_ret
  exact ⟨by rw [HB.out, (decide_eq_false fun hh => by have h9 := H5.out; have h8 := hh.2.2.2.2.2; first | exact h9 h8 | omega)]; (first | done | rfl), E_3⟩
 have H5 := Lib.hid h5
 have f5 : decide (y < top) = false := by simpa using h5
 go_wp2
 go_ret
 exact ⟨by rw [HB.out, (decide_eq_true ⟨H0.out, H1.out, H2.out, H3.out, H4.out, H5.out⟩)]; (first | done | rfl), E_3⟩
set_option maxRecDepth 100000 in
theorem reconstructsN_any (ref p : Pic) (x y : Int) (m : Mac) (q top : Int) (a b : Option Addr) (c d n l : Nat) (w : World) (hn : n = ref.px.length) (hl : l = p.px.length) (nc : n ≤ 9223372036854775807) (lc : l ≤ 9223372036854775807) (r : Sl w a n (ref.px.map (Value.int .i64))) (s : Sl w b l (p.px.map (Value.int .i64))) (hm : m.ok) (hk : ¬ m.kind = 2) :
 Calls Tryz.prog 39 #[.agg #[.int .i64 ref.w, .int .i64 ref.h, .slice a n c], .agg #[.int .i64 p.w, .int .i64 p.h, .slice b l d], .int .i64 x, .int .i64 y, .agg (ic m.zs), .int .i64 q, .int .i64 top] w fun e w' => e = .returned (.bool (decide ((p.valid) ∧ (m.valid) ∧ (0 ≤ q ∧ q ≤ 15) ∧ ((0 ≤ x) ∧ (x < p.w) ∧ (x % 8 = 0) ∧ (0 ≤ y) ∧ (y < p.h) ∧ (y % 8 = 0)) ∧ (0 ≤ top) ∧ (top ≤ y) ∧ (alikeP ref p)))) ∧ Ext w w' := by
 obtain ⟨B, hB⟩ : ∃ B, B = decide ((p.valid) ∧ (m.valid) ∧ (0 ≤ q ∧ q ≤ 15) ∧ ((0 ≤ x) ∧ (x < p.w) ∧ (x % 8 = 0) ∧ (0 ≤ y) ∧ (y < p.h) ∧ (y % 8 = 0)) ∧ (0 ≤ top) ∧ (top ≤ y) ∧ (alikeP ref p)) := ⟨_, rfl⟩
 rw [← hB]
 have HB := Lib.hid hB
 clear hB
 have HN := Lib.hid hn
 have HL := Lib.hid hl
 have HM := Lib.hid hm
 have Hl := Lib.hid (Mac.zs_len hm)
 clear hn hl hm
 have fk : (m.kind == 2) = false := by simpa using hk
 clear hk
 have a0_1 := Ext.alloc (w.alloc (.cells #[.int .i64 ref.w, .int .i64 ref.h, .slice a n c] 25)) (.cells #[.int .i64 p.w, .int .i64 p.h, .slice b l d] 25)
 have a0_2 := Ext.alloc ((w.alloc (.cells #[.int .i64 ref.w, .int .i64 ref.h, .slice a n c] 25)).alloc (.cells #[.int .i64 p.w, .int .i64 p.h, .slice b l d] 25)) (.cells (ic m.zs) 32)
 have X0_0 := a0_2.blk (a0_1.blk (blk_new w (.cells #[.int .i64 ref.w, .int .i64 ref.h, .slice a n c] 25)))
 have a1_2 := Ext.alloc ((w.alloc (.cells #[.int .i64 ref.w, .int .i64 ref.h, .slice a n c] 25)).alloc (.cells #[.int .i64 p.w, .int .i64 p.h, .slice b l d] 25)) (.cells (ic m.zs) 32)
 have X1_0 := a1_2.blk (blk_new (w.alloc (.cells #[.int .i64 ref.w, .int .i64 ref.h, .slice a n c] 25)) (.cells #[.int .i64 p.w, .int .i64 p.h, .slice b l d] 25))
 have X2_0 := IB.new ((w.alloc (.cells #[.int .i64 ref.w, .int .i64 ref.h, .slice a n c] 25)).alloc (.cells #[.int .i64 p.w, .int .i64 p.h, .slice b l d] 25)) 32 m.zs
 have E_0 := ((Ext.alloc w (.cells #[.int .i64 ref.w, .int .i64 ref.h, .slice a n c] 25)).trans (Ext.alloc (w.alloc (.cells #[.int .i64 ref.w, .int .i64 ref.h, .slice a n c] 25)) (.cells #[.int .i64 p.w, .int .i64 p.h, .slice b l d] 25))).trans (Ext.alloc ((w.alloc (.cells #[.int .i64 ref.w, .int .i64 ref.h, .slice a n c] 25)).alloc (.cells #[.int .i64 p.w, .int .i64 p.h, .slice b l d] 25)) (.cells (ic m.zs) 32))
 simp only [World.size_alloc] at X1_0 X2_0
 clear a0_1 a0_2 a1_2
 obtain ⟨-, k0_0, k0_1, k0_2, -⟩ := bx3 X0_0
 obtain ⟨-, k1_0, k1_1, k1_2, -⟩ := bx3 X1_0
 have k2_0 := X2_0.cell (i := 0) (by rw [Hl.out]; omega)
 rw [Mac.zs_kind] at k2_0
 go_enter Tryz.func39, Tryz.ntmps39
 obtain ⟨D0, hD0⟩ : ∃ D0, D0 = decide (p.valid) := ⟨_, rfl⟩
 have HD0 := Lib.hid hD0.symm
 clear hD0
 go_wp2_with fail
 refine (impl_PictureValid_any p b d l _ HL.out lc (s.ext E_0)).mono ?_
 rw [show decide (p.valid) = D0 from HD0.out]
 rintro e w_1 ⟨rfl, e_1⟩
 have X0_1 := e_1.blk X0_0
 have X1_1 := e_1.blk X1_0
 have X2_1 := X2_0.ext e_1
 have E_1 := E_0.trans e_1
 clear k0_0 k0_1 k0_2 X0_0 k1_0 k1_1 k1_2 X1_0 k2_0 X2_0 E_0 e_1
 obtain ⟨-, k0_0, k0_1, k0_2, -⟩ := bx3 X0_1
 obtain ⟨-, k1_0, k1_1, k1_2, -⟩ := bx3 X1_1
 have k2_0 := X2_1.cell (i := 0) (by rw [Hl.out]; omega)
 rw [Mac.zs_kind] at k2_0
 by_cases h0 : p.valid
 rotate_left
 ·have H0 := Lib.hid (show ¬ (p.valid) by first | exact h0 | omega)
  obtain rfl : D0 = false := by rw [← HD0.out]; exact decide_eq_false h0
  clear h0
  go_wp2
  go_ret
  exact ⟨by rw [HB.out, (decide_eq_false fun hh => by have h9 := H0.out; have h8 := hh.1; first | exact h9 h8 | omega)]; (first | done | rfl), E_1⟩
 obtain rfl : D0 = true := by rw [← HD0.out]; exact decide_eq_true h0
 have H0 := Lib.hid h0
 clear h0
 obtain ⟨D1, hD1⟩ : ∃ D1, D1 = decide (m.valid) := ⟨_, rfl⟩
 have HD1 := Lib.hid hD1.symm
 clear hD1
 go_wp2_with (refine wpList_iload 32 _ rfl rfl X2_1 0 71 rfl _ Tryz.underlying32 rfl size_Macro (by rw [Hl.out]; omega) _ (by rw [sub_all _ _ Hl.out]) ?_)
 refine (impl_MacroValid_any m _ HM.out).mono ?_
 rw [show decide (m.valid) = D1 from HD1.out]
 rintro e w_2 ⟨rfl, e_2⟩
 have X0_2 := e_2.blk X0_1
 have X1_2 := e_2.blk X1_1
 have X2_2 := X2_1.ext e_2
 have E_2 := E_1.trans e_2
 clear k0_0 k0_1 k0_2 X0_1 k1_0 k1_1 k1_2 X1_1 k2_0 X2_1 E_1 e_2
 obtain ⟨-, k0_0, k0_1, k0_2, -⟩ := bx3 X0_2
 obtain ⟨-, k1_0, k1_1, k1_2, -⟩ := bx3 X1_2
 have k2_0 := X2_2.cell (i := 0) (by rw [Hl.out]; omega)
 rw [Mac.zs_kind] at k2_0
 by_cases h1 : m.valid
 rotate_left
 ·have H1 := Lib.hid (show ¬ (m.valid) by first | exact h1 | omega)
  obtain rfl : D1 = false := by rw [← HD1.out]; exact decide_eq_false h1
  clear h1
  go_wp2
  go_ret
  exact ⟨by rw [HB.out, (decide_eq_false fun hh => by have h9 := H1.out; have h8 := hh.2.1; first | exact h9 h8 | omega)]; (first | done | rfl), E_2⟩
 obtain rfl : D1 = true := by rw [← HD1.out]; exact decide_eq_true h1
 have H1 := Lib.hid h1
 clear h1
 by_cases h2 : 0 ≤ q ∧ q ≤ 15
 rotate_left
 ·have H2 := Lib.hid (show ¬ (0 ≤ q ∧ q ≤ 15) by first | exact h2 | omega)
  have Q2 := Lib.hid h2
  clear h2
  go_wp2_with fail
  refine (qV_out q _ Q2.out).mono ?_
  rintro e w_s2 ⟨rfl, rfl⟩
  go_wp2
  go_ret
  exact ⟨by rw [HB.out, (decide_eq_false fun hh => by have h9 := H2.out; have h8 := hh.2.2.1; first | exact h9 h8 | omega)]; (first | done | rfl), E_2⟩
 have H2 := Lib.hid h2
 have Q2 := Lib.hid h2
 clear h2
 go_wp2_with fail
 refine (qV_in q _ Q2.out).mono ?_
 rintro e w_s2 ⟨rfl, rfl⟩
 obtain ⟨D3, hD3⟩ : ∃ D3, D3 = decide ((0 ≤ x) ∧ (x < p.w) ∧ (x % 8 = 0) ∧ (0 ≤ y) ∧ (y < p.h) ∧ (y % 8 = 0)) := ⟨_, rfl⟩
 have HD3 := Lib.hid hD3.symm
 clear hD3
 go_wp2_with fail
 refine (begins_any p x y b d l _).mono ?_
 rw [show decide ((0 ≤ x) ∧ (x < p.w) ∧ (x % 8 = 0) ∧ (0 ≤ y) ∧ (y < p.h) ∧ (y % 8 = 0)) = D3 from HD3.out]
 rintro e w_3 ⟨rfl, e_3⟩
 have X0_3 := e_3.blk X0_2
 have X1_3 := e_3.blk X1_2
 have X2_3 := X2_2.ext e_3
 have E_3 := E_2.trans e_3
 clear k0_0 k0_1 k0_2 X0_2 k1_0 k1_1 k1_2 X1_2 k2_0 X2_2 E_2 e_3
 obtain ⟨-, k0_0, k0_1, k0_2, -⟩ := bx3 X0_3
 obtain ⟨-, k1_0, k1_1, k1_2, -⟩ := bx3 X1_3
 have k2_0 := X2_3.cell (i := 0) (by rw [Hl.out]; omega)
 rw [Mac.zs_kind] at k2_0
 by_cases h3 : (0 ≤ x) ∧ (x < p.w) ∧ (x % 8 = 0) ∧ (0 ≤ y) ∧ (y < p.h) ∧ (y % 8 = 0)
 rotate_left
 ·have H3 := Lib.hid (show ¬ ((0 ≤ x) ∧ (x < p.w) ∧ (x % 8 = 0) ∧ (0 ≤ y) ∧ (y < p.h) ∧ (y % 8 = 0)) by first | exact h3 | omega)
  obtain rfl : D3 = false := by rw [← HD3.out]; exact decide_eq_false h3
  clear h3
  go_wp2
  go_ret
  exact ⟨by rw [HB.out, (decide_eq_false fun hh => by have h9 := H3.out; have h8 := hh.2.2.2.1; first | exact h9 h8 | omega)]; (first | done | rfl), E_3⟩
 obtain rfl : D3 = true := by rw [← HD3.out]; exact decide_eq_true h3
 have H3 := Lib.hid h3
 clear h3
 by_cases h4 : 0 ≤ top
 rotate_left
 ·have H4 := Lib.hid (show ¬ (0 ≤ top) by first | exact h4 | omega)
  have f4 : decide (top < 0) = true := by simpa using h4
  go_wp2
  go_ret
  exact ⟨by rw [HB.out, (decide_eq_false fun hh => by have h9 := H4.out; have h8 := hh.2.2.2.2.1; first | exact h9 h8 | omega)]; (first | done | rfl), E_3⟩
 have H4 := Lib.hid h4
 have f4 : decide (top < 0) = false := by simpa using h4
 by_cases h5 : top ≤ y
 rotate_left
 ·have H5 := Lib.hid (show ¬ (top ≤ y) by first | exact h5 | omega)
  have f5 : decide (y < top) = true := by simpa using h5
  go_wp2
  go_ret
  exact ⟨by rw [HB.out, (decide_eq_false fun hh => by have h9 := H5.out; have h8 := hh.2.2.2.2.2.1; first | exact h9 h8 | omega)]; (first | done | rfl), E_3⟩
 have H5 := Lib.hid h5
 have f5 : decide (y < top) = false := by simpa using h5
 obtain ⟨D6, hD6⟩ : ∃ D6, D6 = decide (alikeP ref p) := ⟨_, rfl⟩
 have HD6 := Lib.hid hD6.symm
 clear hD6
 go_wp2_with fail
 refine (alike_at ref p a b c d n l _ HN.out HL.out nc lc (r.ext E_3) (s.ext E_3)).mono ?_
 rw [show decide (alikeP ref p) = D6 from HD6.out]
 rintro e w_4 ⟨rfl, e_4⟩
 have X0_4 := e_4.blk X0_3
 have X1_4 := e_4.blk X1_3
 have X2_4 := X2_3.ext e_4
 have E_4 := E_3.trans e_4
 clear k0_0 k0_1 k0_2 X0_3 k1_0 k1_1 k1_2 X1_3 k2_0 X2_3 E_3 e_4
 obtain ⟨-, k0_0, k0_1, k0_2, -⟩ := bx3 X0_4
 obtain ⟨-, k1_0, k1_1, k1_2, -⟩ := bx3 X1_4
 have k2_0 := X2_4.cell (i := 0) (by rw [Hl.out]; omega)
 rw [Mac.zs_kind] at k2_0
 by_cases h6 : alikeP ref p
 rotate_left
 ·have H6 := Lib.hid (show ¬ (alikeP ref p) by first | exact h6 | omega)
  obtain rfl : D6 = false := by rw [← HD6.out]; exact decide_eq_false h6
  clear h6
  go_wp2
  go_ret
  exact ⟨by rw [HB.out, (decide_eq_false fun hh => by have h9 := H6.out; have h8 := hh.2.2.2.2.2.2; first | exact h9 h8 | omega)]; (first | done | rfl), E_4⟩
 obtain rfl : D6 = true := by rw [← HD6.out]; exact decide_eq_true h6
 have H6 := Lib.hid h6
 clear h6
 go_wp2
 go_ret
 exact ⟨by rw [HB.out, (decide_eq_true ⟨H0.out, H1.out, H2.out, H3.out, H4.out, H5.out, H6.out⟩)]; (first | done | rfl), E_4⟩
theorem reconstructs_any (ref p : Pic) (x y : Int) (m : Mac) (q top : Int) (a b : Option Addr) (c d n l : Nat) (w : World) (hn : n = ref.px.length) (hl : l = p.px.length) (nc : n ≤ 9223372036854775807) (lc : l ≤ 9223372036854775807) (r : Sl w a n (ref.px.map (Value.int .i64))) (s : Sl w b l (p.px.map (Value.int .i64))) (hm : m.ok) :
 Calls Tryz.prog 39 #[.agg #[.int .i64 ref.w, .int .i64 ref.h, .slice a n c], .agg #[.int .i64 p.w, .int .i64 p.h, .slice b l d], .int .i64 x, .int .i64 y, .agg (ic m.zs), .int .i64 q, .int .i64 top] w fun e w' => e = .returned (.bool (decide (okR ref p x y m q top))) ∧ Ext w w' := by
 by_cases hk : m.kind = 2
 ·have h := reconstructsK_any ref p x y m q top a b c d n l w hn hl nc lc r s hm hk
  rw [show decide ((p.valid) ∧ (m.valid) ∧ (0 ≤ q ∧ q ≤ 15) ∧ ((0 ≤ x) ∧ (x < p.w) ∧ (x % 8 = 0) ∧ (0 ≤ y) ∧ (y < p.h) ∧ (y % 8 = 0)) ∧ (0 ≤ top) ∧ (top ≤ y)) = decide (okR ref p x y m q top) from decide_eq_decide.2 ⟨fun ⟨h0, h1, h2, h3, h4, h5⟩ => ⟨⟨h0, h3⟩, h1, h2, ⟨h4, h5⟩, .inl hk⟩, fun ⟨h0, h1, h2, h3, _⟩ => ⟨h0.1, h1, h2, h0.2, h3.1, h3.2⟩⟩] at h
  exact h
 ·have h := reconstructsN_any ref p x y m q top a b c d n l w hn hl nc lc r s hm hk
  rw [show decide ((p.valid) ∧ (m.valid) ∧ (0 ≤ q ∧ q ≤ 15) ∧ ((0 ≤ x) ∧ (x < p.w) ∧ (x % 8 = 0) ∧ (0 ≤ y) ∧ (y < p.h) ∧ (y % 8 = 0)) ∧ (0 ≤ top) ∧ (top ≤ y) ∧ (alikeP ref p)) = decide (okR ref p x y m q top) from decide_eq_decide.2 ⟨fun ⟨h0, h1, h2, h3, h4, h5, h6⟩ => ⟨⟨h0, h3⟩, h1, h2, ⟨h4, h5⟩, .inr h6⟩, fun ⟨h0, h1, h2, h3, h4⟩ => ⟨h0.1, h1, h2, h0.2, h3.1, h3.2, h4.resolve_left hk⟩⟩] at h
  exact h
set_option maxRecDepth 100000 in
theorem l8OkK_any (ref p : Pic) (x y : Int) (m : Mac) (q top : Int) (a b : Option Addr) (c d n l : Nat) (w : World) (hn : n = ref.px.length) (hl : l = p.px.length) (nc : n ≤ 9223372036854775807) (lc : l ≤ 9223372036854775807) (r : Sl w a n (ref.px.map (Value.int .i64))) (s : Sl w b l (p.px.map (Value.int .i64))) (hm : m.ok) (hk : m.kind = 2) :
 Calls Tryz.prog 42 #[.agg #[.int .i64 ref.w, .int .i64 ref.h, .slice a n c], .agg #[.int .i64 p.w, .int .i64 p.h, .slice b l d], .int .i64 x, .int .i64 y, .agg (ic m.zs), .int .i64 q, .int .i64 top] w fun e w' => e = .returned (.bool (decide ((placeP p x y) ∧ (m.valid) ∧ (0 ≤ q ∧ q ≤ 15) ∧ (0 ≤ top ∧ top ≤ y)))) ∧ Ext w w' := by
 obtain ⟨B, hB⟩ : ∃ B, B = decide ((placeP p x y) ∧ (m.valid) ∧ (0 ≤ q ∧ q ≤ 15) ∧ (0 ≤ top ∧ top ≤ y)) := ⟨_, rfl⟩
 rw [← hB]
 have HB := Lib.hid hB
 clear hB
 have HN := Lib.hid hn
 have HL := Lib.hid hl
 have HM := Lib.hid hm
 have Hl := Lib.hid (Mac.zs_len hm)
 clear hn hl hm
 have fk : (m.kind == 2) = true := by simpa using hk
 clear hk
 have a0_1 := Ext.alloc (w.alloc (.cells #[.int .i64 ref.w, .int .i64 ref.h, .slice a n c] 25)) (.cells #[.int .i64 p.w, .int .i64 p.h, .slice b l d] 25)
 have a0_2 := Ext.alloc ((w.alloc (.cells #[.int .i64 ref.w, .int .i64 ref.h, .slice a n c] 25)).alloc (.cells #[.int .i64 p.w, .int .i64 p.h, .slice b l d] 25)) (.cells (ic m.zs) 32)
 have X0_0 := a0_2.blk (a0_1.blk (blk_new w (.cells #[.int .i64 ref.w, .int .i64 ref.h, .slice a n c] 25)))
 have a1_2 := Ext.alloc ((w.alloc (.cells #[.int .i64 ref.w, .int .i64 ref.h, .slice a n c] 25)).alloc (.cells #[.int .i64 p.w, .int .i64 p.h, .slice b l d] 25)) (.cells (ic m.zs) 32)
 have X1_0 := a1_2.blk (blk_new (w.alloc (.cells #[.int .i64 ref.w, .int .i64 ref.h, .slice a n c] 25)) (.cells #[.int .i64 p.w, .int .i64 p.h, .slice b l d] 25))
 have X2_0 := IB.new ((w.alloc (.cells #[.int .i64 ref.w, .int .i64 ref.h, .slice a n c] 25)).alloc (.cells #[.int .i64 p.w, .int .i64 p.h, .slice b l d] 25)) 32 m.zs
 have E_0 := ((Ext.alloc w (.cells #[.int .i64 ref.w, .int .i64 ref.h, .slice a n c] 25)).trans (Ext.alloc (w.alloc (.cells #[.int .i64 ref.w, .int .i64 ref.h, .slice a n c] 25)) (.cells #[.int .i64 p.w, .int .i64 p.h, .slice b l d] 25))).trans (Ext.alloc ((w.alloc (.cells #[.int .i64 ref.w, .int .i64 ref.h, .slice a n c] 25)).alloc (.cells #[.int .i64 p.w, .int .i64 p.h, .slice b l d] 25)) (.cells (ic m.zs) 32))
 simp only [World.size_alloc] at X1_0 X2_0
 clear a0_1 a0_2 a1_2
 obtain ⟨-, k0_0, k0_1, k0_2, -⟩ := bx3 X0_0
 obtain ⟨-, k1_0, k1_1, k1_2, -⟩ := bx3 X1_0
 have k2_0 := X2_0.cell (i := 0) (by rw [Hl.out]; omega)
 rw [Mac.zs_kind] at k2_0
 go_enter Tryz.func42, Tryz.ntmps42
 obtain ⟨D0, hD0⟩ : ∃ D0, D0 = decide (placeP p x y) := ⟨_, rfl⟩
 have HD0 := Lib.hid hD0.symm
 clear hD0
 go_wp2_with fail
 refine (l7Place_at p x y b d l _ HL.out lc (s.ext E_0)).mono ?_
 rw [show decide (placeP p x y) = D0 from HD0.out]
 rintro e w_1 ⟨rfl, e_1⟩
 have X0_1 := e_1.blk X0_0
 have X1_1 := e_1.blk X1_0
 have X2_1 := X2_0.ext e_1
 have E_1 := E_0.trans e_1
 clear k0_0 k0_1 k0_2 X0_0 k1_0 k1_1 k1_2 X1_0 k2_0 X2_0 E_0 e_1
 obtain ⟨-, k0_0, k0_1, k0_2, -⟩ := bx3 X0_1
 obtain ⟨-, k1_0, k1_1, k1_2, -⟩ := bx3 X1_1
 have k2_0 := X2_1.cell (i := 0) (by rw [Hl.out]; omega)
 rw [Mac.zs_kind] at k2_0
 by_cases h0 : placeP p x y
 rotate_left
 ·have H0 := Lib.hid (show ¬ (placeP p x y) by first | exact h0 | omega)
  obtain rfl : D0 = false := by rw [← HD0.out]; exact decide_eq_false h0
  clear h0
  go_wp2
  go_ret
  exact ⟨by rw [HB.out, (decide_eq_false fun hh => by have h9 := H0.out; have h8 := hh.1; first | exact h9 h8 | omega)]; (first | done | rfl), E_1⟩
 obtain rfl : D0 = true := by rw [← HD0.out]; exact decide_eq_true h0
 have H0 := Lib.hid h0
 clear h0
 obtain ⟨D1, hD1⟩ : ∃ D1, D1 = decide (m.valid) := ⟨_, rfl⟩
 have HD1 := Lib.hid hD1.symm
 clear hD1
 go_wp2_with (refine wpList_iload 32 _ rfl rfl X2_1 0 71 rfl _ Tryz.underlying32 rfl size_Macro (by rw [Hl.out]; omega) _ (by rw [sub_all _ _ Hl.out]) ?_)
 refine (spec_MacroValid_any m _ HM.out).mono ?_
 rw [show decide (m.valid) = D1 from HD1.out]
 rintro e w_2 ⟨rfl, e_2⟩
 have X0_2 := e_2.blk X0_1
 have X1_2 := e_2.blk X1_1
 have X2_2 := X2_1.ext e_2
 have E_2 := E_1.trans e_2
 clear k0_0 k0_1 k0_2 X0_1 k1_0 k1_1 k1_2 X1_1 k2_0 X2_1 E_1 e_2
 obtain ⟨-, k0_0, k0_1, k0_2, -⟩ := bx3 X0_2
 obtain ⟨-, k1_0, k1_1, k1_2, -⟩ := bx3 X1_2
 have k2_0 := X2_2.cell (i := 0) (by rw [Hl.out]; omega)
 rw [Mac.zs_kind] at k2_0
 by_cases h1 : m.valid
 rotate_left
 ·have H1 := Lib.hid (show ¬ (m.valid) by first | exact h1 | omega)
  obtain rfl : D1 = false := by rw [← HD1.out]; exact decide_eq_false h1
  clear h1
  go_wp2
  go_ret
  exact ⟨by rw [HB.out, (decide_eq_false fun hh => by have h9 := H1.out; have h8 := hh.2.1; first | exact h9 h8 | omega)]; (first | done | rfl), E_2⟩
 obtain rfl : D1 = true := by rw [← HD1.out]; exact decide_eq_true h1
 have H1 := Lib.hid h1
 clear h1
 by_cases h2 : 0 ≤ q ∧ q ≤ 15
 rotate_left
 ·have H2 := Lib.hid (show ¬ (0 ≤ q ∧ q ≤ 15) by first | exact h2 | omega)
  go_wp2_with fail
  refine (l1In_no _ _ _ _ (by omega)).mono ?_
  rintro e w_s2 ⟨rfl, rfl⟩
  go_wp2
  go_ret
  exact ⟨by rw [HB.out, (decide_eq_false fun hh => by have h9 := H2.out; have h8 := hh.2.2.1; first | exact h9 h8 | omega)]; (first | done | rfl), E_2⟩
 have H2 := Lib.hid h2
 go_wp2_with fail
 refine (l1In_yes _ _ _ _ h2.1 h2.2).mono ?_
 rintro e w_s2 ⟨rfl, rfl⟩
 by_cases h3 : 0 ≤ top ∧ top ≤ y
 rotate_left
 ·have H3 := Lib.hid (show ¬ (0 ≤ top ∧ top ≤ y) by first | exact h3 | omega)
  go_wp2_with fail
  refine (l1In_no _ _ _ _ (by omega)).mono ?_
  rintro e w_s3 ⟨rfl, rfl⟩
  go_wp2
  go_ret
  exact ⟨by rw [HB.out, (decide_eq_false fun hh => by have h9 := H3.out; have h8 := hh.2.2.2; first | exact h9 h8 | omega)]; (first | done | rfl), E_2⟩
 have H3 := Lib.hid h3
 go_wp2_with fail
 refine (l1In_yes _ _ _ _ h3.1 h3.2).mono ?_
 rintro e w_s3 ⟨rfl, rfl⟩
 go_wp2
 go_ret
 exact ⟨by rw [HB.out, (decide_eq_true ⟨H0.out, H1.out, H2.out, H3.out⟩)]; (first | done | rfl), E_2⟩
set_option maxRecDepth 100000 in
theorem l8OkN_any (ref p : Pic) (x y : Int) (m : Mac) (q top : Int) (a b : Option Addr) (c d n l : Nat) (w : World) (hn : n = ref.px.length) (hl : l = p.px.length) (nc : n ≤ 9223372036854775807) (lc : l ≤ 9223372036854775807) (r : Sl w a n (ref.px.map (Value.int .i64))) (s : Sl w b l (p.px.map (Value.int .i64))) (hm : m.ok) (hk : ¬ m.kind = 2) :
 Calls Tryz.prog 42 #[.agg #[.int .i64 ref.w, .int .i64 ref.h, .slice a n c], .agg #[.int .i64 p.w, .int .i64 p.h, .slice b l d], .int .i64 x, .int .i64 y, .agg (ic m.zs), .int .i64 q, .int .i64 top] w fun e w' => e = .returned (.bool (decide ((placeP p x y) ∧ (m.valid) ∧ (0 ≤ q ∧ q ≤ 15) ∧ (0 ≤ top ∧ top ≤ y) ∧ (alikeP ref p)))) ∧ Ext w w' := by
 obtain ⟨B, hB⟩ : ∃ B, B = decide ((placeP p x y) ∧ (m.valid) ∧ (0 ≤ q ∧ q ≤ 15) ∧ (0 ≤ top ∧ top ≤ y) ∧ (alikeP ref p)) := ⟨_, rfl⟩
 rw [← hB]
 have HB := Lib.hid hB
 clear hB
 have HN := Lib.hid hn
 have HL := Lib.hid hl
 have HM := Lib.hid hm
 have Hl := Lib.hid (Mac.zs_len hm)
 clear hn hl hm
 have fk : (m.kind == 2) = false := by simpa using hk
 clear hk
 have a0_1 := Ext.alloc (w.alloc (.cells #[.int .i64 ref.w, .int .i64 ref.h, .slice a n c] 25)) (.cells #[.int .i64 p.w, .int .i64 p.h, .slice b l d] 25)
 have a0_2 := Ext.alloc ((w.alloc (.cells #[.int .i64 ref.w, .int .i64 ref.h, .slice a n c] 25)).alloc (.cells #[.int .i64 p.w, .int .i64 p.h, .slice b l d] 25)) (.cells (ic m.zs) 32)
 have X0_0 := a0_2.blk (a0_1.blk (blk_new w (.cells #[.int .i64 ref.w, .int .i64 ref.h, .slice a n c] 25)))
 have a1_2 := Ext.alloc ((w.alloc (.cells #[.int .i64 ref.w, .int .i64 ref.h, .slice a n c] 25)).alloc (.cells #[.int .i64 p.w, .int .i64 p.h, .slice b l d] 25)) (.cells (ic m.zs) 32)
 have X1_0 := a1_2.blk (blk_new (w.alloc (.cells #[.int .i64 ref.w, .int .i64 ref.h, .slice a n c] 25)) (.cells #[.int .i64 p.w, .int .i64 p.h, .slice b l d] 25))
 have X2_0 := IB.new ((w.alloc (.cells #[.int .i64 ref.w, .int .i64 ref.h, .slice a n c] 25)).alloc (.cells #[.int .i64 p.w, .int .i64 p.h, .slice b l d] 25)) 32 m.zs
 have E_0 := ((Ext.alloc w (.cells #[.int .i64 ref.w, .int .i64 ref.h, .slice a n c] 25)).trans (Ext.alloc (w.alloc (.cells #[.int .i64 ref.w, .int .i64 ref.h, .slice a n c] 25)) (.cells #[.int .i64 p.w, .int .i64 p.h, .slice b l d] 25))).trans (Ext.alloc ((w.alloc (.cells #[.int .i64 ref.w, .int .i64 ref.h, .slice a n c] 25)).alloc (.cells #[.int .i64 p.w, .int .i64 p.h, .slice b l d] 25)) (.cells (ic m.zs) 32))
 simp only [World.size_alloc] at X1_0 X2_0
 clear a0_1 a0_2 a1_2
 obtain ⟨-, k0_0, k0_1, k0_2, -⟩ := bx3 X0_0
 obtain ⟨-, k1_0, k1_1, k1_2, -⟩ := bx3 X1_0
 have k2_0 := X2_0.cell (i := 0) (by rw [Hl.out]; omega)
 rw [Mac.zs_kind] at k2_0
 go_enter Tryz.func42, Tryz.ntmps42
 obtain ⟨D0, hD0⟩ : ∃ D0, D0 = decide (placeP p x y) := ⟨_, rfl⟩
 have HD0 := Lib.hid hD0.symm
 clear hD0
 go_wp2_with fail
 refine (l7Place_at p x y b d l _ HL.out lc (s.ext E_0)).mono ?_
 rw [show decide (placeP p x y) = D0 from HD0.out]
 rintro e w_1 ⟨rfl, e_1⟩
 have X0_1 := e_1.blk X0_0
 have X1_1 := e_1.blk X1_0
 have X2_1 := X2_0.ext e_1
 have E_1 := E_0.trans e_1
 clear k0_0 k0_1 k0_2 X0_0 k1_0 k1_1 k1_2 X1_0 k2_0 X2_0 E_0 e_1
 obtain ⟨-, k0_0, k0_1, k0_2, -⟩ := bx3 X0_1
 obtain ⟨-, k1_0, k1_1, k1_2, -⟩ := bx3 X1_1
 have k2_0 := X2_1.cell (i := 0) (by rw [Hl.out]; omega)
 rw [Mac.zs_kind] at k2_0
 by_cases h0 : placeP p x y
 rotate_left
 ·have H0 := Lib.hid (show ¬ (placeP p x y) by first | exact h0 | omega)
  obtain rfl : D0 = false := by rw [← HD0.out]; exact decide_eq_false h0
  clear h0
  go_wp2
  go_ret
  exact ⟨by rw [HB.out, (decide_eq_false fun hh => by have h9 := H0.out; have h8 := hh.1; first | exact h9 h8 | omega)]; (first | done | rfl), E_1⟩
 obtain rfl : D0 = true := by rw [← HD0.out]; exact decide_eq_true h0
 have H0 := Lib.hid h0
 clear h0
 obtain ⟨D1, hD1⟩ : ∃ D1, D1 = decide (m.valid) := ⟨_, rfl⟩
 have HD1 := Lib.hid hD1.symm
 clear hD1
 go_wp2_with (refine wpList_iload 32 _ rfl rfl X2_1 0 71 rfl _ Tryz.underlying32 rfl size_Macro (by rw [Hl.out]; omega) _ (by rw [sub_all _ _ Hl.out]) ?_)
 refine (spec_MacroValid_any m _ HM.out).mono ?_
 rw [show decide (m.valid) = D1 from HD1.out]
 rintro e w_2 ⟨rfl, e_2⟩
 have X0_2 := e_2.blk X0_1
 have X1_2 := e_2.blk X1_1
 have X2_2 := X2_1.ext e_2
 have E_2 := E_1.trans e_2
 clear k0_0 k0_1 k0_2 X0_1 k1_0 k1_1 k1_2 X1_1 k2_0 X2_1 E_1 e_2
 obtain ⟨-, k0_0, k0_1, k0_2, -⟩ := bx3 X0_2
 obtain ⟨-, k1_0, k1_1, k1_2, -⟩ := bx3 X1_2
 have k2_0 := X2_2.cell (i := 0) (by rw [Hl.out]; omega)
 rw [Mac.zs_kind] at k2_0
 by_cases h1 : m.valid
 rotate_left
 ·have H1 := Lib.hid (show ¬ (m.valid) by first | exact h1 | omega)
  obtain rfl : D1 = false := by rw [← HD1.out]; exact decide_eq_false h1
  clear h1
  go_wp2
  go_ret
  exact ⟨by rw [HB.out, (decide_eq_false fun hh => by have h9 := H1.out; have h8 := hh.2.1; first | exact h9 h8 | omega)]; (first | done | rfl), E_2⟩
 obtain rfl : D1 = true := by rw [← HD1.out]; exact decide_eq_true h1
 have H1 := Lib.hid h1
 clear h1
 by_cases h2 : 0 ≤ q ∧ q ≤ 15
 rotate_left
 ·have H2 := Lib.hid (show ¬ (0 ≤ q ∧ q ≤ 15) by first | exact h2 | omega)
  go_wp2_with fail
  refine (l1In_no _ _ _ _ (by omega)).mono ?_
  rintro e w_s2 ⟨rfl, rfl⟩
  go_wp2
  go_ret
  exact ⟨by rw [HB.out, (decide_eq_false fun hh => by have h9 := H2.out; have h8 := hh.2.2.1; first | exact h9 h8 | omega)]; (first | done | rfl), E_2⟩
 have H2 := Lib.hid h2
 go_wp2_with fail
 refine (l1In_yes _ _ _ _ h2.1 h2.2).mono ?_
 rintro e w_s2 ⟨rfl, rfl⟩
 by_cases h3 : 0 ≤ top ∧ top ≤ y
 rotate_left
 ·have H3 := Lib.hid (show ¬ (0 ≤ top ∧ top ≤ y) by first | exact h3 | omega)
  go_wp2_with fail
  refine (l1In_no _ _ _ _ (by omega)).mono ?_
  rintro e w_s3 ⟨rfl, rfl⟩
  go_wp2
  go_ret
  exact ⟨by rw [HB.out, (decide_eq_false fun hh => by have h9 := H3.out; have h8 := hh.2.2.2.1; first | exact h9 h8 | omega)]; (first | done | rfl), E_2⟩
 have H3 := Lib.hid h3
 go_wp2_with fail
 refine (l1In_yes _ _ _ _ h3.1 h3.2).mono ?_
 rintro e w_s3 ⟨rfl, rfl⟩
 obtain ⟨D4, hD4⟩ : ∃ D4, D4 = decide (alikeP ref p) := ⟨_, rfl⟩
 have HD4 := Lib.hid hD4.symm
 clear hD4
 go_wp2_with fail
 refine (l1Same_at ref p a b c d n l _ HN.out HL.out nc lc (r.ext E_2) (s.ext E_2)).mono ?_
 rw [show decide (alikeP ref p) = D4 from HD4.out]
 rintro e w_3 ⟨rfl, e_3⟩
 have X0_3 := e_3.blk X0_2
 have X1_3 := e_3.blk X1_2
 have X2_3 := X2_2.ext e_3
 have E_3 := E_2.trans e_3
 clear k0_0 k0_1 k0_2 X0_2 k1_0 k1_1 k1_2 X1_2 k2_0 X2_2 E_2 e_3
 obtain ⟨-, k0_0, k0_1, k0_2, -⟩ := bx3 X0_3
 obtain ⟨-, k1_0, k1_1, k1_2, -⟩ := bx3 X1_3
 have k2_0 := X2_3.cell (i := 0) (by rw [Hl.out]; omega)
 rw [Mac.zs_kind] at k2_0
 by_cases h4 : alikeP ref p
 rotate_left
 ·have H4 := Lib.hid (show ¬ (alikeP ref p) by first | exact h4 | omega)
  obtain rfl : D4 = false := by rw [← HD4.out]; exact decide_eq_false h4
  clear h4
  go_wp2
  go_ret
  exact ⟨by rw [HB.out, (decide_eq_false fun hh => by have h9 := H4.out; have h8 := hh.2.2.2.2; first | exact h9 h8 | omega)]; (first | done | rfl), E_3⟩
 obtain rfl : D4 = true := by rw [← HD4.out]; exact decide_eq_true h4
 have H4 := Lib.hid h4
 clear h4
 go_wp2
 go_ret
 exact ⟨by rw [HB.out, (decide_eq_true ⟨H0.out, H1.out, H2.out, H3.out, H4.out⟩)]; (first | done | rfl), E_3⟩
theorem l8Ok_any (ref p : Pic) (x y : Int) (m : Mac) (q top : Int) (a b : Option Addr) (c d n l : Nat) (w : World) (hn : n = ref.px.length) (hl : l = p.px.length) (nc : n ≤ 9223372036854775807) (lc : l ≤ 9223372036854775807) (r : Sl w a n (ref.px.map (Value.int .i64))) (s : Sl w b l (p.px.map (Value.int .i64))) (hm : m.ok) :
 Calls Tryz.prog 42 #[.agg #[.int .i64 ref.w, .int .i64 ref.h, .slice a n c], .agg #[.int .i64 p.w, .int .i64 p.h, .slice b l d], .int .i64 x, .int .i64 y, .agg (ic m.zs), .int .i64 q, .int .i64 top] w fun e w' => e = .returned (.bool (decide (okR ref p x y m q top))) ∧ Ext w w' := by
 by_cases hk : m.kind = 2
 ·have h := l8OkK_any ref p x y m q top a b c d n l w hn hl nc lc r s hm hk
  rw [show decide ((placeP p x y) ∧ (m.valid) ∧ (0 ≤ q ∧ q ≤ 15) ∧ (0 ≤ top ∧ top ≤ y)) = decide (okR ref p x y m q top) from decide_eq_decide.2 ⟨fun ⟨h0, h1, h2, h3⟩ => ⟨h0, h1, h2, h3, .inl hk⟩, fun ⟨h0, h1, h2, h3, _⟩ => ⟨h0, h1, h2, h3⟩⟩] at h
  exact h
 ·have h := l8OkN_any ref p x y m q top a b c d n l w hn hl nc lc r s hm hk
  rw [show decide ((placeP p x y) ∧ (m.valid) ∧ (0 ≤ q ∧ q ≤ 15) ∧ (0 ≤ top ∧ top ≤ y) ∧ (alikeP ref p)) = decide (okR ref p x y m q top) from decide_eq_decide.2 ⟨fun ⟨h0, h1, h2, h3, h4⟩ => ⟨h0, h1, h2, h3, .inr h4⟩, fun ⟨h0, h1, h2, h3, h4⟩ => ⟨h0, h1, h2, h3, h4.resolve_left hk⟩⟩] at h
  exact h
end Go.Proofs.YtbnhaegidfbgbaaGreatDoor
namespace Go.Proofs.YtbnhaegidfbgbaaGreatDoor
open Go.RowKit
set_option maxHeartbeats 1000000
structure RG (w : World) (base g n c : Nat) (ra : Option Addr) (rn rc W H : Nat) (ref : Pic) (m : Mac) (B : Nat) (Z : List Int) (wx : World) : Prop where
 gr : w.grownBy wx (some g)
 own : wx.ownsRow base 3 1 (.slice (some ⟨g, 0, none⟩) n c) n (Z.map (Value.int .i64))
 b0 : wx.heap[B]? = some (.cells #[.int .i64 W, .int .i64 H, .slice (some ⟨g, 0, none⟩) n c] 25 (0, 0))
 b1 : wx.heap[B + 1]? = some (.cells #[.int .i64 ref.w, .int .i64 ref.h, .slice ra rn rc] 25 (0, 0))
 b2 : IB wx (B + 1 + 1) 32 m.zs
 gB : g < B
section
variable {w wx wy : World} {base g n c rn rc W H B : Nat} {ra : Option Addr} {ref : Pic} {m : Mac} {Z Z' : List Int}
theorem RG.ex (h : RG w base g n c ra rn rc W H ref m B Z wx) (e : Ext wx wy) : RG w base g n c ra rn rc W H ref m B Z wy :=
 ⟨grown_ext h.gr e, owns_ext h.own e, e.blk h.b0, e.blk h.b1, h.b2.ext e, h.gB⟩
theorem RG.drew (h : RG w base g n c ra rn rc W H ref m B Z wx) : RG w base g n c ra rn rc W H ref m B Z wx.drew := h.ex (Ext.drewN _ 1)
theorem RG.put (h : RG w base g n c ra rn rc W H ref m B Z wx) (gr : wx.grownBy wy (some g)) (own : wy.ownsRow base 3 1 (.slice (some ⟨g, 0, none⟩) n c) n (Z'.map (Value.int .i64))) : RG w base g n c ra rn rc W H ref m B Z' wy := by
 have := h.gB
 exact ⟨grownBy_trans h.gr gr, own, blk_gr h.b0 gr (by simp; omega), blk_gr h.b1 gr (by simp; omega), h.b2.gr gr (by simp; omega), h.gB⟩
theorem RG.loc {b' : Nat} (h : RG w base g n c ra rn rc W H ref m B Z wx) (gr : wx.grownBy wy (some b')) (hb : B + 1 + 1 < b') (hw : w.heap.size ≤ B) : RG w base g n c ra rn rc W H ref m B Z wy := by
 have := h.gB
 refine ⟨⟨gr.os.trans h.gr.os, gr.tape.trans h.gr.tape, gr.output.trans h.gr.output, Nat.le_trans h.gr.size gr.size, fun k hk hne => (gr.block k (Nat.lt_of_lt_of_le hk h.gr.size) (by simp; omega)).trans (h.gr.block k hk hne)⟩, h.own.kept gr (.inr (by simp [Value.ownBlock]; omega)), blk_gr h.b0 gr (by simp; omega), blk_gr h.b1 gr (by simp; omega), h.b2.gr gr (by simp; omega), h.gB⟩
end
end Go.Proofs.YtbnhaegidfbgbaaGreatDoor
