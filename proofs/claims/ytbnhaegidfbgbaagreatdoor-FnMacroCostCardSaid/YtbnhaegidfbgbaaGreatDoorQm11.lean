/- Tests on pictures: both sides. | MacroValid: the program's. | MacroValid: the program's answer. -/
import Derived.Test.YtbnhaegidfbgbaaGreatDoorQm10
set_option linter.unusedVariables false
set_option linter.unusedSimpArgs false
namespace Go.Proofs.YtbnhaegidfbgbaaGreatDoor
open Go.RowKit
set_option maxHeartbeats 1000000
set_option maxRecDepth 100000 in
theorem alike_any (p s : Pic) (a b : Option Addr) (c d n m : Nat) (w : World) (hn : n = p.px.length) (hm : m = s.px.length) (nc : n ≤ 9223372036854775807) (mc : m ≤ 9223372036854775807) (r : Sl w a n (p.px.map (Value.int .i64))) (q : Sl w b m (s.px.map (Value.int .i64))) :
 Calls Tryz.prog 38 #[.agg #[.int .i64 p.w, .int .i64 p.h, .slice a n c], .agg #[.int .i64 s.w, .int .i64 s.h, .slice b m d]] w fun e w' => e = .returned (.bool (decide ((p.valid) ∧ (s.valid) ∧ (p.w = s.w) ∧ (p.h = s.h)))) ∧ Ext w w' := by
 obtain ⟨B, hB⟩ : ∃ B, B = decide ((p.valid) ∧ (s.valid) ∧ (p.w = s.w) ∧ (p.h = s.h)) := ⟨_, rfl⟩
 rw [← hB]
 have HB := Lib.hid hB
 clear hB
 have HN := Lib.hid hn
 have HM := Lib.hid hm
 clear hn hm
 have a0_1 := Ext.alloc (w.alloc (.cells #[.int .i64 p.w, .int .i64 p.h, .slice a n c] 25)) (.cells #[.int .i64 s.w, .int .i64 s.h, .slice b m d] 25)
 have X0_0 := a0_1.blk (blk_new w (.cells #[.int .i64 p.w, .int .i64 p.h, .slice a n c] 25))
 have X1_0 := blk_new (w.alloc (.cells #[.int .i64 p.w, .int .i64 p.h, .slice a n c] 25)) (.cells #[.int .i64 s.w, .int .i64 s.h, .slice b m d] 25)
 have E_0 := (Ext.alloc w (.cells #[.int .i64 p.w, .int .i64 p.h, .slice a n c] 25)).trans (Ext.alloc (w.alloc (.cells #[.int .i64 p.w, .int .i64 p.h, .slice a n c] 25)) (.cells #[.int .i64 s.w, .int .i64 s.h, .slice b m d] 25))
 simp only [World.size_alloc] at X1_0
 clear a0_1
 obtain ⟨-, k0_0, k0_1, k0_2, -⟩ := bx3 X0_0
 obtain ⟨-, k1_0, k1_1, k1_2, -⟩ := bx3 X1_0
 go_enter Tryz.func38, Tryz.ntmps38
 obtain ⟨D0, hD0⟩ : ∃ D0, D0 = decide (p.valid) := ⟨_, rfl⟩
 have HD0 := Lib.hid hD0.symm
 clear hD0
 go_wp2_with fail
 refine (impl_PictureValid_any p a c n _ HN.out nc (r.ext E_0)).mono ?_
 rw [show decide (p.valid) = D0 from HD0.out]
 rintro e w_1 ⟨rfl, e_1⟩
 have X0_1 := e_1.blk X0_0
 have X1_1 := e_1.blk X1_0
 have E_1 := E_0.trans e_1
 clear k0_0 k0_1 k0_2 X0_0 k1_0 k1_1 k1_2 X1_0 E_0 e_1
 obtain ⟨-, k0_0, k0_1, k0_2, -⟩ := bx3 X0_1
 obtain ⟨-, k1_0, k1_1, k1_2, -⟩ := bx3 X1_1
 by_cases h0 : p.valid
 rotate_left
 ·have H0 := Lib.hid (show ¬ (p.valid) by first | exact h0 | omega)
  obtain rfl : D0 = false := by rw [← HD0.out]; exact decide_eq_false h0
  clear h0
  go_wp2
  go_ret
  exact ⟨by rw [HB.out, (decide_eq_false fun hh => by have h9 := H0.out; have h8 := hh.1; first | exact h9 h8 | omega)]; (first | done | rfl), E_1⟩
 obtain rfl : D0 = true := by rw [← HD0.out]; exact decide_eq_true h0
 have H0 := Lib.hid h0
 clear h0
 obtain ⟨D1, hD1⟩ : ∃ D1, D1 = decide (s.valid) := ⟨_, rfl⟩
 have HD1 := Lib.hid hD1.symm
 clear hD1
 go_wp2_with fail
 refine (impl_PictureValid_any s b d m _ HM.out mc (q.ext E_1)).mono ?_
 rw [show decide (s.valid) = D1 from HD1.out]
 rintro e w_2 ⟨rfl, e_2⟩
 have X0_2 := e_2.blk X0_1
 have X1_2 := e_2.blk X1_1
 have E_2 := E_1.trans e_2
 clear k0_0 k0_1 k0_2 X0_1 k1_0 k1_1 k1_2 X1_1 E_1 e_2
 obtain ⟨-, k0_0, k0_1, k0_2, -⟩ := bx3 X0_2
 obtain ⟨-, k1_0, k1_1, k1_2, -⟩ := bx3 X1_2
 by_cases h1 : s.valid
 rotate_left
 ·have H1 := Lib.hid (show ¬ (s.valid) by first | exact h1 | omega)
  obtain rfl : D1 = false := by rw [← HD1.out]; exact decide_eq_false h1
  clear h1
  go_wp2
  go_ret
  exact ⟨by rw [HB.out, (decide_eq_false fun hh => by have h9 := H1.out; have h8 := hh.2.1; first | exact h9 h8 | omega)]; (first | done | rfl), E_2⟩
 obtain rfl : D1 = true := by rw [← HD1.out]; exact decide_eq_true h1
 have H1 := Lib.hid h1
 clear h1
 by_cases h2 : p.w = s.w
 rotate_left
 ·have H2 := Lib.hid (show ¬ (p.w = s.w) by first | exact h2 | omega)
  have dw : (p.w == s.w) = false := by simpa using h2
  clear h2
  go_wp2
  go_ret
  exact ⟨by rw [HB.out, (decide_eq_false fun hh => by have h9 := H2.out; have h8 := hh.2.2.1; first | exact h9 h8 | omega)]; (first | done | rfl), E_2⟩
 have H2 := Lib.hid h2
 have dw : (p.w == s.w) = true := by simpa using h2
 clear h2
 by_cases h3 : p.h = s.h
 rotate_left
 ·have H3 := Lib.hid (show ¬ (p.h = s.h) by first | exact h3 | omega)
  have dh : (p.h == s.h) = false := by simpa using h3
  clear h3
  go_wp2
  go_ret
  exact ⟨by rw [HB.out, (decide_eq_false fun hh => by have h9 := H3.out; have h8 := hh.2.2.2; first | exact h9 h8 | omega)]; (first | done | rfl), E_2⟩
 have H3 := Lib.hid h3
 have dh : (p.h == s.h) = true := by simpa using h3
 clear h3
 go_wp2
 go_ret
 exact ⟨by rw [HB.out, (decide_eq_true ⟨H0.out, H1.out, H2.out, H3.out⟩)]; (first | done | rfl), E_2⟩
set_option maxRecDepth 100000 in
theorem l1Same_any (p s : Pic) (a b : Option Addr) (c d n m : Nat) (w : World) (hn : n = p.px.length) (hm : m = s.px.length) (nc : n ≤ 9223372036854775807) (mc : m ≤ 9223372036854775807) (r : Sl w a n (p.px.map (Value.int .i64))) (q : Sl w b m (s.px.map (Value.int .i64))) :
 Calls Tryz.prog 41 #[.agg #[.int .i64 p.w, .int .i64 p.h, .slice a n c], .agg #[.int .i64 s.w, .int .i64 s.h, .slice b m d]] w fun e w' => e = .returned (.bool (decide ((p.valid) ∧ (s.valid) ∧ (p.w = s.w) ∧ (p.h = s.h)))) ∧ Ext w w' := by
 obtain ⟨B, hB⟩ : ∃ B, B = decide ((p.valid) ∧ (s.valid) ∧ (p.w = s.w) ∧ (p.h = s.h)) := ⟨_, rfl⟩
 rw [← hB]
 have HB := Lib.hid hB
 clear hB
 have HN := Lib.hid hn
 have HM := Lib.hid hm
 clear hn hm
 have a0_1 := Ext.alloc (w.alloc (.cells #[.int .i64 p.w, .int .i64 p.h, .slice a n c] 25)) (.cells #[.int .i64 s.w, .int .i64 s.h, .slice b m d] 25)
 have X0_0 := a0_1.blk (blk_new w (.cells #[.int .i64 p.w, .int .i64 p.h, .slice a n c] 25))
 have X1_0 := blk_new (w.alloc (.cells #[.int .i64 p.w, .int .i64 p.h, .slice a n c] 25)) (.cells #[.int .i64 s.w, .int .i64 s.h, .slice b m d] 25)
 have E_0 := (Ext.alloc w (.cells #[.int .i64 p.w, .int .i64 p.h, .slice a n c] 25)).trans (Ext.alloc (w.alloc (.cells #[.int .i64 p.w, .int .i64 p.h, .slice a n c] 25)) (.cells #[.int .i64 s.w, .int .i64 s.h, .slice b m d] 25))
 simp only [World.size_alloc] at X1_0
 clear a0_1
 obtain ⟨-, k0_0, k0_1, k0_2, -⟩ := bx3 X0_0
 obtain ⟨-, k1_0, k1_1, k1_2, -⟩ := bx3 X1_0
 go_enter Tryz.func41, Tryz.ntmps41
 obtain ⟨D0, hD0⟩ : ∃ D0, D0 = decide (p.valid) := ⟨_, rfl⟩
 have HD0 := Lib.hid hD0.symm
 clear hD0
 go_wp2_with fail
 refine (spec_PictureValid_any p a c n _ HN.out nc (r.ext E_0)).mono ?_
 rw [show decide (p.valid) = D0 from HD0.out]
 rintro e w_1 ⟨rfl, e_1⟩
 have X0_1 := e_1.blk X0_0
 have X1_1 := e_1.blk X1_0
 have E_1 := E_0.trans e_1
 clear k0_0 k0_1 k0_2 X0_0 k1_0 k1_1 k1_2 X1_0 E_0 e_1
 obtain ⟨-, k0_0, k0_1, k0_2, -⟩ := bx3 X0_1
 obtain ⟨-, k1_0, k1_1, k1_2, -⟩ := bx3 X1_1
 by_cases h0 : p.valid
 rotate_left
 ·have H0 := Lib.hid (show ¬ (p.valid) by first | exact h0 | omega)
  obtain rfl : D0 = false := by rw [← HD0.out]; exact decide_eq_false h0
  clear h0
  go_wp2
  go_ret
  exact ⟨by rw [HB.out, (decide_eq_false fun hh => by have h9 := H0.out; have h8 := hh.1; first | exact h9 h8 | omega)]; (first | done | rfl), E_1⟩
 obtain rfl : D0 = true := by rw [← HD0.out]; exact decide_eq_true h0
 have H0 := Lib.hid h0
 clear h0
 obtain ⟨D1, hD1⟩ : ∃ D1, D1 = decide (s.valid) := ⟨_, rfl⟩
 have HD1 := Lib.hid hD1.symm
 clear hD1
 go_wp2_with fail
 refine (spec_PictureValid_any s b d m _ HM.out mc (q.ext E_1)).mono ?_
 rw [show decide (s.valid) = D1 from HD1.out]
 rintro e w_2 ⟨rfl, e_2⟩
 have X0_2 := e_2.blk X0_1
 have X1_2 := e_2.blk X1_1
 have E_2 := E_1.trans e_2
 clear k0_0 k0_1 k0_2 X0_1 k1_0 k1_1 k1_2 X1_1 E_1 e_2
 obtain ⟨-, k0_0, k0_1, k0_2, -⟩ := bx3 X0_2
 obtain ⟨-, k1_0, k1_1, k1_2, -⟩ := bx3 X1_2
 by_cases h1 : s.valid
 rotate_left
 ·have H1 := Lib.hid (show ¬ (s.valid) by first | exact h1 | omega)
  obtain rfl : D1 = false := by rw [← HD1.out]; exact decide_eq_false h1
  clear h1
  go_wp2
  go_ret
  exact ⟨by rw [HB.out, (decide_eq_false fun hh => by have h9 := H1.out; have h8 := hh.2.1; first | exact h9 h8 | omega)]; (first | done | rfl), E_2⟩
 obtain rfl : D1 = true := by rw [← HD1.out]; exact decide_eq_true h1
 have H1 := Lib.hid h1
 clear h1
 by_cases h2 : p.w = s.w
 rotate_left
 ·have H2 := Lib.hid (show ¬ (p.w = s.w) by first | exact h2 | omega)
  have dw : (p.w == s.w) = false := by simpa using h2
  clear h2
  go_wp2
  go_ret
  exact ⟨by rw [HB.out, (decide_eq_false fun hh => by have h9 := H2.out; have h8 := hh.2.2.1; first | exact h9 h8 | omega)]; (first | done | rfl), E_2⟩
 have H2 := Lib.hid h2
 have dw : (p.w == s.w) = true := by simpa using h2
 clear h2
 by_cases h3 : p.h = s.h
 rotate_left
 ·have H3 := Lib.hid (show ¬ (p.h = s.h) by first | exact h3 | omega)
  have dh : (p.h == s.h) = false := by simpa using h3
  clear h3
  go_wp2
  go_ret
  exact ⟨by rw [HB.out, (decide_eq_false fun hh => by have h9 := H3.out; have h8 := hh.2.2.2; first | exact h9 h8 | omega)]; (first | done | rfl), E_2⟩
 have H3 := Lib.hid h3
 have dh : (p.h == s.h) = true := by simpa using h3
 clear h3
 go_wp2
 go_ret
 exact ⟨by rw [HB.out, (decide_eq_true ⟨H0.out, H1.out, H2.out, H3.out⟩)]; (first | done | rfl), E_2⟩
set_option maxRecDepth 100000 in
theorem begins_any (p : Pic) (x y : Int) (a : Option Addr) (c n : Nat) (w : World) :
 Calls Tryz.prog 49 #[.agg #[.int .i64 p.w, .int .i64 p.h, .slice a n c], .int .i64 x, .int .i64 y] w fun e w' => e = .returned (.bool (decide ((0 ≤ x) ∧ (x < p.w) ∧ (x % 8 = 0) ∧ (0 ≤ y) ∧ (y < p.h) ∧ (y % 8 = 0)))) ∧ Ext w w' := by
 obtain ⟨B, hB⟩ : ∃ B, B = decide ((0 ≤ x) ∧ (x < p.w) ∧ (x % 8 = 0) ∧ (0 ≤ y) ∧ (y < p.h) ∧ (y % 8 = 0)) := ⟨_, rfl⟩
 rw [← hB]
 have HB := Lib.hid hB
 clear hB
 have X0_0 := blk_new w (.cells #[.int .i64 p.w, .int .i64 p.h, .slice a n c] 25)
 have E_0 := Ext.alloc w (.cells #[.int .i64 p.w, .int .i64 p.h, .slice a n c] 25)
 obtain ⟨-, k0_0, k0_1, k0_2, -⟩ := bx3 X0_0
 go_enter Tryz.func49, Tryz.ntmps49
 by_cases h0 : 0 ≤ x
 rotate_left
 ·have H0 := Lib.hid (show ¬ (0 ≤ x) by first | exact h0 | omega)
  have f0 : decide (0 ≤ x) = false := by simpa using h0
  go_wp2
  go_ret
  exact ⟨by rw [HB.out, (decide_eq_false fun hh => by have h9 := H0.out; have h8 := hh.1; first | exact h9 h8 | omega)]; (first | done | rfl), E_0⟩
 have H0 := Lib.hid h0
 have f0 : decide (0 ≤ x) = true := by simpa using h0
 by_cases h1 : x < p.w
 rotate_left
 ·have H1 := Lib.hid (show ¬ (x < p.w) by first | exact h1 | omega)
  have f1 : decide (x < p.w) = false := by simpa using h1
  clear h1
  go_wp2
  go_ret
  exact ⟨by rw [HB.out, (decide_eq_false fun hh => by have h9 := H1.out; have h8 := hh.2.1; first | exact h9 h8 | omega)]; (first | done | rfl), E_0⟩
 have H1 := Lib.hid h1
 have f1 : decide (x < p.w) = true := by simpa using h1
 clear h1
 by_cases h2 : x % 8 = 0
 rotate_left
 ·have H2 := Lib.hid (show ¬ (x % 8 = 0) by first | exact h2 | omega)
  have f2 : (x % 8 == 0) = false := by simpa using h2
  clear h2
  go_wp2
  go_ret
  exact ⟨by rw [HB.out, (decide_eq_false fun hh => by have h9 := H2.out; have h8 := hh.2.2.1; first | exact h9 h8 | omega)]; (first | done | rfl), E_0⟩
 have H2 := Lib.hid h2
 have f2 : (x % 8 == 0) = true := by simpa using h2
 clear h2
 by_cases h3 : 0 ≤ y
 rotate_left
 ·have H3 := Lib.hid (show ¬ (0 ≤ y) by first | exact h3 | omega)
  have f3 : decide (0 ≤ y) = false := by simpa using h3
  go_wp2
  go_ret
  exact ⟨by rw [HB.out, (decide_eq_false fun hh => by have h9 := H3.out; have h8 := hh.2.2.2.1; first | exact h9 h8 | omega)]; (first | done | rfl), E_0⟩
 have H3 := Lib.hid h3
 have f3 : decide (0 ≤ y) = true := by simpa using h3
 by_cases h4 : y < p.h
 rotate_left
 ·have H4 := Lib.hid (show ¬ (y < p.h) by first | exact h4 | omega)
  have f4 : decide (y < p.h) = false := by simpa using h4
  clear h4
  go_wp2
  go_ret
  exact ⟨by rw [HB.out, (decide_eq_false fun hh => by have h9 := H4.out; have h8 := hh.2.2.2.2.1; first | exact h9 h8 | omega)]; (first | done | rfl), E_0⟩
 have H4 := Lib.hid h4
 have f4 : decide (y < p.h) = true := by simpa using h4
 clear h4
 by_cases h5 : y % 8 = 0
 rotate_left
 ·have H5 := Lib.hid (show ¬ (y % 8 = 0) by first | exact h5 | omega)
  have f5 : (y % 8 == 0) = false := by simpa using h5
  clear h5
  go_wp2
  go_ret
  exact ⟨by rw [HB.out, (decide_eq_false fun hh => by have h9 := H5.out; have h8 := hh.2.2.2.2.2; first | exact h9 h8 | omega)]; (first | done | rfl), E_0⟩
 have H5 := Lib.hid h5
 have f5 : (y % 8 == 0) = true := by simpa using h5
 clear h5
 go_wp2
 go_ret
 exact ⟨by rw [HB.out, (decide_eq_true ⟨H0.out, H1.out, H2.out, H3.out, H4.out, H5.out⟩)]; (first | done | rfl), E_0⟩
set_option maxRecDepth 100000 in
theorem l7Place_any (p : Pic) (x y : Int) (a : Option Addr) (c n : Nat) (w : World) (hn : n = p.px.length) (nc : n ≤ 9223372036854775807) (r : Sl w a n (p.px.map (Value.int .i64))) :
 Calls Tryz.prog 55 #[.agg #[.int .i64 p.w, .int .i64 p.h, .slice a n c], .int .i64 x, .int .i64 y] w fun e w' => e = .returned (.bool (decide ((p.valid) ∧ (0 ≤ x ∧ x ≤ p.w - 1) ∧ (0 ≤ y ∧ y ≤ p.h - 1) ∧ (x % 8 = 0) ∧ (y % 8 = 0)))) ∧ Ext w w' := by
 obtain ⟨B, hB⟩ : ∃ B, B = decide ((p.valid) ∧ (0 ≤ x ∧ x ≤ p.w - 1) ∧ (0 ≤ y ∧ y ≤ p.h - 1) ∧ (x % 8 = 0) ∧ (y % 8 = 0)) := ⟨_, rfl⟩
 rw [← hB]
 have HB := Lib.hid hB
 clear hB
 have HN := Lib.hid hn
 clear hn
 have X0_0 := blk_new w (.cells #[.int .i64 p.w, .int .i64 p.h, .slice a n c] 25)
 have E_0 := Ext.alloc w (.cells #[.int .i64 p.w, .int .i64 p.h, .slice a n c] 25)
 obtain ⟨-, k0_0, k0_1, k0_2, -⟩ := bx3 X0_0
 go_enter Tryz.func55, Tryz.ntmps55
 obtain ⟨D0, hD0⟩ : ∃ D0, D0 = decide (p.valid) := ⟨_, rfl⟩
 have HD0 := Lib.hid hD0.symm
 clear hD0
 go_wp2_with fail
 refine (spec_PictureValid_any p a c n _ HN.out nc (r.ext E_0)).mono ?_
 rw [show decide (p.valid) = D0 from HD0.out]
 rintro e w_1 ⟨rfl, e_1⟩
 have X0_1 := e_1.blk X0_0
 have E_1 := E_0.trans e_1
 clear k0_0 k0_1 k0_2 X0_0 E_0 e_1
 obtain ⟨-, k0_0, k0_1, k0_2, -⟩ := bx3 X0_1
 by_cases h0 : p.valid
 rotate_left
 ·have H0 := Lib.hid (show ¬ (p.valid) by first | exact h0 | omega)
  obtain rfl : D0 = false := by rw [← HD0.out]; exact decide_eq_false h0
  clear h0
  go_wp2
  go_ret
  exact ⟨by rw [HB.out, (decide_eq_false fun hh => by have h9 := H0.out; have h8 := hh.1; first | exact h9 h8 | omega)]; (first | done | rfl), E_1⟩
 obtain rfl : D0 = true := by rw [← HD0.out]; exact decide_eq_true h0
 have H0 := Lib.hid h0
 have hs1 := h0.1.1
 have hs2 := h0.2.1.1
 have hs3 := h0.1.2.1
 have hs4 := h0.2.1.2.1
 clear h0
 by_cases h1 : 0 ≤ x ∧ x ≤ p.w - 1
 rotate_left
 ·have H1 := Lib.hid (show ¬ (0 ≤ x ∧ x ≤ p.w - 1) by first | exact h1 | omega)
  go_wp2_with fail
  refine (l1In_no _ _ _ _ (by omega)).mono ?_
  rintro e w_s1 ⟨rfl, rfl⟩
  go_wp2
  go_ret
  exact ⟨by rw [HB.out, (decide_eq_false fun hh => by have h9 := H1.out; have h8 := hh.2.1; first | exact h9 h8 | omega)]; (first | done | rfl), E_1⟩
 have H1 := Lib.hid h1
 go_wp2_with fail
 refine (l1In_yes _ _ _ _ h1.1 h1.2).mono ?_
 rintro e w_s1 ⟨rfl, rfl⟩
 by_cases h2 : 0 ≤ y ∧ y ≤ p.h - 1
 rotate_left
 ·have H2 := Lib.hid (show ¬ (0 ≤ y ∧ y ≤ p.h - 1) by first | exact h2 | omega)
  go_wp2_with fail
  refine (l1In_no _ _ _ _ (by omega)).mono ?_
  rintro e w_s2 ⟨rfl, rfl⟩
  go_wp2
  go_ret
  exact ⟨by rw [HB.out, (decide_eq_false fun hh => by have h9 := H2.out; have h8 := hh.2.2.1; first | exact h9 h8 | omega)]; (first | done | rfl), E_1⟩
 have H2 := Lib.hid h2
 go_wp2_with fail
 refine (l1In_yes _ _ _ _ h2.1 h2.2).mono ?_
 rintro e w_s2 ⟨rfl, rfl⟩
 by_cases h3 : x % 8 = 0
 rotate_left
 ·have H3 := Lib.hid (show ¬ (x % 8 = 0) by first | exact h3 | omega)
  have f2 : (x % 8 == 0) = false := by simpa using h3
  clear h3
  go_wp2
  go_ret
  exact ⟨by rw [HB.out, (decide_eq_false fun hh => by have h9 := H3.out; have h8 := hh.2.2.2.1; first | exact h9 h8 | omega)]; (first | done | rfl), E_1⟩
 have H3 := Lib.hid h3
 have f2 : (x % 8 == 0) = true := by simpa using h3
 clear h3
 by_cases h4 : y % 8 = 0
 rotate_left
 ·have H4 := Lib.hid (show ¬ (y % 8 = 0) by first | exact h4 | omega)
  have f5 : (y % 8 == 0) = false := by simpa using h4
  clear h4
  go_wp2
  go_ret
  exact ⟨by rw [HB.out, (decide_eq_false fun hh => by have h9 := H4.out; have h8 := hh.2.2.2.2; first | exact h9 h8 | omega)]; (first | done | rfl), E_1⟩
 have H4 := Lib.hid h4
 have f5 : (y % 8 == 0) = true := by simpa using h4
 clear h4
 go_wp2
 go_ret
 exact ⟨by rw [HB.out, (decide_eq_true ⟨H0.out, H1.out, H2.out, H3.out, H4.out⟩)]; (first | done | rfl), E_1⟩
theorem partAt_any (k : Nat) (w : World) (hk : k < 4) :
 Calls Tryz.prog 68 #[.int .i64 (k : Nat)] w fun e w' => e = .returned (.tuple #[.int .i64 ((k % 2 * 4 : Nat) : Int), .int .i64 ((k / 2 * 4 : Nat) : Int)]) ∧ w = w' := by
 go_enter Tryz.func68, Tryz.ntmps68
 go_wp2
 go_ret2
 exact ⟨by congr 1, rfl⟩
end Go.Proofs.YtbnhaegidfbgbaaGreatDoor
namespace Go.Proofs.YtbnhaegidfbgbaaGreatDoor
open Go.RowKit
set_option maxHeartbeats 400000
set_option maxRecDepth 100000 in
theorem impl_kindOf_0 (m : Mac) (w : World) (h : m.ok) (hk : m.kind = 0) :
 Calls Tryz.prog 102 #[.agg (ic m.zs)] w fun e w' => e = .returned (.iface 128 (.agg (ic m.zs))) ∧ Ext w w' := by
 have H := IB.new w 32 m.zs
 have h0 := H.cell (i := 0) (by rw [Mac.zs_len h]; omega)
 rw [Mac.zs_kind, hk] at h0
 have Hl := Lib.hid (Mac.zs_len h)
 clear hk
 go_enter Tryz.func102, Tryz.ntmps102
 go_wp2_with (refine wpList_iload 32 _ rfl rfl H 0 71 rfl _ Tryz.underlying32 rfl size_Macro (by rw [Hl.out]; omega) _ (by rw [sub_all _ _ Hl.out]) ?_)
 go_ret
 exact ⟨rfl, Ext.alloc _ _⟩
set_option maxRecDepth 100000 in
theorem impl_kindOf_1 (m : Mac) (w : World) (h : m.ok) (hk : m.kind = 1) :
 Calls Tryz.prog 102 #[.agg (ic m.zs)] w fun e w' => e = .returned (.iface 129 (.agg (ic m.zs))) ∧ Ext w w' := by
 have H := IB.new w 32 m.zs
 have h0 := H.cell (i := 0) (by rw [Mac.zs_len h]; omega)
 rw [Mac.zs_kind, hk] at h0
 have Hl := Lib.hid (Mac.zs_len h)
 clear hk
 go_enter Tryz.func102, Tryz.ntmps102
 go_wp2_with (refine wpList_iload 32 _ rfl rfl H 0 71 rfl _ Tryz.underlying32 rfl size_Macro (by rw [Hl.out]; omega) _ (by rw [sub_all _ _ Hl.out]) ?_)
 go_ret
 exact ⟨rfl, Ext.alloc _ _⟩
set_option maxRecDepth 100000 in
theorem impl_kindOf_2 (m : Mac) (w : World) (h : m.ok) (hk : m.kind = 2) :
 Calls Tryz.prog 102 #[.agg (ic m.zs)] w fun e w' => e = .returned (.iface 158 (.agg (ic m.zs))) ∧ Ext w w' := by
 have H := IB.new w 32 m.zs
 have h0 := H.cell (i := 0) (by rw [Mac.zs_len h]; omega)
 rw [Mac.zs_kind, hk] at h0
 have Hl := Lib.hid (Mac.zs_len h)
 clear hk
 go_enter Tryz.func102, Tryz.ntmps102
 go_wp2_with (refine wpList_iload 32 _ rfl rfl H 0 71 rfl _ Tryz.underlying32 rfl size_Macro (by rw [Hl.out]; omega) _ (by rw [sub_all _ _ Hl.out]) ?_)
 go_ret
 exact ⟨rfl, Ext.alloc _ _⟩
set_option maxRecDepth 100000 in
theorem impl_kindOf_no (m : Mac) (w : World) (h : m.ok) (hk : m.kind < 0 ∨ 2 < m.kind) :
 Calls Tryz.prog 102 #[.agg (ic m.zs)] w fun e w' => e = .returned .nilIface ∧ Ext w w' := by
 have H := IB.new w 32 m.zs
 have h0 := H.cell (i := 0) (by rw [Mac.zs_len h]; omega)
 rw [Mac.zs_kind] at h0
 have d0 : (m.kind == 0) = false := by simp; omega
 have d1 : (m.kind == 1) = false := by simp; omega
 have d2 : (m.kind == 2) = false := by simp; omega
 clear hk
 go_enter Tryz.func102, Tryz.ntmps102
 go_wp2
 go_ret
 exact ⟨rfl, Ext.alloc _ _⟩
set_option maxRecDepth 100000 in
theorem skipped_fits_any (m : Mac) (w : World) (h : m.ok) (r : Bool) (hr : decide (m.x = 0 ∧ m.y = 0 ∧ m.modes = zero4 ∧ m.lv = zero64) = r) :
 Calls Tryz.prog 202 #[.agg (ic m.zs)] w fun e w' => e = .returned (.bool r) ∧ Ext w w' := by
 have H := IB.new w 128 m.zs
 have Hl := Lib.hid (Mac.zs_len h)
 have Hm := Lib.hid h
 clear h
 by_cases h1 : m.x = 0 ∧ m.y = 0
 ·have Hv := Lib.hid (vec_eq m.x m.y true (by simpa using h1))
  by_cases h2 : m.modes = zero4
  ·have Hd2 := Lib.hid (show decide (m.modes = List.replicate 4 0) = true by simpa [zero4] using h2)
   by_cases h3 : m.lv = zero64
   ·have Hd3 := Lib.hid (show decide (m.lv = List.replicate 64 0) = true by simpa [zero64] using h3)
    have hr2 : r = true := by rw [← hr]; simp [h1, h2, h3]
    subst hr2
    clear hr h1 h2 h3
    go_enter Tryz.func202, Tryz.ntmps202
    go_wp2_with (first | (refine wpList_iload 27 _ rfl rfl H 1 2 rfl _ Tryz.underlying27 rfl size_Vector (by rw [Hl.out]; omega) _ Mac.zs_mv ?_) | (refine wpList_iload 28 _ rfl rfl H 3 4 rfl _ Tryz.underlying28 rfl size_A4 (by rw [Hl.out]; omega) _ (by rw [Mac.zs_modes Hm.out]) ?_) | (refine wpList_iload 30 _ rfl rfl H 7 64 rfl _ Tryz.underlying30 rfl size_A16A4 (by rw [Hl.out]; omega) _ (by rw [Mac.zs_lv Hm.out]) ?_) | (refine wpList_izero 28 rfl rfl Tryz.underlying28 size_int 4 zero_A4 ?_) | (refine wpList_izero 30 rfl rfl Tryz.underlying30 size_A16 64 zero_A16A4 ?_) | (refine wpList_veql 27 _ _ _ rfl rfl _ _ rfl rfl _ Hv.out guard_Vector ?_) | (refine wpList_ieql 28 _ _ _ rfl rfl _ _ rfl rfl _ _ rfl rfl Tryz.underlying28 size_int eqE_int Hm.out.modes (by simp) guard_A4 _ Hd2.out ?_) | (refine wpList_ieql 30 _ _ _ rfl rfl _ _ rfl rfl _ _ rfl rfl Tryz.underlying30 size_A16 eqE_A16 Hm.out.lv (by simp) guard_A16A4 _ Hd3.out ?_))
    go_ret
    exact ⟨rfl, Ext.alloc _ _⟩
   ·have Hd3 := Lib.hid (show decide (m.lv = List.replicate 64 0) = false by simpa [zero64] using h3)
    have hr2 : r = false := by rw [← hr]; simp [h3]
    subst hr2
    clear hr h1 h2 h3
    go_enter Tryz.func202, Tryz.ntmps202
    go_wp2_with (first | (refine wpList_iload 27 _ rfl rfl H 1 2 rfl _ Tryz.underlying27 rfl size_Vector (by rw [Hl.out]; omega) _ Mac.zs_mv ?_) | (refine wpList_iload 28 _ rfl rfl H 3 4 rfl _ Tryz.underlying28 rfl size_A4 (by rw [Hl.out]; omega) _ (by rw [Mac.zs_modes Hm.out]) ?_) | (refine wpList_iload 30 _ rfl rfl H 7 64 rfl _ Tryz.underlying30 rfl size_A16A4 (by rw [Hl.out]; omega) _ (by rw [Mac.zs_lv Hm.out]) ?_) | (refine wpList_izero 28 rfl rfl Tryz.underlying28 size_int 4 zero_A4 ?_) | (refine wpList_izero 30 rfl rfl Tryz.underlying30 size_A16 64 zero_A16A4 ?_) | (refine wpList_veql 27 _ _ _ rfl rfl _ _ rfl rfl _ Hv.out guard_Vector ?_) | (refine wpList_ieql 28 _ _ _ rfl rfl _ _ rfl rfl _ _ rfl rfl Tryz.underlying28 size_int eqE_int Hm.out.modes (by simp) guard_A4 _ Hd2.out ?_) | (refine wpList_ieql 30 _ _ _ rfl rfl _ _ rfl rfl _ _ rfl rfl Tryz.underlying30 size_A16 eqE_A16 Hm.out.lv (by simp) guard_A16A4 _ Hd3.out ?_))
    go_ret
    exact ⟨rfl, Ext.alloc _ _⟩
  ·have Hd2 := Lib.hid (show decide (m.modes = List.replicate 4 0) = false by simpa [zero4] using h2)
   have hr2 : r = false := by rw [← hr]; simp [h2]
   subst hr2
   clear hr h1 h2
   go_enter Tryz.func202, Tryz.ntmps202
   go_wp2_with (first | (refine wpList_iload 27 _ rfl rfl H 1 2 rfl _ Tryz.underlying27 rfl size_Vector (by rw [Hl.out]; omega) _ Mac.zs_mv ?_) | (refine wpList_iload 28 _ rfl rfl H 3 4 rfl _ Tryz.underlying28 rfl size_A4 (by rw [Hl.out]; omega) _ (by rw [Mac.zs_modes Hm.out]) ?_) | (refine wpList_iload 30 _ rfl rfl H 7 64 rfl _ Tryz.underlying30 rfl size_A16A4 (by rw [Hl.out]; omega) _ (by rw [Mac.zs_lv Hm.out]) ?_) | (refine wpList_izero 28 rfl rfl Tryz.underlying28 size_int 4 zero_A4 ?_) | (refine wpList_izero 30 rfl rfl Tryz.underlying30 size_A16 64 zero_A16A4 ?_) | (refine wpList_veql 27 _ _ _ rfl rfl _ _ rfl rfl _ Hv.out guard_Vector ?_) | (refine wpList_ieql 28 _ _ _ rfl rfl _ _ rfl rfl _ _ rfl rfl Tryz.underlying28 size_int eqE_int Hm.out.modes (by simp) guard_A4 _ Hd2.out ?_))
   go_ret
   exact ⟨rfl, Ext.alloc _ _⟩
 ·have Hv := Lib.hid (vec_eq m.x m.y false (by simpa using h1))
  have hr2 : r = false := by rw [← hr]; simp; intro a b; exact absurd ⟨a, b⟩ h1
  subst hr2
  clear hr h1
  go_enter Tryz.func202, Tryz.ntmps202
  go_wp2_with (first | (refine wpList_iload 27 _ rfl rfl H 1 2 rfl _ Tryz.underlying27 rfl size_Vector (by rw [Hl.out]; omega) _ Mac.zs_mv ?_) | (refine wpList_veql 27 _ _ _ rfl rfl _ _ rfl rfl _ Hv.out guard_Vector ?_))
  go_ret
  exact ⟨rfl, Ext.alloc _ _⟩
set_option maxRecDepth 100000 in
theorem inter_fits_any (m : Mac) (w : World) (h : m.ok) (r : Bool) (hr : decide (m.modes = zero4) = r) :
 Calls Tryz.prog 203 #[.agg (ic m.zs)] w fun e w' => e = .returned (.bool r) ∧ Ext w w' := by
 have H := IB.new w 129 m.zs
 have Hl := Lib.hid (Mac.zs_len h)
 have Hm := Lib.hid h
 have Hd2 := Lib.hid (show decide (m.modes = List.replicate 4 0) = r from hr)
 clear h hr
 go_enter Tryz.func203, Tryz.ntmps203
 go_wp2_with (first | (refine wpList_iload 28 _ rfl rfl H 3 4 rfl _ Tryz.underlying28 rfl size_A4 (by rw [Hl.out]; omega) _ (by rw [Mac.zs_modes Hm.out]) ?_) | (refine wpList_izero 28 rfl rfl Tryz.underlying28 size_int 4 zero_A4 ?_) | (refine wpList_ieql 28 _ _ _ rfl rfl _ _ rfl rfl _ _ rfl rfl Tryz.underlying28 size_int eqE_int Hm.out.modes (by simp) guard_A4 _ Hd2.out ?_))
 go_ret
 exact ⟨rfl, Ext.alloc _ _⟩
set_option maxRecDepth 100000 in
theorem intra_fits_yes (m : Mac) (w : World) (h : m.ok) (hj : ∀ j, j < 4 → 0 ≤ nth m.modes j ∧ nth m.modes j ≤ 4) (r : Bool) (hr : decide (m.x = 0 ∧ m.y = 0) = r) :
 Calls Tryz.prog 204 #[.agg (ic m.zs)] w fun e w' => e = .returned (.bool r) ∧ Ext w w' := by
 have H := IB.new w 158 m.zs
 have Hl := Lib.hid (Mac.zs_len h)
 have Hm := Lib.hid h
 have Hv := Lib.hid (vec_eq m.x m.y r hr)
 have Hj := Lib.hid hj
 clear h hr hj
 go_enter Tryz.func204, Tryz.ntmps204
 go_wp2_with (refine wpList_iload 28 _ rfl rfl H 3 4 rfl _ Tryz.underlying28 rfl size_A4 (by rw [Hl.out]; omega) _ (by rw [Mac.zs_modes Hm.out]) ?_)
 go_loopw [7] (fun i wr => ∃ k : Nat, k ≤ 4 ∧ i = .int .i64 k ∧ wr = w.alloc (.cells (ic m.zs) 158)) (fun i _ => 4 - (intOf i).toNat)
 case atStart => exact ⟨0, by omega, rfl, rfl⟩
 case round =>
  obtain ⟨k, hk, rfl, rfl⟩ := hrel
  by_cases hlt : k < 4
  ·obtain ⟨h1, h2⟩ := Hj.out k hlt
   go_wp2_with (refine wpList_iindex _ _ _ rfl rfl m.modes rfl k 4 _ rfl rfl _ Tryz.underlying28 Tryz.underlying3 size_int hlt Hm.out.modes ?_)
   go_roundw
   case rel => exact ⟨k + 1, by omega, by go_num, by first | trivial | rfl⟩
   case measure => simp [intOf]; omega
  ·obtain rfl : k = 4 := by omega
   go_wp2_with (first | (refine wpList_iload 27 _ rfl rfl H 1 2 rfl _ Tryz.underlying27 rfl size_Vector (by rw [Hl.out]; omega) _ Mac.zs_mv ?_) | (refine wpList_veql 27 _ _ _ rfl rfl _ _ rfl rfl _ Hv.out guard_Vector ?_))
   go_ret
   exact ⟨rfl, Ext.alloc _ _⟩
set_option maxRecDepth 100000 in
theorem intra_fits_no (m : Mac) (w : World) (h : m.ok) (hj : ¬ ∀ j, j < 4 → 0 ≤ nth m.modes j ∧ nth m.modes j ≤ 4) :
 Calls Tryz.prog 204 #[.agg (ic m.zs)] w fun e w' => e = .returned (.bool false) ∧ Ext w w' := by
 have H := IB.new w 158 m.zs
 have Hl := Lib.hid (Mac.zs_len h)
 have Hm := Lib.hid h
 have Hj := Lib.hid hj
 clear h hj
 go_enter Tryz.func204, Tryz.ntmps204
 go_wp2_with (refine wpList_iload 28 _ rfl rfl H 3 4 rfl _ Tryz.underlying28 rfl size_A4 (by rw [Hl.out]; omega) _ (by rw [Mac.zs_modes Hm.out]) ?_)
 go_loopw [7] (fun i wr => ∃ k : Nat, k ≤ 4 ∧ i = .int .i64 k ∧ wr = w.alloc (.cells (ic m.zs) 158) ∧ Hid (∀ j, j < k → 0 ≤ nth m.modes j ∧ nth m.modes j ≤ 4)) (fun i _ => 4 - (intOf i).toNat)
 case atStart => exact ⟨0, by omega, rfl, rfl, Lib.hid (fun j hj => by omega)⟩
 case round =>
  obtain ⟨k, hk, rfl, rfl, hall⟩ := hrel
  by_cases hlt : k < 4
  ·by_cases h1 : nth m.modes k < 0
   ·go_wp2_with (refine wpList_iindex _ _ _ rfl rfl m.modes rfl k 4 _ rfl rfl _ Tryz.underlying28 Tryz.underlying3 size_int hlt Hm.out.modes ?_)
    go_ret
    exact ⟨rfl, Ext.alloc _ _⟩
   ·have hd1 : decide (nth m.modes k < 0) = false := by simpa using h1
    by_cases h2 : 4 < nth m.modes k
    ·go_wp2_with (refine wpList_iindex _ _ _ rfl rfl m.modes rfl k 4 _ rfl rfl _ Tryz.underlying28 Tryz.underlying3 size_int hlt Hm.out.modes ?_)
     go_ret
     exact ⟨rfl, Ext.alloc _ _⟩
    ·have hd2 : decide (4 < nth m.modes k) = false := by simpa using h2
     have hall2 := Lib.hid (show ∀ j, j < k + 1 → 0 ≤ nth m.modes j ∧ nth m.modes j ≤ 4 from fun j hj => by
      by_cases hjk : j = k
      ·subst hjk; omega
      ·exact hall.out j (by omega))
     go_wp2_with (refine wpList_iindex _ _ _ rfl rfl m.modes rfl k 4 _ rfl rfl _ Tryz.underlying28 Tryz.underlying3 size_int hlt Hm.out.modes ?_)
     go_roundw
     case rel => exact ⟨k + 1, by omega, by go_num, by first | trivial | rfl, hall2⟩
     case measure => simp [intOf]; omega
  ·obtain rfl : k = 4 := by omega
   exact absurd hall.out Hj.out
end Go.Proofs.YtbnhaegidfbgbaaGreatDoor
namespace Go.Proofs.YtbnhaegidfbgbaaGreatDoor
open Go.RowKit
set_option maxHeartbeats 400000
theorem fits_0 (cs : Array Value) (w : World) : (method 308 128 (.agg cs) "loop.example/videocodec/impl.fits").run Tryz.prog w = .ok (202, .agg cs) w := by kernel_rfl
theorem fits_1 (cs : Array Value) (w : World) : (method 308 129 (.agg cs) "loop.example/videocodec/impl.fits").run Tryz.prog w = .ok (203, .agg cs) w := by kernel_rfl
theorem fits_2 (cs : Array Value) (w : World) : (method 308 158 (.agg cs) "loop.example/videocodec/impl.fits").run Tryz.prog w = .ok (204, .agg cs) w := by kernel_rfl
set_option maxRecDepth 100000 in
set_option maxHeartbeats 1000000 in
theorem impl_MacroValid_lv0 (m : Mac) (w : World) (h : m.ok) (hk : m.kind = 0) (hv : vv m.x m.y) (hf : m.modes = zero4 ∧ m.lv = zero64) (hxy : m.x = 0 ∧ m.y = 0) (r : Bool) (hno : ∀ k, k < 4 → inB 4080 (sub m.lv (k * 16) 16) = false → r = false) (hyes : (∀ k, k < 4 → inB 4080 (sub m.lv (k * 16) 16) = true) → r = true) :
 Calls Tryz.prog 52 #[.agg (ic m.zs)] w fun e w' => e = .returned (.bool r) ∧ Ext w w' := by
 have H := IB.new w 32 m.zs
 have Hl := Lib.hid (Mac.zs_len h)
 have Hm := Lib.hid h
 have Hk := Lib.hid hk
 have HNO := Lib.hid hno
 have HYES := Lib.hid hyes
 have Hfit := Lib.hid (show decide (m.x = 0 ∧ m.y = 0 ∧ m.modes = zero4 ∧ m.lv = zero64) = true by simp [hf, hxy])
 have hmf := fits_0
 clear h hk hno hyes hf hxy
 go_enter Tryz.func52, Tryz.ntmps52
 go_wp2_with (refine wpList_iload 32 _ rfl rfl H 0 71 rfl _ Tryz.underlying32 rfl size_Macro (by rw [Hl.out]; omega) _ (by rw [sub_all _ _ Hl.out]) ?_)
 refine (impl_kindOf_0 m _ Hm.out Hk.out).mono ?_
 rintro e w1 ⟨rfl, e1⟩
 have H1 := H.ext e1
 have E1 := (Ext.alloc w (.cells (ic m.zs) 32)).trans e1
 clear H e1
 go_wp2_with (first | (refine wpList_iload 27 _ rfl rfl H1 1 2 rfl _ Tryz.underlying27 rfl size_Vector (by rw [Hl.out]; omega) _ Mac.zs_mv ?_))
 refine (impl_VectorValid_yes m.x m.y _ hv).mono ?_
 rintro e w2 ⟨rfl, e2⟩
 have H2 := H1.ext e2
 have E2 := E1.trans e2
 clear H1 E1 e2 hv
 go_wp2_with fail
 refine (skipped_fits_any m _ Hm.out true Hfit.out).mono ?_
 rintro e w3 ⟨rfl, e3⟩
 have H3 := H2.ext e3
 have E3 := E2.trans e3
 clear H2 E2 e3 hmf
 go_wp2_with (refine wpList_iload 30 _ rfl rfl H3 7 64 rfl _ Tryz.underlying30 rfl size_A16A4 (by rw [Hl.out]; omega) _ (by rw [Mac.zs_lv Hm.out]) ?_)
 go_loopw [23] (fun i wr => ∃ k : Nat, k ≤ 4 ∧ i = .int .i64 k ∧ Ext w wr ∧ Hid (∀ j, j < k → inB 4080 (sub m.lv (j * 16) 16) = true)) (fun i _ => 4 - (intOf i).toNat)
 case atStart => exact ⟨0, by omega, rfl, E3, Lib.hid (fun j hj => by omega)⟩
 case round =>
  obtain ⟨k, hk, rfl, E4, hall⟩ := hrel
  clear H3 E3
  by_cases hlt : k < 4
  ·have hbl := sub_len m.lv (k * 16) 16 (by rw [Hm.out.lv]; omega)
   have Hbl := Lib.hid hbl
   have p0 := IB.new wr 29 (List.replicate 16 0)
   have Hsa := Lib.hid (sub_all _ 16 hbl)
   clear hbl
   go_wp2_with (first | (refine wpList_iindexa _ _ _ rfl rfl m.lv rfl k 4 16 _ rfl rfl _ _ Tryz.underlying30 Tryz.underlying29 rfl size_A16 hlt ?_) | (refine wpList_istore _ _ _ rfl rfl p0 0 16 rfl _ rfl _ rfl size_A16 Hbl.out (by simp) ?_; intro w6 p6 g6; refine Hid.out ?_))
   rw [spl_all (by rw [Hbl.out]; rfl)] at p6
   have E6 : Ext w w6 := Ext.grown (E4.trans (Ext.alloc _ _)) g6 (fun q hq => by cases hq; exact E4.size)
   clear g6 p0 E4
   refine Lib.hid ?_
   go_wp2_with (refine wpList_iload 29 _ rfl rfl p6 0 16 rfl _ Tryz.underlying29 rfl size_A16 (by rw [Hbl.out]; omega) _ (by rw [Hsa.out]) ?_)
   refine (impl_blockWithin_any _ 4080 _ Hbl.out (by omega) (by omega)).mono ?_
   rintro e w5 ⟨rfl, e5⟩
   have E5 := E6.trans e5
   clear E6 e5 p6
   cases hb : inB 4080 (sub m.lv (k * 16) 16)
   ·have hres := Lib.hid (HNO.out k hlt hb)
    clear hb
    go_wp2
    go_ret
    exact ⟨(ret_bool hres.out).symm, E5⟩
   ·have hall2 := Lib.hid (show ∀ j, j < k + 1 → inB 4080 (sub m.lv (j * 16) 16) = true from fun j hj => by
     by_cases hjk : j = k
     ·subst hjk; exact hb
     ·exact hall.out j (by omega))
    clear hb
    go_wp2
    go_roundw
    case rel => exact ⟨k + 1, by omega, by go_num, E5, hall2⟩
    case measure => simp [intOf]; omega
  ·obtain rfl : k = 4 := by omega
   have hres := Lib.hid (HYES.out hall.out)
   go_wp2
   go_ret
   exact ⟨(ret_bool hres.out).symm, E4⟩
set_option maxRecDepth 100000 in
theorem impl_MacroValid_nofit0 (m : Mac) (w : World) (h : m.ok) (hk : m.kind = 0) (hv : vv m.x m.y) (hf : ¬ (m.x = 0 ∧ m.y = 0 ∧ m.modes = zero4 ∧ m.lv = zero64)) :
 Calls Tryz.prog 52 #[.agg (ic m.zs)] w fun e w' => e = .returned (.bool false) ∧ Ext w w' := by
 have H := IB.new w 32 m.zs
 have Hl := Lib.hid (Mac.zs_len h)
 have Hm := Lib.hid h
 have Hk := Lib.hid hk
 have Hfit := Lib.hid (show decide (m.x = 0 ∧ m.y = 0 ∧ m.modes = zero4 ∧ m.lv = zero64) = false by simpa using hf)
 have hmf := fits_0
 clear h hk hf
 go_enter Tryz.func52, Tryz.ntmps52
 go_wp2_with (refine wpList_iload 32 _ rfl rfl H 0 71 rfl _ Tryz.underlying32 rfl size_Macro (by rw [Hl.out]; omega) _ (by rw [sub_all _ _ Hl.out]) ?_)
 refine (impl_kindOf_0 m _ Hm.out Hk.out).mono ?_
 rintro e w1 ⟨rfl, e1⟩
 have H1 := H.ext e1
 have E1 := (Ext.alloc w (.cells (ic m.zs) 32)).trans e1
 clear H e1
 go_wp2_with (first | (refine wpList_iload 27 _ rfl rfl H1 1 2 rfl _ Tryz.underlying27 rfl size_Vector (by rw [Hl.out]; omega) _ Mac.zs_mv ?_))
 refine (impl_VectorValid_yes m.x m.y _ hv).mono ?_
 rintro e w2 ⟨rfl, e2⟩
 have H2 := H1.ext e2
 have E2 := E1.trans e2
 clear H1 E1 e2 hv
 go_wp2_with fail
 refine (skipped_fits_any m _ Hm.out false Hfit.out).mono ?_
 rintro e w3 ⟨rfl, e3⟩
 go_wp2
 go_ret
 exact ⟨rfl, E2.trans e3⟩
set_option maxRecDepth 100000 in
theorem impl_MacroValid_novec0 (m : Mac) (w : World) (h : m.ok) (hk : m.kind = 0) (hv : ¬ vv m.x m.y) :
 Calls Tryz.prog 52 #[.agg (ic m.zs)] w fun e w' => e = .returned (.bool false) ∧ Ext w w' := by
 have H := IB.new w 32 m.zs
 have Hl := Lib.hid (Mac.zs_len h)
 have Hm := Lib.hid h
 have Hk := Lib.hid hk
 clear h hk
 go_enter Tryz.func52, Tryz.ntmps52
 go_wp2_with (refine wpList_iload 32 _ rfl rfl H 0 71 rfl _ Tryz.underlying32 rfl size_Macro (by rw [Hl.out]; omega) _ (by rw [sub_all _ _ Hl.out]) ?_)
 refine (impl_kindOf_0 m _ Hm.out Hk.out).mono ?_
 rintro e w1 ⟨rfl, e1⟩
 have H1 := H.ext e1
 have E1 := (Ext.alloc w (.cells (ic m.zs) 32)).trans e1
 clear H e1
 go_wp2_with (first | (refine wpList_iload 27 _ rfl rfl H1 1 2 rfl _ Tryz.underlying27 rfl size_Vector (by rw [Hl.out]; omega) _ Mac.zs_mv ?_))
 refine (impl_VectorValid_no m.x m.y _ hv).mono ?_
 rintro e w2 ⟨rfl, e2⟩
 clear hv H1
 go_wp2
 go_ret
 exact ⟨rfl, E1.trans e2⟩
set_option maxRecDepth 100000 in
set_option maxHeartbeats 1000000 in
theorem impl_MacroValid_lv1 (m : Mac) (w : World) (h : m.ok) (hk : m.kind = 1) (hv : vv m.x m.y) (hf : m.modes = zero4) (r : Bool) (hno : ∀ k, k < 4 → inB 4080 (sub m.lv (k * 16) 16) = false → r = false) (hyes : (∀ k, k < 4 → inB 4080 (sub m.lv (k * 16) 16) = true) → r = true) :
 Calls Tryz.prog 52 #[.agg (ic m.zs)] w fun e w' => e = .returned (.bool r) ∧ Ext w w' := by
 have H := IB.new w 32 m.zs
 have Hl := Lib.hid (Mac.zs_len h)
 have Hm := Lib.hid h
 have Hk := Lib.hid hk
 have HNO := Lib.hid hno
 have HYES := Lib.hid hyes
 have Hfit := Lib.hid (show decide (m.modes = zero4) = true by simp [hf])
 have hmf := fits_1
 clear h hk hno hyes hf
 go_enter Tryz.func52, Tryz.ntmps52
 go_wp2_with (refine wpList_iload 32 _ rfl rfl H 0 71 rfl _ Tryz.underlying32 rfl size_Macro (by rw [Hl.out]; omega) _ (by rw [sub_all _ _ Hl.out]) ?_)
 refine (impl_kindOf_1 m _ Hm.out Hk.out).mono ?_
 rintro e w1 ⟨rfl, e1⟩
 have H1 := H.ext e1
 have E1 := (Ext.alloc w (.cells (ic m.zs) 32)).trans e1
 clear H e1
 go_wp2_with (first | (refine wpList_iload 27 _ rfl rfl H1 1 2 rfl _ Tryz.underlying27 rfl size_Vector (by rw [Hl.out]; omega) _ Mac.zs_mv ?_))
 refine (impl_VectorValid_yes m.x m.y _ hv).mono ?_
 rintro e w2 ⟨rfl, e2⟩
 have H2 := H1.ext e2
 have E2 := E1.trans e2
 clear H1 E1 e2 hv
 go_wp2_with fail
 refine (inter_fits_any m _ Hm.out true Hfit.out).mono ?_
 rintro e w3 ⟨rfl, e3⟩
 have H3 := H2.ext e3
 have E3 := E2.trans e3
 clear H2 E2 e3 hmf
 go_wp2_with (refine wpList_iload 30 _ rfl rfl H3 7 64 rfl _ Tryz.underlying30 rfl size_A16A4 (by rw [Hl.out]; omega) _ (by rw [Mac.zs_lv Hm.out]) ?_)
 go_loopw [23] (fun i wr => ∃ k : Nat, k ≤ 4 ∧ i = .int .i64 k ∧ Ext w wr ∧ Hid (∀ j, j < k → inB 4080 (sub m.lv (j * 16) 16) = true)) (fun i _ => 4 - (intOf i).toNat)
 case atStart => exact ⟨0, by omega, rfl, E3, Lib.hid (fun j hj => by omega)⟩
 case round =>
  obtain ⟨k, hk, rfl, E4, hall⟩ := hrel
  clear H3 E3
  by_cases hlt : k < 4
  ·have hbl := sub_len m.lv (k * 16) 16 (by rw [Hm.out.lv]; omega)
   have Hbl := Lib.hid hbl
   have p0 := IB.new wr 29 (List.replicate 16 0)
   have Hsa := Lib.hid (sub_all _ 16 hbl)
   clear hbl
   go_wp2_with (first | (refine wpList_iindexa _ _ _ rfl rfl m.lv rfl k 4 16 _ rfl rfl _ _ Tryz.underlying30 Tryz.underlying29 rfl size_A16 hlt ?_) | (refine wpList_istore _ _ _ rfl rfl p0 0 16 rfl _ rfl _ rfl size_A16 Hbl.out (by simp) ?_; intro w6 p6 g6; refine Hid.out ?_))
   rw [spl_all (by rw [Hbl.out]; rfl)] at p6
   have E6 : Ext w w6 := Ext.grown (E4.trans (Ext.alloc _ _)) g6 (fun q hq => by cases hq; exact E4.size)
   clear g6 p0 E4
   refine Lib.hid ?_
   go_wp2_with (refine wpList_iload 29 _ rfl rfl p6 0 16 rfl _ Tryz.underlying29 rfl size_A16 (by rw [Hbl.out]; omega) _ (by rw [Hsa.out]) ?_)
   refine (impl_blockWithin_any _ 4080 _ Hbl.out (by omega) (by omega)).mono ?_
   rintro e w5 ⟨rfl, e5⟩
   have E5 := E6.trans e5
   clear E6 e5 p6
   cases hb : inB 4080 (sub m.lv (k * 16) 16)
   ·have hres := Lib.hid (HNO.out k hlt hb)
    clear hb
    go_wp2
    go_ret
    exact ⟨(ret_bool hres.out).symm, E5⟩
   ·have hall2 := Lib.hid (show ∀ j, j < k + 1 → inB 4080 (sub m.lv (j * 16) 16) = true from fun j hj => by
     by_cases hjk : j = k
     ·subst hjk; exact hb
     ·exact hall.out j (by omega))
    clear hb
    go_wp2
    go_roundw
    case rel => exact ⟨k + 1, by omega, by go_num, E5, hall2⟩
    case measure => simp [intOf]; omega
  ·obtain rfl : k = 4 := by omega
   have hres := Lib.hid (HYES.out hall.out)
   go_wp2
   go_ret
   exact ⟨(ret_bool hres.out).symm, E4⟩
set_option maxRecDepth 100000 in
theorem impl_MacroValid_nofit1 (m : Mac) (w : World) (h : m.ok) (hk : m.kind = 1) (hv : vv m.x m.y) (hf : ¬ m.modes = zero4) :
 Calls Tryz.prog 52 #[.agg (ic m.zs)] w fun e w' => e = .returned (.bool false) ∧ Ext w w' := by
 have H := IB.new w 32 m.zs
 have Hl := Lib.hid (Mac.zs_len h)
 have Hm := Lib.hid h
 have Hk := Lib.hid hk
 have Hfit := Lib.hid (show decide (m.modes = zero4) = false by simpa using hf)
 have hmf := fits_1
 clear h hk hf
 go_enter Tryz.func52, Tryz.ntmps52
 go_wp2_with (refine wpList_iload 32 _ rfl rfl H 0 71 rfl _ Tryz.underlying32 rfl size_Macro (by rw [Hl.out]; omega) _ (by rw [sub_all _ _ Hl.out]) ?_)
 refine (impl_kindOf_1 m _ Hm.out Hk.out).mono ?_
 rintro e w1 ⟨rfl, e1⟩
 have H1 := H.ext e1
 have E1 := (Ext.alloc w (.cells (ic m.zs) 32)).trans e1
 clear H e1
 go_wp2_with (first | (refine wpList_iload 27 _ rfl rfl H1 1 2 rfl _ Tryz.underlying27 rfl size_Vector (by rw [Hl.out]; omega) _ Mac.zs_mv ?_))
 refine (impl_VectorValid_yes m.x m.y _ hv).mono ?_
 rintro e w2 ⟨rfl, e2⟩
 have H2 := H1.ext e2
 have E2 := E1.trans e2
 clear H1 E1 e2 hv
 go_wp2_with fail
 refine (inter_fits_any m _ Hm.out false Hfit.out).mono ?_
 rintro e w3 ⟨rfl, e3⟩
 go_wp2
 go_ret
 exact ⟨rfl, E2.trans e3⟩
set_option maxRecDepth 100000 in
theorem impl_MacroValid_novec1 (m : Mac) (w : World) (h : m.ok) (hk : m.kind = 1) (hv : ¬ vv m.x m.y) :
 Calls Tryz.prog 52 #[.agg (ic m.zs)] w fun e w' => e = .returned (.bool false) ∧ Ext w w' := by
 have H := IB.new w 32 m.zs
 have Hl := Lib.hid (Mac.zs_len h)
 have Hm := Lib.hid h
 have Hk := Lib.hid hk
 clear h hk
 go_enter Tryz.func52, Tryz.ntmps52
 go_wp2_with (refine wpList_iload 32 _ rfl rfl H 0 71 rfl _ Tryz.underlying32 rfl size_Macro (by rw [Hl.out]; omega) _ (by rw [sub_all _ _ Hl.out]) ?_)
 refine (impl_kindOf_1 m _ Hm.out Hk.out).mono ?_
 rintro e w1 ⟨rfl, e1⟩
 have H1 := H.ext e1
 have E1 := (Ext.alloc w (.cells (ic m.zs) 32)).trans e1
 clear H e1
 go_wp2_with (first | (refine wpList_iload 27 _ rfl rfl H1 1 2 rfl _ Tryz.underlying27 rfl size_Vector (by rw [Hl.out]; omega) _ Mac.zs_mv ?_))
 refine (impl_VectorValid_no m.x m.y _ hv).mono ?_
 rintro e w2 ⟨rfl, e2⟩
 clear hv H1
 go_wp2
 go_ret
 exact ⟨rfl, E1.trans e2⟩
set_option maxRecDepth 100000 in
set_option maxHeartbeats 1000000 in
theorem impl_MacroValid_lv2 (m : Mac) (w : World) (h : m.ok) (hk : m.kind = 2) (hv : vv m.x m.y) (hf : ∀ j, j < 4 → 0 ≤ nth m.modes j ∧ nth m.modes j ≤ 4) (hxy : m.x = 0 ∧ m.y = 0) (r : Bool) (hno : ∀ k, k < 4 → inB 4080 (sub m.lv (k * 16) 16) = false → r = false) (hyes : (∀ k, k < 4 → inB 4080 (sub m.lv (k * 16) 16) = true) → r = true) :
 Calls Tryz.prog 52 #[.agg (ic m.zs)] w fun e w' => e = .returned (.bool r) ∧ Ext w w' := by
 have H := IB.new w 32 m.zs
 have Hl := Lib.hid (Mac.zs_len h)
 have Hm := Lib.hid h
 have Hk := Lib.hid hk
 have HNO := Lib.hid hno
 have HYES := Lib.hid hyes
 have Hfit := Lib.hid (⟨hf, by simp [hxy]⟩ : (∀ j, j < 4 → 0 ≤ nth m.modes j ∧ nth m.modes j ≤ 4) ∧ decide (m.x = 0 ∧ m.y = 0) = true)
 have hmf := fits_2
 clear h hk hno hyes hf hxy
 go_enter Tryz.func52, Tryz.ntmps52
 go_wp2_with (refine wpList_iload 32 _ rfl rfl H 0 71 rfl _ Tryz.underlying32 rfl size_Macro (by rw [Hl.out]; omega) _ (by rw [sub_all _ _ Hl.out]) ?_)
 refine (impl_kindOf_2 m _ Hm.out Hk.out).mono ?_
 rintro e w1 ⟨rfl, e1⟩
 have H1 := H.ext e1
 have E1 := (Ext.alloc w (.cells (ic m.zs) 32)).trans e1
 clear H e1
 go_wp2_with (first | (refine wpList_iload 27 _ rfl rfl H1 1 2 rfl _ Tryz.underlying27 rfl size_Vector (by rw [Hl.out]; omega) _ Mac.zs_mv ?_))
 refine (impl_VectorValid_yes m.x m.y _ hv).mono ?_
 rintro e w2 ⟨rfl, e2⟩
 have H2 := H1.ext e2
 have E2 := E1.trans e2
 clear H1 E1 e2 hv
 go_wp2_with fail
 refine (intra_fits_yes m _ Hm.out Hfit.out.1 true Hfit.out.2).mono ?_
 rintro e w3 ⟨rfl, e3⟩
 have H3 := H2.ext e3
 have E3 := E2.trans e3
 clear H2 E2 e3 hmf
 go_wp2_with (refine wpList_iload 30 _ rfl rfl H3 7 64 rfl _ Tryz.underlying30 rfl size_A16A4 (by rw [Hl.out]; omega) _ (by rw [Mac.zs_lv Hm.out]) ?_)
 go_loopw [23] (fun i wr => ∃ k : Nat, k ≤ 4 ∧ i = .int .i64 k ∧ Ext w wr ∧ Hid (∀ j, j < k → inB 4080 (sub m.lv (j * 16) 16) = true)) (fun i _ => 4 - (intOf i).toNat)
 case atStart => exact ⟨0, by omega, rfl, E3, Lib.hid (fun j hj => by omega)⟩
 case round =>
  obtain ⟨k, hk, rfl, E4, hall⟩ := hrel
  clear H3 E3
  by_cases hlt : k < 4
  ·have hbl := sub_len m.lv (k * 16) 16 (by rw [Hm.out.lv]; omega)
   have Hbl := Lib.hid hbl
   have p0 := IB.new wr 29 (List.replicate 16 0)
   have Hsa := Lib.hid (sub_all _ 16 hbl)
   clear hbl
   go_wp2_with (first | (refine wpList_iindexa _ _ _ rfl rfl m.lv rfl k 4 16 _ rfl rfl _ _ Tryz.underlying30 Tryz.underlying29 rfl size_A16 hlt ?_) | (refine wpList_istore _ _ _ rfl rfl p0 0 16 rfl _ rfl _ rfl size_A16 Hbl.out (by simp) ?_; intro w6 p6 g6; refine Hid.out ?_))
   rw [spl_all (by rw [Hbl.out]; rfl)] at p6
   have E6 : Ext w w6 := Ext.grown (E4.trans (Ext.alloc _ _)) g6 (fun q hq => by cases hq; exact E4.size)
   clear g6 p0 E4
   refine Lib.hid ?_
   go_wp2_with (refine wpList_iload 29 _ rfl rfl p6 0 16 rfl _ Tryz.underlying29 rfl size_A16 (by rw [Hbl.out]; omega) _ (by rw [Hsa.out]) ?_)
   refine (impl_blockWithin_any _ 4080 _ Hbl.out (by omega) (by omega)).mono ?_
   rintro e w5 ⟨rfl, e5⟩
   have E5 := E6.trans e5
   clear E6 e5 p6
   cases hb : inB 4080 (sub m.lv (k * 16) 16)
   ·have hres := Lib.hid (HNO.out k hlt hb)
    clear hb
    go_wp2
    go_ret
    exact ⟨(ret_bool hres.out).symm, E5⟩
   ·have hall2 := Lib.hid (show ∀ j, j < k + 1 → inB 4080 (sub m.lv (j * 16) 16) = true from fun j hj => by
     by_cases hjk : j = k
     ·subst hjk; exact hb
     ·exact hall.out j (by omega))
    clear hb
    go_wp2
    go_roundw
    case rel => exact ⟨k + 1, by omega, by go_num, E5, hall2⟩
    case measure => simp [intOf]; omega
  ·obtain rfl : k = 4 := by omega
   have hres := Lib.hid (HYES.out hall.out)
   go_wp2
   go_ret
   exact ⟨(ret_bool hres.out).symm, E4⟩
set_option maxRecDepth 100000 in
theorem impl_MacroValid_nofit2 (m : Mac) (w : World) (h : m.ok) (hk : m.kind = 2) (hv : vv m.x m.y) (hf : ¬ ∀ j, j < 4 → 0 ≤ nth m.modes j ∧ nth m.modes j ≤ 4) :
 Calls Tryz.prog 52 #[.agg (ic m.zs)] w fun e w' => e = .returned (.bool false) ∧ Ext w w' := by
 have H := IB.new w 32 m.zs
 have Hl := Lib.hid (Mac.zs_len h)
 have Hm := Lib.hid h
 have Hk := Lib.hid hk
 have Hfit := Lib.hid hf
 have hmf := fits_2
 clear h hk hf
 go_enter Tryz.func52, Tryz.ntmps52
 go_wp2_with (refine wpList_iload 32 _ rfl rfl H 0 71 rfl _ Tryz.underlying32 rfl size_Macro (by rw [Hl.out]; omega) _ (by rw [sub_all _ _ Hl.out]) ?_)
 refine (impl_kindOf_2 m _ Hm.out Hk.out).mono ?_
 rintro e w1 ⟨rfl, e1⟩
 have H1 := H.ext e1
 have E1 := (Ext.alloc w (.cells (ic m.zs) 32)).trans e1
 clear H e1
 go_wp2_with (first | (refine wpList_iload 27 _ rfl rfl H1 1 2 rfl _ Tryz.underlying27 rfl size_Vector (by rw [Hl.out]; omega) _ Mac.zs_mv ?_))
 refine (impl_VectorValid_yes m.x m.y _ hv).mono ?_
 rintro e w2 ⟨rfl, e2⟩
 have H2 := H1.ext e2
 have E2 := E1.trans e2
 clear H1 E1 e2 hv
 go_wp2_with fail
 refine (intra_fits_no m _ Hm.out Hfit.out).mono ?_
 rintro e w3 ⟨rfl, e3⟩
 go_wp2
 go_ret
 exact ⟨rfl, E2.trans e3⟩
set_option maxRecDepth 100000 in
theorem impl_MacroValid_nofit2b (m : Mac) (w : World) (h : m.ok) (hk : m.kind = 2) (hv : vv m.x m.y) (hf : (∀ j, j < 4 → 0 ≤ nth m.modes j ∧ nth m.modes j ≤ 4) ∧ ¬ (m.x = 0 ∧ m.y = 0)) :
 Calls Tryz.prog 52 #[.agg (ic m.zs)] w fun e w' => e = .returned (.bool false) ∧ Ext w w' := by
 have H := IB.new w 32 m.zs
 have Hl := Lib.hid (Mac.zs_len h)
 have Hm := Lib.hid h
 have Hk := Lib.hid hk
 have Hfit := Lib.hid hf
 have hmf := fits_2
 clear h hk hf
 go_enter Tryz.func52, Tryz.ntmps52
 go_wp2_with (refine wpList_iload 32 _ rfl rfl H 0 71 rfl _ Tryz.underlying32 rfl size_Macro (by rw [Hl.out]; omega) _ (by rw [sub_all _ _ Hl.out]) ?_)
 refine (impl_kindOf_2 m _ Hm.out Hk.out).mono ?_
 rintro e w1 ⟨rfl, e1⟩
 have H1 := H.ext e1
 have E1 := (Ext.alloc w (.cells (ic m.zs) 32)).trans e1
 clear H e1
 go_wp2_with (first | (refine wpList_iload 27 _ rfl rfl H1 1 2 rfl _ Tryz.underlying27 rfl size_Vector (by rw [Hl.out]; omega) _ Mac.zs_mv ?_))
 refine (impl_VectorValid_yes m.x m.y _ hv).mono ?_
 rintro e w2 ⟨rfl, e2⟩
 have H2 := H1.ext e2
 have E2 := E1.trans e2
 clear H1 E1 e2 hv
 go_wp2_with fail
 refine (intra_fits_yes m _ Hm.out Hfit.out.1 false (by simpa using Hfit.out.2)).mono ?_
 rintro e w3 ⟨rfl, e3⟩
 go_wp2
 go_ret
 exact ⟨rfl, E2.trans e3⟩
set_option maxRecDepth 100000 in
theorem impl_MacroValid_novec2 (m : Mac) (w : World) (h : m.ok) (hk : m.kind = 2) (hv : ¬ vv m.x m.y) :
 Calls Tryz.prog 52 #[.agg (ic m.zs)] w fun e w' => e = .returned (.bool false) ∧ Ext w w' := by
 have H := IB.new w 32 m.zs
 have Hl := Lib.hid (Mac.zs_len h)
 have Hm := Lib.hid h
 have Hk := Lib.hid hk
 clear h hk
 go_enter Tryz.func52, Tryz.ntmps52
 go_wp2_with (refine wpList_iload 32 _ rfl rfl H 0 71 rfl _ Tryz.underlying32 rfl size_Macro (by rw [Hl.out]; omega) _ (by rw [sub_all _ _ Hl.out]) ?_)
 refine (impl_kindOf_2 m _ Hm.out Hk.out).mono ?_
 rintro e w1 ⟨rfl, e1⟩
 have H1 := H.ext e1
 have E1 := (Ext.alloc w (.cells (ic m.zs) 32)).trans e1
 clear H e1
 go_wp2_with (first | (refine wpList_iload 27 _ rfl rfl H1 1 2 rfl _ Tryz.underlying27 rfl size_Vector (by rw [Hl.out]; omega) _ Mac.zs_mv ?_))
 refine (impl_VectorValid_no m.x m.y _ hv).mono ?_
 rintro e w2 ⟨rfl, e2⟩
 clear hv H1
 go_wp2
 go_ret
 exact ⟨rfl, E1.trans e2⟩
set_option maxRecDepth 100000 in
theorem impl_MacroValid_nokind (m : Mac) (w : World) (h : m.ok) (hk : m.kind < 0 ∨ 2 < m.kind) :
 Calls Tryz.prog 52 #[.agg (ic m.zs)] w fun e w' => e = .returned (.bool false) ∧ Ext w w' := by
 have H := IB.new w 32 m.zs
 have Hl := Lib.hid (Mac.zs_len h)
 have Hm := Lib.hid h
 have Hk := Lib.hid hk
 clear h hk
 go_enter Tryz.func52, Tryz.ntmps52
 go_wp2_with (refine wpList_iload 32 _ rfl rfl H 0 71 rfl _ Tryz.underlying32 rfl size_Macro (by rw [Hl.out]; omega) _ (by rw [sub_all _ _ Hl.out]) ?_)
 refine (impl_kindOf_no m _ Hm.out Hk.out).mono ?_
 rintro e w1 ⟨rfl, e1⟩
 have H1 := H.ext e1
 have E1 := (Ext.alloc w (.cells (ic m.zs) 32)).trans e1
 clear H e1
 go_wp2
 go_ret
 exact ⟨rfl, E1⟩
theorem impl_MacroValid_any (m : Mac) (w : World) (h : m.ok) :
 Calls Tryz.prog 52 #[.agg (ic m.zs)] w fun e w' => e = .returned (.bool (decide m.valid)) ∧ Ext w w' := by
 by_cases hk : 0 ≤ m.kind ∧ m.kind ≤ 2
 ·have hlv := inB_blocks (B := 4080) h.lv
  by_cases hv : vv m.x m.y
  ·have step : ∀ r : Bool, (r = true ↔ m.valid) → decide m.valid = r := fun r hr => by
    cases r
    ·exact decide_eq_false (fun h => by have := hr.2 h; cases this)
    ·exact decide_eq_true (hr.1 rfl)
   obtain hk0 | hk1 | hk2 : m.kind = 0 ∨ m.kind = 1 ∨ m.kind = 2 := by omega
   ·by_cases hf : m.x = 0 ∧ m.y = 0 ∧ m.modes = zero4 ∧ m.lv = zero64
    ·rw [step (inB 4080 m.lv) ⟨fun hb => ⟨hk, hv, fun _ => ⟨hf.1, hf.2.1⟩, fun _ => hf.2.2.1, fun h => by omega, fun _ => hf.2.2.2, hb⟩, fun h => h.2.2.2.2.2.2⟩]
     refine impl_MacroValid_lv0 m w h hk0 hv hf.2.2 ⟨hf.1, hf.2.1⟩ _ (fun k hk hb => ?_) (fun hb => hlv.2 hb)
     cases hc : inB 4080 m.lv
     ·rfl
     ·have := hlv.1 hc k hk; rw [hb] at this; cases this
    ·rw [step false ⟨fun h => (by cases h), fun h => absurd ⟨(h.2.2.1 (by omega)).1, (h.2.2.1 (by omega)).2, h.2.2.2.1 (by omega), h.2.2.2.2.2.1 hk0⟩ hf⟩]
     exact impl_MacroValid_nofit0 m w h hk0 hv hf
   ·by_cases hf : m.modes = zero4
    ·rw [step (inB 4080 m.lv) ⟨fun hb => ⟨hk, hv, fun h => absurd hk1 h, fun _ => hf, fun h => by omega, fun h => by omega, hb⟩, fun h => h.2.2.2.2.2.2⟩]
     refine impl_MacroValid_lv1 m w h hk1 hv hf _ (fun k hk hb => ?_) (fun hb => hlv.2 hb)
     cases hc : inB 4080 m.lv
     ·rfl
     ·have := hlv.1 hc k hk; rw [hb] at this; cases this
    ·rw [step false ⟨fun h => (by cases h), fun h => absurd (h.2.2.2.1 (by omega)) hf⟩]
     exact impl_MacroValid_nofit1 m w h hk1 hv hf
   ·by_cases hf : ∀ j, j < 4 → 0 ≤ nth m.modes j ∧ nth m.modes j ≤ 4
    ·by_cases hxy : m.x = 0 ∧ m.y = 0
     ·rw [step (inB 4080 m.lv) ⟨fun hb => ⟨hk, hv, fun _ => hxy, fun h => absurd hk2 h, fun _ => hf, fun h => by omega, hb⟩, fun h => h.2.2.2.2.2.2⟩]
      refine impl_MacroValid_lv2 m w h hk2 hv hf hxy _ (fun k hk hb => ?_) (fun hb => hlv.2 hb)
      cases hc : inB 4080 m.lv
      ·rfl
      ·have := hlv.1 hc k hk; rw [hb] at this; cases this
     ·rw [step false ⟨fun h => (by cases h), fun h => absurd (h.2.2.1 (by omega)) hxy⟩]
      exact impl_MacroValid_nofit2b m w h hk2 hv ⟨hf, hxy⟩
    ·rw [step false ⟨fun h => (by cases h), fun h => absurd (h.2.2.2.2.1 hk2) hf⟩]
     exact impl_MacroValid_nofit2 m w h hk2 hv hf
  ·rw [show decide m.valid = false from decide_eq_false (fun h => hv h.2.1)]
   obtain hk0 | hk1 | hk2 : m.kind = 0 ∨ m.kind = 1 ∨ m.kind = 2 := by omega
   ·exact impl_MacroValid_novec0 m w h hk0 hv
   ·exact impl_MacroValid_novec1 m w h hk1 hv
   ·exact impl_MacroValid_novec2 m w h hk2 hv
 ·rw [show decide m.valid = false from decide_eq_false (fun h => hk h.1)]
  exact impl_MacroValid_nokind m w h (by omega)
end Go.Proofs.YtbnhaegidfbgbaaGreatDoor
