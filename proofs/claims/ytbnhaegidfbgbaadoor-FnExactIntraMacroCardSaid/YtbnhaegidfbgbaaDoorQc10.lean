/- Tests on pictures: both sides. | MacroValid: the program's. | MacroValid: the program's answer. | Are the arguments of Reconstruct valid: both sides. | The worlds while a macroblock of a picture is rebuilt. | The program's rebuild of a macroblock of a picture. | The reference's rebuild of a macroblock of a picture. | append onto a row of the call's own keeps each row no longer than it. -/
import Derived.Test.YtbnhaegidfbgbaaDoorQc9
namespace Go.Proofs.YtbnhaegidfbgbaaDoor
open Go.RowKit
set_option maxHeartbeats 1000000
set_option maxRecDepth 100000 in
theorem alike_0 (p s : Pic) (a b : Option Addr) (c d n m : Nat) (w : World) (hn : n = p.px.length) (hm : m = s.px.length) (nc : n ≤ 9223372036854775807) (mc : m ≤ 9223372036854775807) (r : Sl w a n (p.px.map (Value.int .i64))) (q : Sl w b m (s.px.map (Value.int .i64)))  (h0 : ¬ (p.valid)) :
    Calls Tryd.prog 38 #[.agg #[.int .i64 p.w, .int .i64 p.h, .slice a n c], .agg #[.int .i64 s.w, .int .i64 s.h, .slice b m d]] w fun e w' => e = .returned (.bool false) ∧ Ext w w' := by
  have HN := Lib.hid hn
  have HM := Lib.hid hm
  clear hn hm
  have D0 := Lib.hid (show decide (p.valid) = false from decide_eq_false h0)
  have a0_1 := Ext.alloc (w.alloc (.cells #[.int .i64 p.w, .int .i64 p.h, .slice a n c] 25)) (.cells #[.int .i64 s.w, .int .i64 s.h, .slice b m d] 25)
  have X0_0 := a0_1.blk (blk_new w (.cells #[.int .i64 p.w, .int .i64 p.h, .slice a n c] 25))
  have X1_0 := blk_new (w.alloc (.cells #[.int .i64 p.w, .int .i64 p.h, .slice a n c] 25)) (.cells #[.int .i64 s.w, .int .i64 s.h, .slice b m d] 25)
  have E_0 := (Ext.alloc w (.cells #[.int .i64 p.w, .int .i64 p.h, .slice a n c] 25)).trans (Ext.alloc (w.alloc (.cells #[.int .i64 p.w, .int .i64 p.h, .slice a n c] 25)) (.cells #[.int .i64 s.w, .int .i64 s.h, .slice b m d] 25))
  simp only [World.size_alloc] at X1_0
  clear a0_1
  clear h0
  obtain ⟨-, k0_0, k0_1, k0_2, -⟩ := bx3 X0_0
  obtain ⟨-, k1_0, k1_1, k1_2, -⟩ := bx3 X1_0
  go_enter Tryd.func38, Tryd.ntmps38
  go_wp2_with fail
  refine (impl_PictureValid_any p a c n _ HN.out nc (r.ext E_0)).mono ?_
  rw [D0.out]
  rintro e w_1 ⟨rfl, e_1⟩
  have X0_1 := e_1.blk X0_0
  have X1_1 := e_1.blk X1_0
  have E_1 := E_0.trans e_1
  clear k0_0 k0_1 k0_2 X0_0 k1_0 k1_1 k1_2 X1_0 E_0
  clear e_1
  obtain ⟨-, k0_0, k0_1, k0_2, -⟩ := bx3 X0_1
  obtain ⟨-, k1_0, k1_1, k1_2, -⟩ := bx3 X1_1
  go_wp2
  go_ret
  exact ⟨rfl, E_1⟩
set_option maxRecDepth 100000 in
theorem alike_1 (p s : Pic) (a b : Option Addr) (c d n m : Nat) (w : World) (hn : n = p.px.length) (hm : m = s.px.length) (nc : n ≤ 9223372036854775807) (mc : m ≤ 9223372036854775807) (r : Sl w a n (p.px.map (Value.int .i64))) (q : Sl w b m (s.px.map (Value.int .i64))) (h0 : p.valid) (h1 : ¬ (s.valid)) :
    Calls Tryd.prog 38 #[.agg #[.int .i64 p.w, .int .i64 p.h, .slice a n c], .agg #[.int .i64 s.w, .int .i64 s.h, .slice b m d]] w fun e w' => e = .returned (.bool false) ∧ Ext w w' := by
  have HN := Lib.hid hn
  have HM := Lib.hid hm
  clear hn hm
  have D0 := Lib.hid (show decide (p.valid) = true from decide_eq_true h0)
  have D1 := Lib.hid (show decide (s.valid) = false from decide_eq_false h1)
  have a0_1 := Ext.alloc (w.alloc (.cells #[.int .i64 p.w, .int .i64 p.h, .slice a n c] 25)) (.cells #[.int .i64 s.w, .int .i64 s.h, .slice b m d] 25)
  have X0_0 := a0_1.blk (blk_new w (.cells #[.int .i64 p.w, .int .i64 p.h, .slice a n c] 25))
  have X1_0 := blk_new (w.alloc (.cells #[.int .i64 p.w, .int .i64 p.h, .slice a n c] 25)) (.cells #[.int .i64 s.w, .int .i64 s.h, .slice b m d] 25)
  have E_0 := (Ext.alloc w (.cells #[.int .i64 p.w, .int .i64 p.h, .slice a n c] 25)).trans (Ext.alloc (w.alloc (.cells #[.int .i64 p.w, .int .i64 p.h, .slice a n c] 25)) (.cells #[.int .i64 s.w, .int .i64 s.h, .slice b m d] 25))
  simp only [World.size_alloc] at X1_0
  clear a0_1
  clear h0 h1
  obtain ⟨-, k0_0, k0_1, k0_2, -⟩ := bx3 X0_0
  obtain ⟨-, k1_0, k1_1, k1_2, -⟩ := bx3 X1_0
  go_enter Tryd.func38, Tryd.ntmps38
  go_wp2_with fail
  refine (impl_PictureValid_any p a c n _ HN.out nc (r.ext E_0)).mono ?_
  rw [D0.out]
  rintro e w_1 ⟨rfl, e_1⟩
  have X0_1 := e_1.blk X0_0
  have X1_1 := e_1.blk X1_0
  have E_1 := E_0.trans e_1
  clear k0_0 k0_1 k0_2 X0_0 k1_0 k1_1 k1_2 X1_0 E_0
  clear e_1
  obtain ⟨-, k0_0, k0_1, k0_2, -⟩ := bx3 X0_1
  obtain ⟨-, k1_0, k1_1, k1_2, -⟩ := bx3 X1_1
  go_wp2_with fail
  refine (impl_PictureValid_any s b d m _ HM.out mc (q.ext E_1)).mono ?_
  rw [D1.out]
  rintro e w_2 ⟨rfl, e_2⟩
  have X0_2 := e_2.blk X0_1
  have X1_2 := e_2.blk X1_1
  have E_2 := E_1.trans e_2
  clear k0_0 k0_1 k0_2 X0_1 k1_0 k1_1 k1_2 X1_1 E_1
  clear e_2
  obtain ⟨-, k0_0, k0_1, k0_2, -⟩ := bx3 X0_2
  obtain ⟨-, k1_0, k1_1, k1_2, -⟩ := bx3 X1_2
  go_wp2
  go_ret
  exact ⟨rfl, E_2⟩
set_option maxRecDepth 100000 in
theorem alike_2 (p s : Pic) (a b : Option Addr) (c d n m : Nat) (w : World) (hn : n = p.px.length) (hm : m = s.px.length) (nc : n ≤ 9223372036854775807) (mc : m ≤ 9223372036854775807) (r : Sl w a n (p.px.map (Value.int .i64))) (q : Sl w b m (s.px.map (Value.int .i64))) (h0 : p.valid) (h1 : s.valid) (h2 : ¬ (p.w = s.w)) :
    Calls Tryd.prog 38 #[.agg #[.int .i64 p.w, .int .i64 p.h, .slice a n c], .agg #[.int .i64 s.w, .int .i64 s.h, .slice b m d]] w fun e w' => e = .returned (.bool false) ∧ Ext w w' := by
  have HN := Lib.hid hn
  have HM := Lib.hid hm
  clear hn hm
  have D0 := Lib.hid (show decide (p.valid) = true from decide_eq_true h0)
  have D1 := Lib.hid (show decide (s.valid) = true from decide_eq_true h1)
  have dw : (p.w == s.w) = false := by simpa using h2
  have a0_1 := Ext.alloc (w.alloc (.cells #[.int .i64 p.w, .int .i64 p.h, .slice a n c] 25)) (.cells #[.int .i64 s.w, .int .i64 s.h, .slice b m d] 25)
  have X0_0 := a0_1.blk (blk_new w (.cells #[.int .i64 p.w, .int .i64 p.h, .slice a n c] 25))
  have X1_0 := blk_new (w.alloc (.cells #[.int .i64 p.w, .int .i64 p.h, .slice a n c] 25)) (.cells #[.int .i64 s.w, .int .i64 s.h, .slice b m d] 25)
  have E_0 := (Ext.alloc w (.cells #[.int .i64 p.w, .int .i64 p.h, .slice a n c] 25)).trans (Ext.alloc (w.alloc (.cells #[.int .i64 p.w, .int .i64 p.h, .slice a n c] 25)) (.cells #[.int .i64 s.w, .int .i64 s.h, .slice b m d] 25))
  simp only [World.size_alloc] at X1_0
  clear a0_1
  clear h0 h1 h2
  obtain ⟨-, k0_0, k0_1, k0_2, -⟩ := bx3 X0_0
  obtain ⟨-, k1_0, k1_1, k1_2, -⟩ := bx3 X1_0
  go_enter Tryd.func38, Tryd.ntmps38
  go_wp2_with fail
  refine (impl_PictureValid_any p a c n _ HN.out nc (r.ext E_0)).mono ?_
  rw [D0.out]
  rintro e w_1 ⟨rfl, e_1⟩
  have X0_1 := e_1.blk X0_0
  have X1_1 := e_1.blk X1_0
  have E_1 := E_0.trans e_1
  clear k0_0 k0_1 k0_2 X0_0 k1_0 k1_1 k1_2 X1_0 E_0
  clear e_1
  obtain ⟨-, k0_0, k0_1, k0_2, -⟩ := bx3 X0_1
  obtain ⟨-, k1_0, k1_1, k1_2, -⟩ := bx3 X1_1
  go_wp2_with fail
  refine (impl_PictureValid_any s b d m _ HM.out mc (q.ext E_1)).mono ?_
  rw [D1.out]
  rintro e w_2 ⟨rfl, e_2⟩
  have X0_2 := e_2.blk X0_1
  have X1_2 := e_2.blk X1_1
  have E_2 := E_1.trans e_2
  clear k0_0 k0_1 k0_2 X0_1 k1_0 k1_1 k1_2 X1_1 E_1
  clear e_2
  obtain ⟨-, k0_0, k0_1, k0_2, -⟩ := bx3 X0_2
  obtain ⟨-, k1_0, k1_1, k1_2, -⟩ := bx3 X1_2
  go_wp2
  go_ret
  exact ⟨rfl, E_2⟩
set_option maxRecDepth 100000 in
theorem alike_3 (p s : Pic) (a b : Option Addr) (c d n m : Nat) (w : World) (hn : n = p.px.length) (hm : m = s.px.length) (nc : n ≤ 9223372036854775807) (mc : m ≤ 9223372036854775807) (r : Sl w a n (p.px.map (Value.int .i64))) (q : Sl w b m (s.px.map (Value.int .i64))) (h0 : p.valid) (h1 : s.valid) (h2 : p.w = s.w) (h3 : ¬ (p.h = s.h)) :
    Calls Tryd.prog 38 #[.agg #[.int .i64 p.w, .int .i64 p.h, .slice a n c], .agg #[.int .i64 s.w, .int .i64 s.h, .slice b m d]] w fun e w' => e = .returned (.bool false) ∧ Ext w w' := by
  have HN := Lib.hid hn
  have HM := Lib.hid hm
  clear hn hm
  have D0 := Lib.hid (show decide (p.valid) = true from decide_eq_true h0)
  have D1 := Lib.hid (show decide (s.valid) = true from decide_eq_true h1)
  have dw : (p.w == s.w) = true := by simpa using h2
  have dh : (p.h == s.h) = false := by simpa using h3
  have a0_1 := Ext.alloc (w.alloc (.cells #[.int .i64 p.w, .int .i64 p.h, .slice a n c] 25)) (.cells #[.int .i64 s.w, .int .i64 s.h, .slice b m d] 25)
  have X0_0 := a0_1.blk (blk_new w (.cells #[.int .i64 p.w, .int .i64 p.h, .slice a n c] 25))
  have X1_0 := blk_new (w.alloc (.cells #[.int .i64 p.w, .int .i64 p.h, .slice a n c] 25)) (.cells #[.int .i64 s.w, .int .i64 s.h, .slice b m d] 25)
  have E_0 := (Ext.alloc w (.cells #[.int .i64 p.w, .int .i64 p.h, .slice a n c] 25)).trans (Ext.alloc (w.alloc (.cells #[.int .i64 p.w, .int .i64 p.h, .slice a n c] 25)) (.cells #[.int .i64 s.w, .int .i64 s.h, .slice b m d] 25))
  simp only [World.size_alloc] at X1_0
  clear a0_1
  clear h0 h1 h2 h3
  obtain ⟨-, k0_0, k0_1, k0_2, -⟩ := bx3 X0_0
  obtain ⟨-, k1_0, k1_1, k1_2, -⟩ := bx3 X1_0
  go_enter Tryd.func38, Tryd.ntmps38
  go_wp2_with fail
  refine (impl_PictureValid_any p a c n _ HN.out nc (r.ext E_0)).mono ?_
  rw [D0.out]
  rintro e w_1 ⟨rfl, e_1⟩
  have X0_1 := e_1.blk X0_0
  have X1_1 := e_1.blk X1_0
  have E_1 := E_0.trans e_1
  clear k0_0 k0_1 k0_2 X0_0 k1_0 k1_1 k1_2 X1_0 E_0
  clear e_1
  obtain ⟨-, k0_0, k0_1, k0_2, -⟩ := bx3 X0_1
  obtain ⟨-, k1_0, k1_1, k1_2, -⟩ := bx3 X1_1
  go_wp2_with fail
  refine (impl_PictureValid_any s b d m _ HM.out mc (q.ext E_1)).mono ?_
  rw [D1.out]
  rintro e w_2 ⟨rfl, e_2⟩
  have X0_2 := e_2.blk X0_1
  have X1_2 := e_2.blk X1_1
  have E_2 := E_1.trans e_2
  clear k0_0 k0_1 k0_2 X0_1 k1_0 k1_1 k1_2 X1_1 E_1
  clear e_2
  obtain ⟨-, k0_0, k0_1, k0_2, -⟩ := bx3 X0_2
  obtain ⟨-, k1_0, k1_1, k1_2, -⟩ := bx3 X1_2
  go_wp2
  go_ret
  exact ⟨rfl, E_2⟩
set_option maxRecDepth 100000 in
theorem alike_4 (p s : Pic) (a b : Option Addr) (c d n m : Nat) (w : World) (hn : n = p.px.length) (hm : m = s.px.length) (nc : n ≤ 9223372036854775807) (mc : m ≤ 9223372036854775807) (r : Sl w a n (p.px.map (Value.int .i64))) (q : Sl w b m (s.px.map (Value.int .i64))) (h0 : p.valid) (h1 : s.valid) (h2 : p.w = s.w) (h3 : p.h = s.h) :
    Calls Tryd.prog 38 #[.agg #[.int .i64 p.w, .int .i64 p.h, .slice a n c], .agg #[.int .i64 s.w, .int .i64 s.h, .slice b m d]] w fun e w' => e = .returned (.bool true) ∧ Ext w w' := by
  have HN := Lib.hid hn
  have HM := Lib.hid hm
  clear hn hm
  have D0 := Lib.hid (show decide (p.valid) = true from decide_eq_true h0)
  have D1 := Lib.hid (show decide (s.valid) = true from decide_eq_true h1)
  have dw : (p.w == s.w) = true := by simpa using h2
  have dh : (p.h == s.h) = true := by simpa using h3
  have a0_1 := Ext.alloc (w.alloc (.cells #[.int .i64 p.w, .int .i64 p.h, .slice a n c] 25)) (.cells #[.int .i64 s.w, .int .i64 s.h, .slice b m d] 25)
  have X0_0 := a0_1.blk (blk_new w (.cells #[.int .i64 p.w, .int .i64 p.h, .slice a n c] 25))
  have X1_0 := blk_new (w.alloc (.cells #[.int .i64 p.w, .int .i64 p.h, .slice a n c] 25)) (.cells #[.int .i64 s.w, .int .i64 s.h, .slice b m d] 25)
  have E_0 := (Ext.alloc w (.cells #[.int .i64 p.w, .int .i64 p.h, .slice a n c] 25)).trans (Ext.alloc (w.alloc (.cells #[.int .i64 p.w, .int .i64 p.h, .slice a n c] 25)) (.cells #[.int .i64 s.w, .int .i64 s.h, .slice b m d] 25))
  simp only [World.size_alloc] at X1_0
  clear a0_1
  clear h0 h1 h2 h3
  obtain ⟨-, k0_0, k0_1, k0_2, -⟩ := bx3 X0_0
  obtain ⟨-, k1_0, k1_1, k1_2, -⟩ := bx3 X1_0
  go_enter Tryd.func38, Tryd.ntmps38
  go_wp2_with fail
  refine (impl_PictureValid_any p a c n _ HN.out nc (r.ext E_0)).mono ?_
  rw [D0.out]
  rintro e w_1 ⟨rfl, e_1⟩
  have X0_1 := e_1.blk X0_0
  have X1_1 := e_1.blk X1_0
  have E_1 := E_0.trans e_1
  clear k0_0 k0_1 k0_2 X0_0 k1_0 k1_1 k1_2 X1_0 E_0
  clear e_1
  obtain ⟨-, k0_0, k0_1, k0_2, -⟩ := bx3 X0_1
  obtain ⟨-, k1_0, k1_1, k1_2, -⟩ := bx3 X1_1
  go_wp2_with fail
  refine (impl_PictureValid_any s b d m _ HM.out mc (q.ext E_1)).mono ?_
  rw [D1.out]
  rintro e w_2 ⟨rfl, e_2⟩
  have X0_2 := e_2.blk X0_1
  have X1_2 := e_2.blk X1_1
  have E_2 := E_1.trans e_2
  clear k0_0 k0_1 k0_2 X0_1 k1_0 k1_1 k1_2 X1_1 E_1
  clear e_2
  obtain ⟨-, k0_0, k0_1, k0_2, -⟩ := bx3 X0_2
  obtain ⟨-, k1_0, k1_1, k1_2, -⟩ := bx3 X1_2
  go_wp2
  go_ret
  exact ⟨rfl, E_2⟩
theorem alike_any (p s : Pic) (a b : Option Addr) (c d n m : Nat) (w : World) (hn : n = p.px.length) (hm : m = s.px.length) (nc : n ≤ 9223372036854775807) (mc : m ≤ 9223372036854775807) (r : Sl w a n (p.px.map (Value.int .i64))) (q : Sl w b m (s.px.map (Value.int .i64))) :
    Calls Tryd.prog 38 #[.agg #[.int .i64 p.w, .int .i64 p.h, .slice a n c], .agg #[.int .i64 s.w, .int .i64 s.h, .slice b m d]] w fun e w' => e = .returned (.bool (decide ((p.valid) ∧ (s.valid) ∧ (p.w = s.w) ∧ (p.h = s.h)))) ∧ Ext w w' := by
  by_cases h0 : p.valid
  · skip
    by_cases h1 : s.valid
    · skip
      by_cases h2 : p.w = s.w
      · skip
        by_cases h3 : p.h = s.h
        · rw [decide_eq_true (show (p.valid) ∧ (s.valid) ∧ (p.w = s.w) ∧ (p.h = s.h) from ⟨h0, h1, h2, h3⟩)]
          exact alike_4 p s a b c d n m w hn hm nc mc r q h0 h1 h2 h3
        · rw [decide_eq_false (show ¬ ((p.valid) ∧ (s.valid) ∧ (p.w = s.w) ∧ (p.h = s.h)) from fun hh => h3 (hh.2.2.2))]
          exact alike_3 p s a b c d n m w hn hm nc mc r q h0 h1 h2 h3
      · rw [decide_eq_false (show ¬ ((p.valid) ∧ (s.valid) ∧ (p.w = s.w) ∧ (p.h = s.h)) from fun hh => h2 (hh.2.2.1))]
        exact alike_2 p s a b c d n m w hn hm nc mc r q h0 h1 h2
    · rw [decide_eq_false (show ¬ ((p.valid) ∧ (s.valid) ∧ (p.w = s.w) ∧ (p.h = s.h)) from fun hh => h1 (hh.2.1))]
      exact alike_1 p s a b c d n m w hn hm nc mc r q h0 h1
  · rw [decide_eq_false (show ¬ ((p.valid) ∧ (s.valid) ∧ (p.w = s.w) ∧ (p.h = s.h)) from fun hh => h0 (hh.1))]
    exact alike_0 p s a b c d n m w hn hm nc mc r q h0
set_option maxRecDepth 100000 in
theorem l1Same_0 (p s : Pic) (a b : Option Addr) (c d n m : Nat) (w : World) (hn : n = p.px.length) (hm : m = s.px.length) (nc : n ≤ 9223372036854775807) (mc : m ≤ 9223372036854775807) (r : Sl w a n (p.px.map (Value.int .i64))) (q : Sl w b m (s.px.map (Value.int .i64)))  (h0 : ¬ (p.valid)) :
    Calls Tryd.prog 48 #[.agg #[.int .i64 p.w, .int .i64 p.h, .slice a n c], .agg #[.int .i64 s.w, .int .i64 s.h, .slice b m d]] w fun e w' => e = .returned (.bool false) ∧ Ext w w' := by
  have HN := Lib.hid hn
  have HM := Lib.hid hm
  clear hn hm
  have D0 := Lib.hid (show decide (p.valid) = false from decide_eq_false h0)
  have a0_1 := Ext.alloc (w.alloc (.cells #[.int .i64 p.w, .int .i64 p.h, .slice a n c] 25)) (.cells #[.int .i64 s.w, .int .i64 s.h, .slice b m d] 25)
  have X0_0 := a0_1.blk (blk_new w (.cells #[.int .i64 p.w, .int .i64 p.h, .slice a n c] 25))
  have X1_0 := blk_new (w.alloc (.cells #[.int .i64 p.w, .int .i64 p.h, .slice a n c] 25)) (.cells #[.int .i64 s.w, .int .i64 s.h, .slice b m d] 25)
  have E_0 := (Ext.alloc w (.cells #[.int .i64 p.w, .int .i64 p.h, .slice a n c] 25)).trans (Ext.alloc (w.alloc (.cells #[.int .i64 p.w, .int .i64 p.h, .slice a n c] 25)) (.cells #[.int .i64 s.w, .int .i64 s.h, .slice b m d] 25))
  simp only [World.size_alloc] at X1_0
  clear a0_1
  clear h0
  obtain ⟨-, k0_0, k0_1, k0_2, -⟩ := bx3 X0_0
  obtain ⟨-, k1_0, k1_1, k1_2, -⟩ := bx3 X1_0
  go_enter Tryd.func48, Tryd.ntmps48
  go_wp2_with fail
  refine (spec_PictureValid_any p a c n _ HN.out nc (r.ext E_0)).mono ?_
  rw [D0.out]
  rintro e w_1 ⟨rfl, e_1⟩
  have X0_1 := e_1.blk X0_0
  have X1_1 := e_1.blk X1_0
  have E_1 := E_0.trans e_1
  clear k0_0 k0_1 k0_2 X0_0 k1_0 k1_1 k1_2 X1_0 E_0
  clear e_1
  obtain ⟨-, k0_0, k0_1, k0_2, -⟩ := bx3 X0_1
  obtain ⟨-, k1_0, k1_1, k1_2, -⟩ := bx3 X1_1
  go_wp2
  go_ret
  exact ⟨rfl, E_1⟩
set_option maxRecDepth 100000 in
theorem l1Same_1 (p s : Pic) (a b : Option Addr) (c d n m : Nat) (w : World) (hn : n = p.px.length) (hm : m = s.px.length) (nc : n ≤ 9223372036854775807) (mc : m ≤ 9223372036854775807) (r : Sl w a n (p.px.map (Value.int .i64))) (q : Sl w b m (s.px.map (Value.int .i64))) (h0 : p.valid) (h1 : ¬ (s.valid)) :
    Calls Tryd.prog 48 #[.agg #[.int .i64 p.w, .int .i64 p.h, .slice a n c], .agg #[.int .i64 s.w, .int .i64 s.h, .slice b m d]] w fun e w' => e = .returned (.bool false) ∧ Ext w w' := by
  have HN := Lib.hid hn
  have HM := Lib.hid hm
  clear hn hm
  have D0 := Lib.hid (show decide (p.valid) = true from decide_eq_true h0)
  have D1 := Lib.hid (show decide (s.valid) = false from decide_eq_false h1)
  have a0_1 := Ext.alloc (w.alloc (.cells #[.int .i64 p.w, .int .i64 p.h, .slice a n c] 25)) (.cells #[.int .i64 s.w, .int .i64 s.h, .slice b m d] 25)
  have X0_0 := a0_1.blk (blk_new w (.cells #[.int .i64 p.w, .int .i64 p.h, .slice a n c] 25))
  have X1_0 := blk_new (w.alloc (.cells #[.int .i64 p.w, .int .i64 p.h, .slice a n c] 25)) (.cells #[.int .i64 s.w, .int .i64 s.h, .slice b m d] 25)
  have E_0 := (Ext.alloc w (.cells #[.int .i64 p.w, .int .i64 p.h, .slice a n c] 25)).trans (Ext.alloc (w.alloc (.cells #[.int .i64 p.w, .int .i64 p.h, .slice a n c] 25)) (.cells #[.int .i64 s.w, .int .i64 s.h, .slice b m d] 25))
  simp only [World.size_alloc] at X1_0
  clear a0_1
  clear h0 h1
  obtain ⟨-, k0_0, k0_1, k0_2, -⟩ := bx3 X0_0
  obtain ⟨-, k1_0, k1_1, k1_2, -⟩ := bx3 X1_0
  go_enter Tryd.func48, Tryd.ntmps48
  go_wp2_with fail
  refine (spec_PictureValid_any p a c n _ HN.out nc (r.ext E_0)).mono ?_
  rw [D0.out]
  rintro e w_1 ⟨rfl, e_1⟩
  have X0_1 := e_1.blk X0_0
  have X1_1 := e_1.blk X1_0
  have E_1 := E_0.trans e_1
  clear k0_0 k0_1 k0_2 X0_0 k1_0 k1_1 k1_2 X1_0 E_0
  clear e_1
  obtain ⟨-, k0_0, k0_1, k0_2, -⟩ := bx3 X0_1
  obtain ⟨-, k1_0, k1_1, k1_2, -⟩ := bx3 X1_1
  go_wp2_with fail
  refine (spec_PictureValid_any s b d m _ HM.out mc (q.ext E_1)).mono ?_
  rw [D1.out]
  rintro e w_2 ⟨rfl, e_2⟩
  have X0_2 := e_2.blk X0_1
  have X1_2 := e_2.blk X1_1
  have E_2 := E_1.trans e_2
  clear k0_0 k0_1 k0_2 X0_1 k1_0 k1_1 k1_2 X1_1 E_1
  clear e_2
  obtain ⟨-, k0_0, k0_1, k0_2, -⟩ := bx3 X0_2
  obtain ⟨-, k1_0, k1_1, k1_2, -⟩ := bx3 X1_2
  go_wp2
  go_ret
  exact ⟨rfl, E_2⟩
set_option maxRecDepth 100000 in
theorem l1Same_2 (p s : Pic) (a b : Option Addr) (c d n m : Nat) (w : World) (hn : n = p.px.length) (hm : m = s.px.length) (nc : n ≤ 9223372036854775807) (mc : m ≤ 9223372036854775807) (r : Sl w a n (p.px.map (Value.int .i64))) (q : Sl w b m (s.px.map (Value.int .i64))) (h0 : p.valid) (h1 : s.valid) (h2 : ¬ (p.w = s.w)) :
    Calls Tryd.prog 48 #[.agg #[.int .i64 p.w, .int .i64 p.h, .slice a n c], .agg #[.int .i64 s.w, .int .i64 s.h, .slice b m d]] w fun e w' => e = .returned (.bool false) ∧ Ext w w' := by
  have HN := Lib.hid hn
  have HM := Lib.hid hm
  clear hn hm
  have D0 := Lib.hid (show decide (p.valid) = true from decide_eq_true h0)
  have D1 := Lib.hid (show decide (s.valid) = true from decide_eq_true h1)
  have dw : (p.w == s.w) = false := by simpa using h2
  have a0_1 := Ext.alloc (w.alloc (.cells #[.int .i64 p.w, .int .i64 p.h, .slice a n c] 25)) (.cells #[.int .i64 s.w, .int .i64 s.h, .slice b m d] 25)
  have X0_0 := a0_1.blk (blk_new w (.cells #[.int .i64 p.w, .int .i64 p.h, .slice a n c] 25))
  have X1_0 := blk_new (w.alloc (.cells #[.int .i64 p.w, .int .i64 p.h, .slice a n c] 25)) (.cells #[.int .i64 s.w, .int .i64 s.h, .slice b m d] 25)
  have E_0 := (Ext.alloc w (.cells #[.int .i64 p.w, .int .i64 p.h, .slice a n c] 25)).trans (Ext.alloc (w.alloc (.cells #[.int .i64 p.w, .int .i64 p.h, .slice a n c] 25)) (.cells #[.int .i64 s.w, .int .i64 s.h, .slice b m d] 25))
  simp only [World.size_alloc] at X1_0
  clear a0_1
  clear h0 h1 h2
  obtain ⟨-, k0_0, k0_1, k0_2, -⟩ := bx3 X0_0
  obtain ⟨-, k1_0, k1_1, k1_2, -⟩ := bx3 X1_0
  go_enter Tryd.func48, Tryd.ntmps48
  go_wp2_with fail
  refine (spec_PictureValid_any p a c n _ HN.out nc (r.ext E_0)).mono ?_
  rw [D0.out]
  rintro e w_1 ⟨rfl, e_1⟩
  have X0_1 := e_1.blk X0_0
  have X1_1 := e_1.blk X1_0
  have E_1 := E_0.trans e_1
  clear k0_0 k0_1 k0_2 X0_0 k1_0 k1_1 k1_2 X1_0 E_0
  clear e_1
  obtain ⟨-, k0_0, k0_1, k0_2, -⟩ := bx3 X0_1
  obtain ⟨-, k1_0, k1_1, k1_2, -⟩ := bx3 X1_1
  go_wp2_with fail
  refine (spec_PictureValid_any s b d m _ HM.out mc (q.ext E_1)).mono ?_
  rw [D1.out]
  rintro e w_2 ⟨rfl, e_2⟩
  have X0_2 := e_2.blk X0_1
  have X1_2 := e_2.blk X1_1
  have E_2 := E_1.trans e_2
  clear k0_0 k0_1 k0_2 X0_1 k1_0 k1_1 k1_2 X1_1 E_1
  clear e_2
  obtain ⟨-, k0_0, k0_1, k0_2, -⟩ := bx3 X0_2
  obtain ⟨-, k1_0, k1_1, k1_2, -⟩ := bx3 X1_2
  go_wp2
  go_ret
  exact ⟨rfl, E_2⟩
set_option maxRecDepth 100000 in
theorem l1Same_3 (p s : Pic) (a b : Option Addr) (c d n m : Nat) (w : World) (hn : n = p.px.length) (hm : m = s.px.length) (nc : n ≤ 9223372036854775807) (mc : m ≤ 9223372036854775807) (r : Sl w a n (p.px.map (Value.int .i64))) (q : Sl w b m (s.px.map (Value.int .i64))) (h0 : p.valid) (h1 : s.valid) (h2 : p.w = s.w) (h3 : ¬ (p.h = s.h)) :
    Calls Tryd.prog 48 #[.agg #[.int .i64 p.w, .int .i64 p.h, .slice a n c], .agg #[.int .i64 s.w, .int .i64 s.h, .slice b m d]] w fun e w' => e = .returned (.bool false) ∧ Ext w w' := by
  have HN := Lib.hid hn
  have HM := Lib.hid hm
  clear hn hm
  have D0 := Lib.hid (show decide (p.valid) = true from decide_eq_true h0)
  have D1 := Lib.hid (show decide (s.valid) = true from decide_eq_true h1)
  have dw : (p.w == s.w) = true := by simpa using h2
  have dh : (p.h == s.h) = false := by simpa using h3
  have a0_1 := Ext.alloc (w.alloc (.cells #[.int .i64 p.w, .int .i64 p.h, .slice a n c] 25)) (.cells #[.int .i64 s.w, .int .i64 s.h, .slice b m d] 25)
  have X0_0 := a0_1.blk (blk_new w (.cells #[.int .i64 p.w, .int .i64 p.h, .slice a n c] 25))
  have X1_0 := blk_new (w.alloc (.cells #[.int .i64 p.w, .int .i64 p.h, .slice a n c] 25)) (.cells #[.int .i64 s.w, .int .i64 s.h, .slice b m d] 25)
  have E_0 := (Ext.alloc w (.cells #[.int .i64 p.w, .int .i64 p.h, .slice a n c] 25)).trans (Ext.alloc (w.alloc (.cells #[.int .i64 p.w, .int .i64 p.h, .slice a n c] 25)) (.cells #[.int .i64 s.w, .int .i64 s.h, .slice b m d] 25))
  simp only [World.size_alloc] at X1_0
  clear a0_1
  clear h0 h1 h2 h3
  obtain ⟨-, k0_0, k0_1, k0_2, -⟩ := bx3 X0_0
  obtain ⟨-, k1_0, k1_1, k1_2, -⟩ := bx3 X1_0
  go_enter Tryd.func48, Tryd.ntmps48
  go_wp2_with fail
  refine (spec_PictureValid_any p a c n _ HN.out nc (r.ext E_0)).mono ?_
  rw [D0.out]
  rintro e w_1 ⟨rfl, e_1⟩
  have X0_1 := e_1.blk X0_0
  have X1_1 := e_1.blk X1_0
  have E_1 := E_0.trans e_1
  clear k0_0 k0_1 k0_2 X0_0 k1_0 k1_1 k1_2 X1_0 E_0
  clear e_1
  obtain ⟨-, k0_0, k0_1, k0_2, -⟩ := bx3 X0_1
  obtain ⟨-, k1_0, k1_1, k1_2, -⟩ := bx3 X1_1
  go_wp2_with fail
  refine (spec_PictureValid_any s b d m _ HM.out mc (q.ext E_1)).mono ?_
  rw [D1.out]
  rintro e w_2 ⟨rfl, e_2⟩
  have X0_2 := e_2.blk X0_1
  have X1_2 := e_2.blk X1_1
  have E_2 := E_1.trans e_2
  clear k0_0 k0_1 k0_2 X0_1 k1_0 k1_1 k1_2 X1_1 E_1
  clear e_2
  obtain ⟨-, k0_0, k0_1, k0_2, -⟩ := bx3 X0_2
  obtain ⟨-, k1_0, k1_1, k1_2, -⟩ := bx3 X1_2
  go_wp2
  go_ret
  exact ⟨rfl, E_2⟩
set_option maxRecDepth 100000 in
theorem l1Same_4 (p s : Pic) (a b : Option Addr) (c d n m : Nat) (w : World) (hn : n = p.px.length) (hm : m = s.px.length) (nc : n ≤ 9223372036854775807) (mc : m ≤ 9223372036854775807) (r : Sl w a n (p.px.map (Value.int .i64))) (q : Sl w b m (s.px.map (Value.int .i64))) (h0 : p.valid) (h1 : s.valid) (h2 : p.w = s.w) (h3 : p.h = s.h) :
    Calls Tryd.prog 48 #[.agg #[.int .i64 p.w, .int .i64 p.h, .slice a n c], .agg #[.int .i64 s.w, .int .i64 s.h, .slice b m d]] w fun e w' => e = .returned (.bool true) ∧ Ext w w' := by
  have HN := Lib.hid hn
  have HM := Lib.hid hm
  clear hn hm
  have D0 := Lib.hid (show decide (p.valid) = true from decide_eq_true h0)
  have D1 := Lib.hid (show decide (s.valid) = true from decide_eq_true h1)
  have dw : (p.w == s.w) = true := by simpa using h2
  have dh : (p.h == s.h) = true := by simpa using h3
  have a0_1 := Ext.alloc (w.alloc (.cells #[.int .i64 p.w, .int .i64 p.h, .slice a n c] 25)) (.cells #[.int .i64 s.w, .int .i64 s.h, .slice b m d] 25)
  have X0_0 := a0_1.blk (blk_new w (.cells #[.int .i64 p.w, .int .i64 p.h, .slice a n c] 25))
  have X1_0 := blk_new (w.alloc (.cells #[.int .i64 p.w, .int .i64 p.h, .slice a n c] 25)) (.cells #[.int .i64 s.w, .int .i64 s.h, .slice b m d] 25)
  have E_0 := (Ext.alloc w (.cells #[.int .i64 p.w, .int .i64 p.h, .slice a n c] 25)).trans (Ext.alloc (w.alloc (.cells #[.int .i64 p.w, .int .i64 p.h, .slice a n c] 25)) (.cells #[.int .i64 s.w, .int .i64 s.h, .slice b m d] 25))
  simp only [World.size_alloc] at X1_0
  clear a0_1
  clear h0 h1 h2 h3
  obtain ⟨-, k0_0, k0_1, k0_2, -⟩ := bx3 X0_0
  obtain ⟨-, k1_0, k1_1, k1_2, -⟩ := bx3 X1_0
  go_enter Tryd.func48, Tryd.ntmps48
  go_wp2_with fail
  refine (spec_PictureValid_any p a c n _ HN.out nc (r.ext E_0)).mono ?_
  rw [D0.out]
  rintro e w_1 ⟨rfl, e_1⟩
  have X0_1 := e_1.blk X0_0
  have X1_1 := e_1.blk X1_0
  have E_1 := E_0.trans e_1
  clear k0_0 k0_1 k0_2 X0_0 k1_0 k1_1 k1_2 X1_0 E_0
  clear e_1
  obtain ⟨-, k0_0, k0_1, k0_2, -⟩ := bx3 X0_1
  obtain ⟨-, k1_0, k1_1, k1_2, -⟩ := bx3 X1_1
  go_wp2_with fail
  refine (spec_PictureValid_any s b d m _ HM.out mc (q.ext E_1)).mono ?_
  rw [D1.out]
  rintro e w_2 ⟨rfl, e_2⟩
  have X0_2 := e_2.blk X0_1
  have X1_2 := e_2.blk X1_1
  have E_2 := E_1.trans e_2
  clear k0_0 k0_1 k0_2 X0_1 k1_0 k1_1 k1_2 X1_1 E_1
  clear e_2
  obtain ⟨-, k0_0, k0_1, k0_2, -⟩ := bx3 X0_2
  obtain ⟨-, k1_0, k1_1, k1_2, -⟩ := bx3 X1_2
  go_wp2
  go_ret
  exact ⟨rfl, E_2⟩
theorem l1Same_any (p s : Pic) (a b : Option Addr) (c d n m : Nat) (w : World) (hn : n = p.px.length) (hm : m = s.px.length) (nc : n ≤ 9223372036854775807) (mc : m ≤ 9223372036854775807) (r : Sl w a n (p.px.map (Value.int .i64))) (q : Sl w b m (s.px.map (Value.int .i64))) :
    Calls Tryd.prog 48 #[.agg #[.int .i64 p.w, .int .i64 p.h, .slice a n c], .agg #[.int .i64 s.w, .int .i64 s.h, .slice b m d]] w fun e w' => e = .returned (.bool (decide ((p.valid) ∧ (s.valid) ∧ (p.w = s.w) ∧ (p.h = s.h)))) ∧ Ext w w' := by
  by_cases h0 : p.valid
  · skip
    by_cases h1 : s.valid
    · skip
      by_cases h2 : p.w = s.w
      · skip
        by_cases h3 : p.h = s.h
        · rw [decide_eq_true (show (p.valid) ∧ (s.valid) ∧ (p.w = s.w) ∧ (p.h = s.h) from ⟨h0, h1, h2, h3⟩)]
          exact l1Same_4 p s a b c d n m w hn hm nc mc r q h0 h1 h2 h3
        · rw [decide_eq_false (show ¬ ((p.valid) ∧ (s.valid) ∧ (p.w = s.w) ∧ (p.h = s.h)) from fun hh => h3 (hh.2.2.2))]
          exact l1Same_3 p s a b c d n m w hn hm nc mc r q h0 h1 h2 h3
      · rw [decide_eq_false (show ¬ ((p.valid) ∧ (s.valid) ∧ (p.w = s.w) ∧ (p.h = s.h)) from fun hh => h2 (hh.2.2.1))]
        exact l1Same_2 p s a b c d n m w hn hm nc mc r q h0 h1 h2
    · rw [decide_eq_false (show ¬ ((p.valid) ∧ (s.valid) ∧ (p.w = s.w) ∧ (p.h = s.h)) from fun hh => h1 (hh.2.1))]
      exact l1Same_1 p s a b c d n m w hn hm nc mc r q h0 h1
  · rw [decide_eq_false (show ¬ ((p.valid) ∧ (s.valid) ∧ (p.w = s.w) ∧ (p.h = s.h)) from fun hh => h0 (hh.1))]
    exact l1Same_0 p s a b c d n m w hn hm nc mc r q h0
set_option maxRecDepth 100000 in
theorem begins_0 (p : Pic) (x y : Int) (a : Option Addr) (c n : Nat) (w : World)  (h0 : ¬ (0 ≤ x)) :
    Calls Tryd.prog 39 #[.agg #[.int .i64 p.w, .int .i64 p.h, .slice a n c], .int .i64 x, .int .i64 y] w fun e w' => e = .returned (.bool false) ∧ Ext w w' := by
  have f0 : decide (0 ≤ x) = false := by simpa using h0
  have X0_0 := blk_new w (.cells #[.int .i64 p.w, .int .i64 p.h, .slice a n c] 25)
  have E_0 := Ext.alloc w (.cells #[.int .i64 p.w, .int .i64 p.h, .slice a n c] 25)
  obtain ⟨-, k0_0, k0_1, k0_2, -⟩ := bx3 X0_0
  go_enter Tryd.func39, Tryd.ntmps39
  go_wp2
  go_ret
  exact ⟨rfl, E_0⟩
set_option maxRecDepth 100000 in
theorem begins_1 (p : Pic) (x y : Int) (a : Option Addr) (c n : Nat) (w : World) (h0 : 0 ≤ x) (h1 : ¬ (x < p.w)) :
    Calls Tryd.prog 39 #[.agg #[.int .i64 p.w, .int .i64 p.h, .slice a n c], .int .i64 x, .int .i64 y] w fun e w' => e = .returned (.bool false) ∧ Ext w w' := by
  have f0 : decide (0 ≤ x) = true := by simpa using h0
  have f1 : decide (x < p.w) = false := by simpa using h1
  have X0_0 := blk_new w (.cells #[.int .i64 p.w, .int .i64 p.h, .slice a n c] 25)
  have E_0 := Ext.alloc w (.cells #[.int .i64 p.w, .int .i64 p.h, .slice a n c] 25)
  clear h1
  obtain ⟨-, k0_0, k0_1, k0_2, -⟩ := bx3 X0_0
  go_enter Tryd.func39, Tryd.ntmps39
  go_wp2
  go_ret
  exact ⟨rfl, E_0⟩
set_option maxRecDepth 100000 in
theorem begins_2 (p : Pic) (x y : Int) (a : Option Addr) (c n : Nat) (w : World) (h0 : 0 ≤ x) (h1 : x < p.w) (h2 : ¬ (x % 8 = 0)) :
    Calls Tryd.prog 39 #[.agg #[.int .i64 p.w, .int .i64 p.h, .slice a n c], .int .i64 x, .int .i64 y] w fun e w' => e = .returned (.bool false) ∧ Ext w w' := by
  have f0 : decide (0 ≤ x) = true := by simpa using h0
  have f1 : decide (x < p.w) = true := by simpa using h1
  have f2 : (x % 8 == 0) = false := by simpa using h2
  have X0_0 := blk_new w (.cells #[.int .i64 p.w, .int .i64 p.h, .slice a n c] 25)
  have E_0 := Ext.alloc w (.cells #[.int .i64 p.w, .int .i64 p.h, .slice a n c] 25)
  clear h1 h2
  obtain ⟨-, k0_0, k0_1, k0_2, -⟩ := bx3 X0_0
  go_enter Tryd.func39, Tryd.ntmps39
  go_wp2
  go_ret
  exact ⟨rfl, E_0⟩
set_option maxRecDepth 100000 in
theorem begins_3 (p : Pic) (x y : Int) (a : Option Addr) (c n : Nat) (w : World) (h0 : 0 ≤ x) (h1 : x < p.w) (h2 : x % 8 = 0) (h3 : ¬ (0 ≤ y)) :
    Calls Tryd.prog 39 #[.agg #[.int .i64 p.w, .int .i64 p.h, .slice a n c], .int .i64 x, .int .i64 y] w fun e w' => e = .returned (.bool false) ∧ Ext w w' := by
  have f0 : decide (0 ≤ x) = true := by simpa using h0
  have f1 : decide (x < p.w) = true := by simpa using h1
  have f2 : (x % 8 == 0) = true := by simpa using h2
  have f3 : decide (0 ≤ y) = false := by simpa using h3
  have X0_0 := blk_new w (.cells #[.int .i64 p.w, .int .i64 p.h, .slice a n c] 25)
  have E_0 := Ext.alloc w (.cells #[.int .i64 p.w, .int .i64 p.h, .slice a n c] 25)
  clear h1 h2
  obtain ⟨-, k0_0, k0_1, k0_2, -⟩ := bx3 X0_0
  go_enter Tryd.func39, Tryd.ntmps39
  go_wp2
  go_ret
  exact ⟨rfl, E_0⟩
set_option maxRecDepth 100000 in
theorem begins_4 (p : Pic) (x y : Int) (a : Option Addr) (c n : Nat) (w : World) (h0 : 0 ≤ x) (h1 : x < p.w) (h2 : x % 8 = 0) (h3 : 0 ≤ y) (h4 : ¬ (y < p.h)) :
    Calls Tryd.prog 39 #[.agg #[.int .i64 p.w, .int .i64 p.h, .slice a n c], .int .i64 x, .int .i64 y] w fun e w' => e = .returned (.bool false) ∧ Ext w w' := by
  have f0 : decide (0 ≤ x) = true := by simpa using h0
  have f1 : decide (x < p.w) = true := by simpa using h1
  have f2 : (x % 8 == 0) = true := by simpa using h2
  have f3 : decide (0 ≤ y) = true := by simpa using h3
  have f4 : decide (y < p.h) = false := by simpa using h4
  have X0_0 := blk_new w (.cells #[.int .i64 p.w, .int .i64 p.h, .slice a n c] 25)
  have E_0 := Ext.alloc w (.cells #[.int .i64 p.w, .int .i64 p.h, .slice a n c] 25)
  clear h1 h2 h4
  obtain ⟨-, k0_0, k0_1, k0_2, -⟩ := bx3 X0_0
  go_enter Tryd.func39, Tryd.ntmps39
  go_wp2
  go_ret
  exact ⟨rfl, E_0⟩
set_option maxRecDepth 100000 in
theorem begins_5 (p : Pic) (x y : Int) (a : Option Addr) (c n : Nat) (w : World) (h0 : 0 ≤ x) (h1 : x < p.w) (h2 : x % 8 = 0) (h3 : 0 ≤ y) (h4 : y < p.h) (h5 : ¬ (y % 8 = 0)) :
    Calls Tryd.prog 39 #[.agg #[.int .i64 p.w, .int .i64 p.h, .slice a n c], .int .i64 x, .int .i64 y] w fun e w' => e = .returned (.bool false) ∧ Ext w w' := by
  have f0 : decide (0 ≤ x) = true := by simpa using h0
  have f1 : decide (x < p.w) = true := by simpa using h1
  have f2 : (x % 8 == 0) = true := by simpa using h2
  have f3 : decide (0 ≤ y) = true := by simpa using h3
  have f4 : decide (y < p.h) = true := by simpa using h4
  have f5 : (y % 8 == 0) = false := by simpa using h5
  have X0_0 := blk_new w (.cells #[.int .i64 p.w, .int .i64 p.h, .slice a n c] 25)
  have E_0 := Ext.alloc w (.cells #[.int .i64 p.w, .int .i64 p.h, .slice a n c] 25)
  clear h1 h2 h4 h5
  obtain ⟨-, k0_0, k0_1, k0_2, -⟩ := bx3 X0_0
  go_enter Tryd.func39, Tryd.ntmps39
  go_wp2
  go_ret
  exact ⟨rfl, E_0⟩
set_option maxRecDepth 100000 in
theorem begins_6 (p : Pic) (x y : Int) (a : Option Addr) (c n : Nat) (w : World) (h0 : 0 ≤ x) (h1 : x < p.w) (h2 : x % 8 = 0) (h3 : 0 ≤ y) (h4 : y < p.h) (h5 : y % 8 = 0) :
    Calls Tryd.prog 39 #[.agg #[.int .i64 p.w, .int .i64 p.h, .slice a n c], .int .i64 x, .int .i64 y] w fun e w' => e = .returned (.bool true) ∧ Ext w w' := by
  have f0 : decide (0 ≤ x) = true := by simpa using h0
  have f1 : decide (x < p.w) = true := by simpa using h1
  have f2 : (x % 8 == 0) = true := by simpa using h2
  have f3 : decide (0 ≤ y) = true := by simpa using h3
  have f4 : decide (y < p.h) = true := by simpa using h4
  have f5 : (y % 8 == 0) = true := by simpa using h5
  have X0_0 := blk_new w (.cells #[.int .i64 p.w, .int .i64 p.h, .slice a n c] 25)
  have E_0 := Ext.alloc w (.cells #[.int .i64 p.w, .int .i64 p.h, .slice a n c] 25)
  clear h1 h2 h4 h5
  obtain ⟨-, k0_0, k0_1, k0_2, -⟩ := bx3 X0_0
  go_enter Tryd.func39, Tryd.ntmps39
  go_wp2
  go_ret
  exact ⟨rfl, E_0⟩
theorem begins_any (p : Pic) (x y : Int) (a : Option Addr) (c n : Nat) (w : World) :
    Calls Tryd.prog 39 #[.agg #[.int .i64 p.w, .int .i64 p.h, .slice a n c], .int .i64 x, .int .i64 y] w fun e w' => e = .returned (.bool (decide ((0 ≤ x) ∧ (x < p.w) ∧ (x % 8 = 0) ∧ (0 ≤ y) ∧ (y < p.h) ∧ (y % 8 = 0)))) ∧ Ext w w' := by
  by_cases h0 : 0 ≤ x
  · skip
    by_cases h1 : x < p.w
    · skip
      by_cases h2 : x % 8 = 0
      · skip
        by_cases h3 : 0 ≤ y
        · skip
          by_cases h4 : y < p.h
          · skip
            by_cases h5 : y % 8 = 0
            · rw [decide_eq_true (show (0 ≤ x) ∧ (x < p.w) ∧ (x % 8 = 0) ∧ (0 ≤ y) ∧ (y < p.h) ∧ (y % 8 = 0) from ⟨h0, h1, h2, h3, h4, h5⟩)]
              exact begins_6 p x y a c n w h0 h1 h2 h3 h4 h5
            · rw [decide_eq_false (show ¬ ((0 ≤ x) ∧ (x < p.w) ∧ (x % 8 = 0) ∧ (0 ≤ y) ∧ (y < p.h) ∧ (y % 8 = 0)) from fun hh => h5 (hh.2.2.2.2.2))]
              exact begins_5 p x y a c n w h0 h1 h2 h3 h4 h5
          · rw [decide_eq_false (show ¬ ((0 ≤ x) ∧ (x < p.w) ∧ (x % 8 = 0) ∧ (0 ≤ y) ∧ (y < p.h) ∧ (y % 8 = 0)) from fun hh => h4 (hh.2.2.2.2.1))]
            exact begins_4 p x y a c n w h0 h1 h2 h3 h4
        · rw [decide_eq_false (show ¬ ((0 ≤ x) ∧ (x < p.w) ∧ (x % 8 = 0) ∧ (0 ≤ y) ∧ (y < p.h) ∧ (y % 8 = 0)) from fun hh => h3 (hh.2.2.2.1))]
          exact begins_3 p x y a c n w h0 h1 h2 h3
      · rw [decide_eq_false (show ¬ ((0 ≤ x) ∧ (x < p.w) ∧ (x % 8 = 0) ∧ (0 ≤ y) ∧ (y < p.h) ∧ (y % 8 = 0)) from fun hh => h2 (hh.2.2.1))]
        exact begins_2 p x y a c n w h0 h1 h2
    · rw [decide_eq_false (show ¬ ((0 ≤ x) ∧ (x < p.w) ∧ (x % 8 = 0) ∧ (0 ≤ y) ∧ (y < p.h) ∧ (y % 8 = 0)) from fun hh => h1 (hh.2.1))]
      exact begins_1 p x y a c n w h0 h1
  · rw [decide_eq_false (show ¬ ((0 ≤ x) ∧ (x < p.w) ∧ (x % 8 = 0) ∧ (0 ≤ y) ∧ (y < p.h) ∧ (y % 8 = 0)) from fun hh => h0 (hh.1))]
    exact begins_0 p x y a c n w h0
set_option maxRecDepth 100000 in
theorem l7Place_0 (p : Pic) (x y : Int) (a : Option Addr) (c n : Nat) (w : World) (hn : n = p.px.length) (nc : n ≤ 9223372036854775807) (r : Sl w a n (p.px.map (Value.int .i64)))  (h0 : ¬ (p.valid)) :
    Calls Tryd.prog 49 #[.agg #[.int .i64 p.w, .int .i64 p.h, .slice a n c], .int .i64 x, .int .i64 y] w fun e w' => e = .returned (.bool false) ∧ Ext w w' := by
  have HN := Lib.hid hn
  clear hn
  have D0 := Lib.hid (show decide (p.valid) = false from decide_eq_false h0)
  have X0_0 := blk_new w (.cells #[.int .i64 p.w, .int .i64 p.h, .slice a n c] 25)
  have E_0 := Ext.alloc w (.cells #[.int .i64 p.w, .int .i64 p.h, .slice a n c] 25)
  clear h0
  obtain ⟨-, k0_0, k0_1, k0_2, -⟩ := bx3 X0_0
  go_enter Tryd.func49, Tryd.ntmps49
  go_wp2_with fail
  refine (spec_PictureValid_any p a c n _ HN.out nc (r.ext E_0)).mono ?_
  rw [D0.out]
  rintro e w_1 ⟨rfl, e_1⟩
  have X0_1 := e_1.blk X0_0
  have E_1 := E_0.trans e_1
  clear k0_0 k0_1 k0_2 X0_0 E_0
  clear e_1
  obtain ⟨-, k0_0, k0_1, k0_2, -⟩ := bx3 X0_1
  go_wp2
  go_ret
  exact ⟨rfl, E_1⟩
set_option maxRecDepth 100000 in
theorem l7Place_1 (p : Pic) (x y : Int) (a : Option Addr) (c n : Nat) (w : World) (hn : n = p.px.length) (nc : n ≤ 9223372036854775807) (r : Sl w a n (p.px.map (Value.int .i64))) (h0 : p.valid) (h1 : ¬ (0 ≤ x ∧ x ≤ p.w - 1)) :
    Calls Tryd.prog 49 #[.agg #[.int .i64 p.w, .int .i64 p.h, .slice a n c], .int .i64 x, .int .i64 y] w fun e w' => e = .returned (.bool false) ∧ Ext w w' := by
  have HN := Lib.hid hn
  clear hn
  have hs1 := h0.1.1
  have hs2 := h0.2.1.1
  have hs3 := h0.1.2.1
  have hs4 := h0.2.1.2.1
  have D0 := Lib.hid (show decide (p.valid) = true from decide_eq_true h0)
  have X0_0 := blk_new w (.cells #[.int .i64 p.w, .int .i64 p.h, .slice a n c] 25)
  have E_0 := Ext.alloc w (.cells #[.int .i64 p.w, .int .i64 p.h, .slice a n c] 25)
  clear h0
  obtain ⟨-, k0_0, k0_1, k0_2, -⟩ := bx3 X0_0
  go_enter Tryd.func49, Tryd.ntmps49
  go_wp2_with fail
  refine (spec_PictureValid_any p a c n _ HN.out nc (r.ext E_0)).mono ?_
  rw [D0.out]
  rintro e w_1 ⟨rfl, e_1⟩
  have X0_1 := e_1.blk X0_0
  have E_1 := E_0.trans e_1
  clear k0_0 k0_1 k0_2 X0_0 E_0
  clear e_1
  obtain ⟨-, k0_0, k0_1, k0_2, -⟩ := bx3 X0_1
  go_wp2_with fail
  refine (l1In_no _ _ _ _ (by omega)).mono ?_
  rintro e w_s1 ⟨rfl, rfl⟩
  go_wp2
  go_ret
  exact ⟨rfl, E_1⟩
set_option maxRecDepth 100000 in
theorem l7Place_2 (p : Pic) (x y : Int) (a : Option Addr) (c n : Nat) (w : World) (hn : n = p.px.length) (nc : n ≤ 9223372036854775807) (r : Sl w a n (p.px.map (Value.int .i64))) (h0 : p.valid) (h1 : 0 ≤ x ∧ x ≤ p.w - 1) (h2 : ¬ (0 ≤ y ∧ y ≤ p.h - 1)) :
    Calls Tryd.prog 49 #[.agg #[.int .i64 p.w, .int .i64 p.h, .slice a n c], .int .i64 x, .int .i64 y] w fun e w' => e = .returned (.bool false) ∧ Ext w w' := by
  have HN := Lib.hid hn
  clear hn
  have hs1 := h0.1.1
  have hs2 := h0.2.1.1
  have hs3 := h0.1.2.1
  have hs4 := h0.2.1.2.1
  have D0 := Lib.hid (show decide (p.valid) = true from decide_eq_true h0)
  have X0_0 := blk_new w (.cells #[.int .i64 p.w, .int .i64 p.h, .slice a n c] 25)
  have E_0 := Ext.alloc w (.cells #[.int .i64 p.w, .int .i64 p.h, .slice a n c] 25)
  clear h0
  obtain ⟨-, k0_0, k0_1, k0_2, -⟩ := bx3 X0_0
  go_enter Tryd.func49, Tryd.ntmps49
  go_wp2_with fail
  refine (spec_PictureValid_any p a c n _ HN.out nc (r.ext E_0)).mono ?_
  rw [D0.out]
  rintro e w_1 ⟨rfl, e_1⟩
  have X0_1 := e_1.blk X0_0
  have E_1 := E_0.trans e_1
  clear k0_0 k0_1 k0_2 X0_0 E_0
  clear e_1
  obtain ⟨-, k0_0, k0_1, k0_2, -⟩ := bx3 X0_1
  go_wp2_with fail
  refine (l1In_yes _ _ _ _ h1.1 h1.2).mono ?_
  rintro e w_s1 ⟨rfl, rfl⟩
  go_wp2_with fail
  refine (l1In_no _ _ _ _ (by omega)).mono ?_
  rintro e w_s2 ⟨rfl, rfl⟩
  go_wp2
  go_ret
  exact ⟨rfl, E_1⟩
set_option maxRecDepth 100000 in
theorem l7Place_3 (p : Pic) (x y : Int) (a : Option Addr) (c n : Nat) (w : World) (hn : n = p.px.length) (nc : n ≤ 9223372036854775807) (r : Sl w a n (p.px.map (Value.int .i64))) (h0 : p.valid) (h1 : 0 ≤ x ∧ x ≤ p.w - 1) (h2 : 0 ≤ y ∧ y ≤ p.h - 1) (h3 : ¬ (x % 8 = 0)) :
    Calls Tryd.prog 49 #[.agg #[.int .i64 p.w, .int .i64 p.h, .slice a n c], .int .i64 x, .int .i64 y] w fun e w' => e = .returned (.bool false) ∧ Ext w w' := by
  have HN := Lib.hid hn
  clear hn
  have hs1 := h0.1.1
  have hs2 := h0.2.1.1
  have hs3 := h0.1.2.1
  have hs4 := h0.2.1.2.1
  have D0 := Lib.hid (show decide (p.valid) = true from decide_eq_true h0)
  have f2 : (x % 8 == 0) = false := by simpa using h3
  have X0_0 := blk_new w (.cells #[.int .i64 p.w, .int .i64 p.h, .slice a n c] 25)
  have E_0 := Ext.alloc w (.cells #[.int .i64 p.w, .int .i64 p.h, .slice a n c] 25)
  clear h0 h3
  obtain ⟨-, k0_0, k0_1, k0_2, -⟩ := bx3 X0_0
  go_enter Tryd.func49, Tryd.ntmps49
  go_wp2_with fail
  refine (spec_PictureValid_any p a c n _ HN.out nc (r.ext E_0)).mono ?_
  rw [D0.out]
  rintro e w_1 ⟨rfl, e_1⟩
  have X0_1 := e_1.blk X0_0
  have E_1 := E_0.trans e_1
  clear k0_0 k0_1 k0_2 X0_0 E_0
  clear e_1
  obtain ⟨-, k0_0, k0_1, k0_2, -⟩ := bx3 X0_1
  go_wp2_with fail
  refine (l1In_yes _ _ _ _ h1.1 h1.2).mono ?_
  rintro e w_s1 ⟨rfl, rfl⟩
  go_wp2_with fail
  refine (l1In_yes _ _ _ _ h2.1 h2.2).mono ?_
  rintro e w_s2 ⟨rfl, rfl⟩
  go_wp2
  go_ret
  exact ⟨rfl, E_1⟩
set_option maxRecDepth 100000 in
theorem l7Place_4 (p : Pic) (x y : Int) (a : Option Addr) (c n : Nat) (w : World) (hn : n = p.px.length) (nc : n ≤ 9223372036854775807) (r : Sl w a n (p.px.map (Value.int .i64))) (h0 : p.valid) (h1 : 0 ≤ x ∧ x ≤ p.w - 1) (h2 : 0 ≤ y ∧ y ≤ p.h - 1) (h3 : x % 8 = 0) (h4 : ¬ (y % 8 = 0)) :
    Calls Tryd.prog 49 #[.agg #[.int .i64 p.w, .int .i64 p.h, .slice a n c], .int .i64 x, .int .i64 y] w fun e w' => e = .returned (.bool false) ∧ Ext w w' := by
  have HN := Lib.hid hn
  clear hn
  have hs1 := h0.1.1
  have hs2 := h0.2.1.1
  have hs3 := h0.1.2.1
  have hs4 := h0.2.1.2.1
  have D0 := Lib.hid (show decide (p.valid) = true from decide_eq_true h0)
  have f2 : (x % 8 == 0) = true := by simpa using h3
  have f5 : (y % 8 == 0) = false := by simpa using h4
  have X0_0 := blk_new w (.cells #[.int .i64 p.w, .int .i64 p.h, .slice a n c] 25)
  have E_0 := Ext.alloc w (.cells #[.int .i64 p.w, .int .i64 p.h, .slice a n c] 25)
  clear h0 h3 h4
  obtain ⟨-, k0_0, k0_1, k0_2, -⟩ := bx3 X0_0
  go_enter Tryd.func49, Tryd.ntmps49
  go_wp2_with fail
  refine (spec_PictureValid_any p a c n _ HN.out nc (r.ext E_0)).mono ?_
  rw [D0.out]
  rintro e w_1 ⟨rfl, e_1⟩
  have X0_1 := e_1.blk X0_0
  have E_1 := E_0.trans e_1
  clear k0_0 k0_1 k0_2 X0_0 E_0
  clear e_1
  obtain ⟨-, k0_0, k0_1, k0_2, -⟩ := bx3 X0_1
  go_wp2_with fail
  refine (l1In_yes _ _ _ _ h1.1 h1.2).mono ?_
  rintro e w_s1 ⟨rfl, rfl⟩
  go_wp2_with fail
  refine (l1In_yes _ _ _ _ h2.1 h2.2).mono ?_
  rintro e w_s2 ⟨rfl, rfl⟩
  go_wp2
  go_ret
  exact ⟨rfl, E_1⟩
set_option maxRecDepth 100000 in
theorem l7Place_5 (p : Pic) (x y : Int) (a : Option Addr) (c n : Nat) (w : World) (hn : n = p.px.length) (nc : n ≤ 9223372036854775807) (r : Sl w a n (p.px.map (Value.int .i64))) (h0 : p.valid) (h1 : 0 ≤ x ∧ x ≤ p.w - 1) (h2 : 0 ≤ y ∧ y ≤ p.h - 1) (h3 : x % 8 = 0) (h4 : y % 8 = 0) :
    Calls Tryd.prog 49 #[.agg #[.int .i64 p.w, .int .i64 p.h, .slice a n c], .int .i64 x, .int .i64 y] w fun e w' => e = .returned (.bool true) ∧ Ext w w' := by
  have HN := Lib.hid hn
  clear hn
  have hs1 := h0.1.1
  have hs2 := h0.2.1.1
  have hs3 := h0.1.2.1
  have hs4 := h0.2.1.2.1
  have D0 := Lib.hid (show decide (p.valid) = true from decide_eq_true h0)
  have f2 : (x % 8 == 0) = true := by simpa using h3
  have f5 : (y % 8 == 0) = true := by simpa using h4
  have X0_0 := blk_new w (.cells #[.int .i64 p.w, .int .i64 p.h, .slice a n c] 25)
  have E_0 := Ext.alloc w (.cells #[.int .i64 p.w, .int .i64 p.h, .slice a n c] 25)
  clear h0 h3 h4
  obtain ⟨-, k0_0, k0_1, k0_2, -⟩ := bx3 X0_0
  go_enter Tryd.func49, Tryd.ntmps49
  go_wp2_with fail
  refine (spec_PictureValid_any p a c n _ HN.out nc (r.ext E_0)).mono ?_
  rw [D0.out]
  rintro e w_1 ⟨rfl, e_1⟩
  have X0_1 := e_1.blk X0_0
  have E_1 := E_0.trans e_1
  clear k0_0 k0_1 k0_2 X0_0 E_0
  clear e_1
  obtain ⟨-, k0_0, k0_1, k0_2, -⟩ := bx3 X0_1
  go_wp2_with fail
  refine (l1In_yes _ _ _ _ h1.1 h1.2).mono ?_
  rintro e w_s1 ⟨rfl, rfl⟩
  go_wp2_with fail
  refine (l1In_yes _ _ _ _ h2.1 h2.2).mono ?_
  rintro e w_s2 ⟨rfl, rfl⟩
  go_wp2
  go_ret
  exact ⟨rfl, E_1⟩
theorem l7Place_any (p : Pic) (x y : Int) (a : Option Addr) (c n : Nat) (w : World) (hn : n = p.px.length) (nc : n ≤ 9223372036854775807) (r : Sl w a n (p.px.map (Value.int .i64))) :
    Calls Tryd.prog 49 #[.agg #[.int .i64 p.w, .int .i64 p.h, .slice a n c], .int .i64 x, .int .i64 y] w fun e w' => e = .returned (.bool (decide ((p.valid) ∧ (0 ≤ x ∧ x ≤ p.w - 1) ∧ (0 ≤ y ∧ y ≤ p.h - 1) ∧ (x % 8 = 0) ∧ (y % 8 = 0)))) ∧ Ext w w' := by
  by_cases h0 : p.valid
  · skip
    by_cases h1 : 0 ≤ x ∧ x ≤ p.w - 1
    · skip
      by_cases h2 : 0 ≤ y ∧ y ≤ p.h - 1
      · skip
        by_cases h3 : x % 8 = 0
        · skip
          by_cases h4 : y % 8 = 0
          · rw [decide_eq_true (show (p.valid) ∧ (0 ≤ x ∧ x ≤ p.w - 1) ∧ (0 ≤ y ∧ y ≤ p.h - 1) ∧ (x % 8 = 0) ∧ (y % 8 = 0) from ⟨h0, h1, h2, h3, h4⟩)]
            exact l7Place_5 p x y a c n w hn nc r h0 h1 h2 h3 h4
          · rw [decide_eq_false (show ¬ ((p.valid) ∧ (0 ≤ x ∧ x ≤ p.w - 1) ∧ (0 ≤ y ∧ y ≤ p.h - 1) ∧ (x % 8 = 0) ∧ (y % 8 = 0)) from fun hh => h4 (hh.2.2.2.2))]
            exact l7Place_4 p x y a c n w hn nc r h0 h1 h2 h3 h4
        · rw [decide_eq_false (show ¬ ((p.valid) ∧ (0 ≤ x ∧ x ≤ p.w - 1) ∧ (0 ≤ y ∧ y ≤ p.h - 1) ∧ (x % 8 = 0) ∧ (y % 8 = 0)) from fun hh => h3 (hh.2.2.2.1))]
          exact l7Place_3 p x y a c n w hn nc r h0 h1 h2 h3
      · rw [decide_eq_false (show ¬ ((p.valid) ∧ (0 ≤ x ∧ x ≤ p.w - 1) ∧ (0 ≤ y ∧ y ≤ p.h - 1) ∧ (x % 8 = 0) ∧ (y % 8 = 0)) from fun hh => h2 (hh.2.2.1))]
        exact l7Place_2 p x y a c n w hn nc r h0 h1 h2
    · rw [decide_eq_false (show ¬ ((p.valid) ∧ (0 ≤ x ∧ x ≤ p.w - 1) ∧ (0 ≤ y ∧ y ≤ p.h - 1) ∧ (x % 8 = 0) ∧ (y % 8 = 0)) from fun hh => h1 (hh.2.1))]
      exact l7Place_1 p x y a c n w hn nc r h0 h1
  · rw [decide_eq_false (show ¬ ((p.valid) ∧ (0 ≤ x ∧ x ≤ p.w - 1) ∧ (0 ≤ y ∧ y ≤ p.h - 1) ∧ (x % 8 = 0) ∧ (y % 8 = 0)) from fun hh => h0 (hh.1))]
    exact l7Place_0 p x y a c n w hn nc r h0
theorem partAt_any (k : Nat) (w : World) (hk : k < 4) :
    Calls Tryd.prog 43 #[.int .i64 (k : Nat)] w fun e w' => e = .returned (.tuple #[.int .i64 ((k % 2 * 4 : Nat) : Int), .int .i64 ((k / 2 * 4 : Nat) : Int)]) ∧ w = w' := by
  go_enter Tryd.func43, Tryd.ntmps43
  go_wp2
  go_ret2
  exact ⟨by congr 1, rfl⟩
end Go.Proofs.YtbnhaegidfbgbaaDoor
namespace Go.Proofs.YtbnhaegidfbgbaaDoor
open Go.RowKit
set_option maxHeartbeats 400000
end Go.Proofs.YtbnhaegidfbgbaaDoor
namespace Go.Proofs.YtbnhaegidfbgbaaDoor
open Go.RowKit
set_option maxHeartbeats 400000
end Go.Proofs.YtbnhaegidfbgbaaDoor
namespace Go.Proofs.YtbnhaegidfbgbaaDoor
open Go.RowKit
set_option maxHeartbeats 1000000
/-- A macroblock begins at a position. -/
def placeP (p : Pic) (x y : Int) : Prop := p.valid ∧ 0 ≤ x ∧ x < p.w ∧ x % 8 = 0 ∧ 0 ≤ y ∧ y < p.h ∧ y % 8 = 0
instance (p : Pic) (x y : Int) : Decidable (placeP p x y) := by unfold placeP; infer_instance
/-- Two valid pictures of one size. -/
def alikeP (p s : Pic) : Prop := p.valid ∧ s.valid ∧ p.w = s.w ∧ p.h = s.h
instance (p s : Pic) : Decidable (alikeP p s) := by unfold alikeP; infer_instance
/-- The arguments of Reconstruct are valid. -/
def okR (ref p : Pic) (x y : Int) (m : Mac) (q top : Int) : Prop := placeP p x y ∧ m.valid ∧ (0 ≤ q ∧ q ≤ 15) ∧ (0 ≤ top ∧ top ≤ y) ∧ (m.kind = 2 ∨ alikeP ref p)
noncomputable instance (ref p : Pic) (x y : Int) (m : Mac) (q top : Int) : Decidable (okR ref p x y m q top) := Classical.propDecidable _
theorem l7Place_at (p : Pic) (x y : Int) (a : Option Addr) (c n : Nat) (w : World) (hn : n = p.px.length) (nc : n ≤ 9223372036854775807) (r : Sl w a n (p.px.map (Value.int .i64))) :
    Calls Tryd.prog 49 #[.agg #[.int .i64 p.w, .int .i64 p.h, .slice a n c], .int .i64 x, .int .i64 y] w fun e w' => e = .returned (.bool (decide (placeP p x y))) ∧ Ext w w' := by
  have h := l7Place_any p x y a c n w hn nc r
  rw [show decide ((p.valid) ∧ (0 ≤ x ∧ x ≤ p.w - 1) ∧ (0 ≤ y ∧ y ≤ p.h - 1) ∧ (x % 8 = 0) ∧ (y % 8 = 0)) = decide (placeP p x y) from decide_eq_decide.2 ⟨fun ⟨h0, h1, h2, h3, h4⟩ => ⟨h0, h1.1, by omega, h3, h2.1, by omega, h4⟩, fun ⟨h0, h1, h2, h3, h4, h5, h6⟩ => ⟨h0, ⟨h1, by omega⟩, ⟨h4, by omega⟩, h3, h6⟩⟩] at h
  exact h
theorem l1Same_at (p s : Pic) (a b : Option Addr) (c d n m : Nat) (w : World) (hn : n = p.px.length) (hm : m = s.px.length) (nc : n ≤ 9223372036854775807) (mc : m ≤ 9223372036854775807) (r : Sl w a n (p.px.map (Value.int .i64))) (q : Sl w b m (s.px.map (Value.int .i64))) :
    Calls Tryd.prog 48 #[.agg #[.int .i64 p.w, .int .i64 p.h, .slice a n c], .agg #[.int .i64 s.w, .int .i64 s.h, .slice b m d]] w fun e w' => e = .returned (.bool (decide (alikeP p s))) ∧ Ext w w' := l1Same_any p s a b c d n m w hn hm nc mc r q
theorem alike_at (p s : Pic) (a b : Option Addr) (c d n m : Nat) (w : World) (hn : n = p.px.length) (hm : m = s.px.length) (nc : n ≤ 9223372036854775807) (mc : m ≤ 9223372036854775807) (r : Sl w a n (p.px.map (Value.int .i64))) (q : Sl w b m (s.px.map (Value.int .i64))) :
    Calls Tryd.prog 38 #[.agg #[.int .i64 p.w, .int .i64 p.h, .slice a n c], .agg #[.int .i64 s.w, .int .i64 s.h, .slice b m d]] w fun e w' => e = .returned (.bool (decide (alikeP p s))) ∧ Ext w w' := alike_any p s a b c d n m w hn hm nc mc r q
theorem qV_in (q : Int) (w : World) (h : 0 ≤ q ∧ q ≤ 15) : Calls Tryd.prog 41 #[.int .i64 q] w fun e w' => e = .returned (.bool true) ∧ w = w' := qualityValid_in q w h.1 h.2
theorem qV_out (q : Int) (w : World) (h : ¬ (0 ≤ q ∧ q ≤ 15)) : Calls Tryd.prog 41 #[.int .i64 q] w fun e w' => e = .returned (.bool false) ∧ w = w' := by
  by_cases h1 : 0 ≤ q
  · have d1 : decide (0 ≤ q) = true := by simpa using h1
    have d2 : decide (q ≤ 15) = false := by simp; omega
    go_enter Tryd.func41, Tryd.ntmps41
    go_wp2
    go_ret
    exact ⟨rfl, rfl⟩
  · have d1 : decide (0 ≤ q) = false := by simpa using h1
    go_enter Tryd.func41, Tryd.ntmps41
    go_wp2
    go_ret
    exact ⟨rfl, rfl⟩
end Go.Proofs.YtbnhaegidfbgbaaDoor
namespace Go.Proofs.YtbnhaegidfbgbaaDoor
open Go.RowKit
set_option maxHeartbeats 1000000
structure RG (w : World) (base g n c : Nat) (ra : Option Addr) (rn rc W H : Nat) (ref : Pic) (m : Mac) (B : Nat) (Z : List Int) (wx : World) : Prop where
  gr : w.grownBy wx (some g)
  own : wx.ownsRow base 3 1 (.slice (some ⟨g, 0, none⟩) n c) n (Z.map (Value.int .i64))
  b0 : wx.heap[B]? = some (.cells #[.int .i64 W, .int .i64 H, .slice (some ⟨g, 0, none⟩) n c] 25 (0, 0))
  b1 : wx.heap[B + 1]? = some (.cells #[.int .i64 ref.w, .int .i64 ref.h, .slice ra rn rc] 25 (0, 0))
  b2 : IB wx (B + 1 + 1) 34 m.zs
  gB : g < B
section
variable {w wx wy : World} {base g n c rn rc W H B : Nat} {ra : Option Addr} {ref : Pic} {m : Mac} {Z Z' : List Int}
theorem RG.ex (h : RG w base g n c ra rn rc W H ref m B Z wx) (e : Ext wx wy) : RG w base g n c ra rn rc W H ref m B Z wy :=
  ⟨grown_ext h.gr e, owns_ext h.own e, e.blk h.b0, e.blk h.b1, h.b2.ext e, h.gB⟩
theorem RG.drew (h : RG w base g n c ra rn rc W H ref m B Z wx) : RG w base g n c ra rn rc W H ref m B Z wx.drew := h.ex (Ext.drewN _ 1)
theorem RG.put (h : RG w base g n c ra rn rc W H ref m B Z wx) (gr : wx.grownBy wy (some g)) (own : wy.ownsRow base 3 1 (.slice (some ⟨g, 0, none⟩) n c) n (Z'.map (Value.int .i64))) : RG w base g n c ra rn rc W H ref m B Z' wy := by
  have := h.gB
  exact ⟨grownBy_trans h.gr gr, own, blk_gr h.b0 gr (by simp; omega), blk_gr h.b1 gr (by simp; omega), h.b2.gr gr (by simp; omega), h.gB⟩
theorem RG.loc {b' : Nat} (h : RG w base g n c ra rn rc W H ref m B Z wx) (gr : wx.grownBy wy (some b')) (hb : B + 1 + 1 < b') (hw : w.heap.size ≤ B) : RG w base g n c ra rn rc W H ref m B Z wy := by
  have := h.gB
  refine ⟨⟨gr.os.trans h.gr.os, gr.tape.trans h.gr.tape, gr.output.trans h.gr.output, Nat.le_trans h.gr.size gr.size, fun k hk hne => (gr.block k (Nat.lt_of_lt_of_le hk h.gr.size) (by simp; omega)).trans (h.gr.block k hk hne)⟩, h.own.kept gr (.inr (by simp [Value.ownBlock]; omega)), blk_gr h.b0 gr (by simp; omega), blk_gr h.b1 gr (by simp; omega), h.b2.gr gr (by simp; omega), h.gB⟩
end
end Go.Proofs.YtbnhaegidfbgbaaDoor
namespace Go.Proofs.YtbnhaegidfbgbaaDoor
open Go.RowKit
set_option maxHeartbeats 1000000
theorem ihad_bd {b : List Int} (h : bdA 1048576 b) : bdA 1099511627776 (ihad b) := bdA_of (by omega) fun j hj => by
  rw [ihad_len] at hj
  rw [nth_ihad _ hj]
  have := had_bdA h j
  omega
theorem dec_bd (l : List Int) (q : Nat) : bdA 1099511627776 (dec l q) := ihad_bd (inB_bdA (by omega) (dqs_rng l q) (by omega))
theorem smp_bd {b : List Int} (h : smp b) : bdA 1099511627776 b := bdA_of (by omega) fun j hj => by
  have := smp_nth h hj
  omega
end Go.Proofs.YtbnhaegidfbgbaaDoor
namespace Go.Proofs.YtbnhaegidfbgbaaDoor
open Go.RowKit
set_option maxHeartbeats 1000000
structure RS (w : World) (base g n c : Nat) (ra : Option Addr) (rn rc W H : Nat) (ref : Pic) (m : Mac) (B : Nat) (Z : List Int) (wx : World) : Prop where
  gr : w.grownBy wx (some g)
  own : wx.ownsRow base 3 1 (.slice (some ⟨g, 0, none⟩) n c) n (Z.map (Value.int .i64))
  b0 : wx.heap[B + 1]? = some (.cells #[.int .i64 W, .int .i64 H, .slice (some ⟨g, 0, none⟩) n c] 25 (0, 0))
  b1 : wx.heap[B]? = some (.cells #[.int .i64 ref.w, .int .i64 ref.h, .slice ra rn rc] 25 (0, 0))
  b2 : IB wx (B + 1 + 1) 34 m.zs
  gB : g < B
section
variable {w wx wy : World} {base g n c rn rc W H B : Nat} {ra : Option Addr} {ref : Pic} {m : Mac} {Z Z' : List Int}
theorem RS.ex (h : RS w base g n c ra rn rc W H ref m B Z wx) (e : Ext wx wy) : RS w base g n c ra rn rc W H ref m B Z wy :=
  ⟨grown_ext h.gr e, owns_ext h.own e, e.blk h.b0, e.blk h.b1, h.b2.ext e, h.gB⟩
theorem RS.drew (h : RS w base g n c ra rn rc W H ref m B Z wx) : RS w base g n c ra rn rc W H ref m B Z wx.drew := h.ex (Ext.drewN _ 1)
theorem RS.put (h : RS w base g n c ra rn rc W H ref m B Z wx) (gr : wx.grownBy wy (some g)) (own : wy.ownsRow base 3 1 (.slice (some ⟨g, 0, none⟩) n c) n (Z'.map (Value.int .i64))) : RS w base g n c ra rn rc W H ref m B Z' wy := by
  have := h.gB
  exact ⟨grownBy_trans h.gr gr, own, blk_gr h.b0 gr (by simp; omega), blk_gr h.b1 gr (by simp; omega), h.b2.gr gr (by simp; omega), h.gB⟩
theorem RS.loc {b' : Nat} (h : RS w base g n c ra rn rc W H ref m B Z wx) (gr : wx.grownBy wy (some b')) (hb : B + 1 + 1 < b') (hw : w.heap.size ≤ B) : RS w base g n c ra rn rc W H ref m B Z wy := by
  have := h.gB
  refine ⟨⟨gr.os.trans h.gr.os, gr.tape.trans h.gr.tape, gr.output.trans h.gr.output, Nat.le_trans h.gr.size gr.size, fun k hk hne => (gr.block k (Nat.lt_of_lt_of_le hk h.gr.size) (by simp; omega)).trans (h.gr.block k hk hne)⟩, h.own.kept gr (.inr (by simp [Value.ownBlock]; omega)), blk_gr h.b0 gr (by simp; omega), blk_gr h.b1 gr (by simp; omega), h.b2.gr gr (by simp; omega), h.gB⟩
end
end Go.Proofs.YtbnhaegidfbgbaaDoor
namespace Go.Proofs.YtbnhaegidfbgbaaDoor
open Go.RowKit
section
variable {P : Program} (w : World)
theorem run_append_keep (base : Nat) (t ty e : TypeId) (i : TypeInfo) (z : Value) (size bytes : Nat) (ht : P.underlying t = some (.slice e)) (hi : P.info? e = some i) (hz : i.zero = some z)
    (hsize : i.size = size) (hby : i.bytes = bytes) (hzs : z.cells.size = size) (hsz : 0 < size)
    (v : Value) (n : Nat) (xs : List Value) (hown : w.ownsRow base e size v n xs)
    (a : Addr) (m c : Nat) (news : List Value) (hl : news.length = m * size) (hnews : ∀ j u, news[j]? = some u → w.cell? (a.add j) = some u) (h1 : ∀ u ∈ news, u.oneCell' = true)
    (h63 : n + m ≤ maxLen) (hbytes : (n + m) * bytes ≤ 140737488355328) (hbase : base ≤ w.heap.size) :
    ∃ v' w', (Builtin.append_ #[t, t] ty #[v, .slice (some a) m c]).run P w = .ok v' w' ∧ w'.ownsRow base e size v' (n + m) (xs ++ news) ∧ w.grownBy w' v.ownBlock ∧
      (∀ b' n' own xs', n' ≤ n → w.ownsRow b' e size own n' xs' → w'.ownsRow b' e size own n' xs') := by
  obtain ⟨v', w', hr, h2, h3, -⟩ := run_append_own (P := P) w base t ty e i z size bytes ht hi hz hsize hby hzs hsz v n xs hown a m c news hl hnews h1 h63 hbytes hbase
  refine ⟨v', w', hr, h2, h3, fun b' n' own xs' hn' ho => ?_⟩
  by_cases hne : own.ownBlock = none ∨ own.ownBlock ≠ v.ownBlock
  · exact ho.kept h3 hne
  · have hsm : n + m ≤ 9223372036854775807 := by simp only [maxLen] at h63; omega
    rcases id hown.2 with ⟨rfl, rfl⟩ | ⟨g, cap, cur, rfl, hbg, hg, hnc, hcm, hcs, htake⟩
    · exact absurd (show own.ownBlock = none ∨ _ from by
        cases h : own.ownBlock with
        | none => exact .inl rfl
        | some q => exact .inr (by simp [Value.ownBlock])) hne
    · subst hsize
      by_cases hroom : n + m ≤ cap
      · have hfit : n * i.size + news.length ≤ cur.size := by rw [hl, hcs, ← Nat.add_mul]; exact Nat.mul_le_mul_right _ hroom
        have hr2 := run_append_room (P := P) w t ty e i ht hi g n cap cur hg a m c news hl hnews h1 hroom hfit
        rw [hr] at hr2
        simp only [Result.ok.injEq] at hr2
        obtain ⟨-, rfl⟩ := hr2
        rcases id ho.2 with ⟨rfl, -⟩ | ⟨g', cap', cur', rfl, hb', hg', hnc', hcm', hcs', htake'⟩
        · exact absurd (.inl rfl) hne
        · have hgg : g' = g := by
            have : ¬ (some g' : Option Nat) ≠ some g := fun h => hne (.inr h)
            simpa using this
          subst hgg
          rw [hg] at hg'
          simp only [Option.some.injEq, Obj.cells.injEq, and_true] at hg'
          subst hg'
          refine ⟨ho.1, .inr ⟨g', cap', _, rfl, hb', setRow_heap w g' cur _ e _ hg, hnc', hcm', ?_, ?_⟩⟩
          · simp only [List.size_toArray, List.length_append, List.length_take, List.length_drop, Array.length_toList]
            omega
          · have hle : n' * i.size ≤ n * i.size := Nat.mul_le_mul_right _ hn'
            have hlen : (cur.toList.take (n * i.size)).length = n * i.size := by
              rw [List.length_take, Array.length_toList]; omega
            rw [List.toList_toArray, List.append_assoc, List.take_append_of_le_length (by rw [hlen]; exact hle), List.take_take, Nat.min_eq_left hle]
            exact htake'
      · have holds : ∀ j u, xs[j]? = some u → w.cell? ((⟨g, 0, none⟩ : Addr).add j) = some u := hown.cells (g := g) rfl
        have hr2 := run_append_grow (P := P) w t ty e i z ht hi hz ⟨g, 0, none⟩ n cap xs hown.1 holds a m c news hl hnews (by omega) (by omega) (growslice_fits (by omega) (by rw [hby]; exact hbytes))
        rw [hr] at hr2
        simp only [Result.ok.injEq] at hr2
        obtain ⟨-, rfl⟩ := hr2
        exact ho.kept (row := none) ⟨rfl, rfl, rfl, by simp, fun k hk _ => (World.grownBy_alloc w.drew _ none).block k hk (by simp)⟩ (by cases own.ownBlock <;> simp)
/-- an operation that is wanted. -/
theorem wpList_want {ops : Array Oper} {rest : List Oper} {o : Oper} {a : Act} {Q : Exit → Act → World → Prop} {w : World} (hw : Region.wanted o (yielded ops a.tmps) = true)
    (h : ∀ K : Act → World → Prop, (∀ a w, wpList P ops Q rest a w → K a w) → o.wp P a w K Q) : wpList P ops Q (o :: rest) a w :=
  wpList_step fun K hK => by rw [if_pos hw]; exact h K hK
/-- append that does not fit. -/
theorem wpList_appn {ops : Array Oper} {rest : List Oper} {o : Oper} {a : Act} {Q : Exit → Act → World → Prop} {base e size g cap : Nat} {n : Nat} {xs : List Value}
    (hw : Region.wanted o (yielded ops a.tmps) = true)
    (hown : w.ownsRow base e size (.slice (some ⟨g, 0, none⟩) n cap) n xs) (hbase : base ≤ w.heap.size)
    (s x : Operand) (t : TypeId) (ho : o.op = .call { callee := .builtin .append, args := #[s, x], argTypes := #[t, t] })
    (z : Value) (bytes : Nat) (h1 : P.underlying t = some (.slice e)) (h2 : (P.info? e).map (fun i => (i.zero, i.size, i.bytes)) = some (some z, size, bytes)) (hz1 : z.cells.size = size) (hsz : 0 < size)
    (hs : a.eval s = .slice (some ⟨g, 0, none⟩) n cap) (ad : Addr) (m c : Nat) (us : List Value) (hx : a.eval x = .slice (some ad) m c) (hl : us.length = m * size) (hcell : ∀ (j : Nat) q, us[j]? = some q → w.cell? (ad.add j) = some q) (hu1 : ∀ u ∈ us, u.oneCell' = true)
    (hb : (n + m) * bytes ≤ 140737488355328) (hn : n + m < 2 ^ 62) (hcap : cap < n + m)
    (h : ∀ v' w', w'.ownsRow base e size v' (n + m) (xs ++ us) → Ext w w' → wpList P ops Q rest (a.put o.dst v') w') : wpList P ops Q (o :: rest) a w := by
  obtain ⟨i0, hi, hz0, hz1', hz2⟩ := info_parts h2
  obtain ⟨v', w', hr, k2, k3, k4⟩ := run_append_keep (P := P) w base t o.type e i0 z size bytes h1 hi hz0 hz1' hz2 hz1 hsz _ n xs hown ad m c us hl hcell hu1 (by unfold maxLen; omega) hb hbase
  have hE : Ext w w' := by
    subst hz1'
    have holds : ∀ j u, xs[j]? = some u → w.cell? ((⟨g, 0, none⟩ : Addr).add j) = some u := hown.cells (g := g) rfl
    have hr2 := run_append_grow (P := P) w t o.type e i0 z h1 hi hz0 ⟨g, 0, none⟩ n cap xs hown.1 holds ad m c us hl hcell (by omega) (by omega) (growslice_fits (by omega) (by rw [hz2]; exact hb))
    rw [hr] at hr2
    simp only [Result.ok.injEq] at hr2
    obtain ⟨-, rfl⟩ := hr2
    exact (Ext.drewN w 1).trans (Ext.alloc _ _)
  refine wpList_want hw fun K hK => ?_
  unfold Oper.wp execOp
  simp only [ho, resolve, invoke, builtin, Sem.run_bind, Sem.run_pure, Result.andThen_ok, List.map_toArray, List.map_cons, List.map_nil, hs, hx, hr]
  exact hK _ _ (h v' w' k2 hE)
end
end Go.Proofs.YtbnhaegidfbgbaaDoor
