/- Are the arguments of Reconstruct valid: both sides. -/
import Derived.Test.YtbnhaegidfbgbaaDoorQg13
namespace Go.Proofs.YtbnhaegidfbgbaaDoor
open Go.RowKit
set_option maxHeartbeats 1000000
/-- A macroblock begins at a position. -/
def placeP (p : Pic) (x y : Int) : Prop := p.valid ∧ 0 ≤ x ∧ x < p.w ∧ x % 8 = 0 ∧ 0 ≤ y ∧ y < p.h ∧ y % 8 = 0
instance (p : Pic) (x y : Int) : Decidable (placeP p x y) := by unfold placeP; infer_instance
/-- Two valid pictures of one size. -/
def alikeP (p s : Pic) : Prop := p.valid ∧ s.valid ∧ p.w = s.w ∧ p.h = s.h
instance (p s : Pic) : Decidable (alikeP p s) := by unfold alikeP; infer_instance
/-- The arguments of Reconstruct are valid. -/
def okR (ref p : Pic) (x y : Int) (m : Mac) (q top : Int) : Prop := placeP p x y ∧ m.valid ∧ (0 ≤ q ∧ q ≤ 15) ∧ (0 ≤ top ∧ top ≤ y) ∧ (m.kind = 2 ∨ alikeP ref p)
noncomputable instance (ref p : Pic) (x y : Int) (m : Mac) (q top : Int) : Decidable (okR ref p x y m q top) := Classical.propDecidable _
theorem l7Place_at (p : Pic) (x y : Int) (a : Option Addr) (c n : Nat) (w : World) (hn : n = p.px.length) (nc : n ≤ 9223372036854775807) (r : Sl w a n (p.px.map (Value.int .i64))) :
 Calls Tryd.prog 49 #[.agg #[.int .i64 p.w, .int .i64 p.h, .slice a n c], .int .i64 x, .int .i64 y] w fun e w' => e = .returned (.bool (decide (placeP p x y))) ∧ Ext w w' := by
 have h := l7Place_any p x y a c n w hn nc r
 rw [show decide ((p.valid) ∧ (0 ≤ x ∧ x ≤ p.w - 1) ∧ (0 ≤ y ∧ y ≤ p.h - 1) ∧ (x % 8 = 0) ∧ (y % 8 = 0)) = decide (placeP p x y) from decide_eq_decide.2 ⟨fun ⟨h0, h1, h2, h3, h4⟩ => ⟨h0, h1.1, by omega, h3, h2.1, by omega, h4⟩, fun ⟨h0, h1, h2, h3, h4, h5, h6⟩ => ⟨h0, ⟨h1, by omega⟩, ⟨h4, by omega⟩, h3, h6⟩⟩] at h
 exact h
theorem l1Same_at (p s : Pic) (a b : Option Addr) (c d n m : Nat) (w : World) (hn : n = p.px.length) (hm : m = s.px.length) (nc : n ≤ 9223372036854775807) (mc : m ≤ 9223372036854775807) (r : Sl w a n (p.px.map (Value.int .i64))) (q : Sl w b m (s.px.map (Value.int .i64))) :
 Calls Tryd.prog 48 #[.agg #[.int .i64 p.w, .int .i64 p.h, .slice a n c], .agg #[.int .i64 s.w, .int .i64 s.h, .slice b m d]] w fun e w' => e = .returned (.bool (decide (alikeP p s))) ∧ Ext w w' := l1Same_any p s a b c d n m w hn hm nc mc r q
theorem alike_at (p s : Pic) (a b : Option Addr) (c d n m : Nat) (w : World) (hn : n = p.px.length) (hm : m = s.px.length) (nc : n ≤ 9223372036854775807) (mc : m ≤ 9223372036854775807) (r : Sl w a n (p.px.map (Value.int .i64))) (q : Sl w b m (s.px.map (Value.int .i64))) :
 Calls Tryd.prog 38 #[.agg #[.int .i64 p.w, .int .i64 p.h, .slice a n c], .agg #[.int .i64 s.w, .int .i64 s.h, .slice b m d]] w fun e w' => e = .returned (.bool (decide (alikeP p s))) ∧ Ext w w' := alike_any p s a b c d n m w hn hm nc mc r q
theorem qV_in (q : Int) (w : World) (h : 0 ≤ q ∧ q ≤ 15) : Calls Tryd.prog 41 #[.int .i64 q] w fun e w' => e = .returned (.bool true) ∧ w = w' := qualityValid_in q w h.1 h.2
theorem qV_out (q : Int) (w : World) (h : ¬ (0 ≤ q ∧ q ≤ 15)) : Calls Tryd.prog 41 #[.int .i64 q] w fun e w' => e = .returned (.bool false) ∧ w = w' := by
 by_cases h1 : 0 ≤ q
 ·have d1 : decide (0 ≤ q) = true := by simpa using h1
  have d2 : decide (q ≤ 15) = false := by simp; omega
  go_enter Tryd.func41, Tryd.ntmps41
  go_wp2
  go_ret
  exact ⟨rfl, rfl⟩
 ·have d1 : decide (0 ≤ q) = false := by simpa using h1
  go_enter Tryd.func41, Tryd.ntmps41
  go_wp2
  go_ret
  exact ⟨rfl, rfl⟩
set_option maxRecDepth 100000 in
theorem reconstructsK_0 (ref p : Pic) (x y : Int) (m : Mac) (q top : Int) (a b : Option Addr) (c d n l : Nat) (w : World) (hn : n = ref.px.length) (hl : l = p.px.length) (nc : n ≤ 9223372036854775807) (lc : l ≤ 9223372036854775807) (r : Sl w a n (ref.px.map (Value.int .i64))) (s : Sl w b l (p.px.map (Value.int .i64))) (hm : m.ok) (hk : m.kind = 2)  (h0 : ¬ (p.valid)) :
 Calls Tryd.prog 54 #[.agg #[.int .i64 ref.w, .int .i64 ref.h, .slice a n c], .agg #[.int .i64 p.w, .int .i64 p.h, .slice b l d], .int .i64 x, .int .i64 y, .agg (ic m.zs), .int .i64 q, .int .i64 top] w fun e w' => e = .returned (.bool false) ∧ Ext w w' := by
 have HN := Lib.hid hn
 have HL := Lib.hid hl
 have HM := Lib.hid hm
 have Hl := Lib.hid (Mac.zs_len hm)
 clear hn hl hm
 have fk : (m.kind == 2) = true := by simpa using hk
 clear hk
 have D0 := Lib.hid (show decide (p.valid) = false from decide_eq_false h0)
 have a0_1 := Ext.alloc (w.alloc (.cells #[.int .i64 ref.w, .int .i64 ref.h, .slice a n c] 25)) (.cells #[.int .i64 p.w, .int .i64 p.h, .slice b l d] 25)
 have a0_2 := Ext.alloc ((w.alloc (.cells #[.int .i64 ref.w, .int .i64 ref.h, .slice a n c] 25)).alloc (.cells #[.int .i64 p.w, .int .i64 p.h, .slice b l d] 25)) (.cells (ic m.zs) 34)
 have X0_0 := a0_2.blk (a0_1.blk (blk_new w (.cells #[.int .i64 ref.w, .int .i64 ref.h, .slice a n c] 25)))
 have a1_2 := Ext.alloc ((w.alloc (.cells #[.int .i64 ref.w, .int .i64 ref.h, .slice a n c] 25)).alloc (.cells #[.int .i64 p.w, .int .i64 p.h, .slice b l d] 25)) (.cells (ic m.zs) 34)
 have X1_0 := a1_2.blk (blk_new (w.alloc (.cells #[.int .i64 ref.w, .int .i64 ref.h, .slice a n c] 25)) (.cells #[.int .i64 p.w, .int .i64 p.h, .slice b l d] 25))
 have X2_0 := IB.new ((w.alloc (.cells #[.int .i64 ref.w, .int .i64 ref.h, .slice a n c] 25)).alloc (.cells #[.int .i64 p.w, .int .i64 p.h, .slice b l d] 25)) 34 m.zs
 have E_0 := ((Ext.alloc w (.cells #[.int .i64 ref.w, .int .i64 ref.h, .slice a n c] 25)).trans (Ext.alloc (w.alloc (.cells #[.int .i64 ref.w, .int .i64 ref.h, .slice a n c] 25)) (.cells #[.int .i64 p.w, .int .i64 p.h, .slice b l d] 25))).trans (Ext.alloc ((w.alloc (.cells #[.int .i64 ref.w, .int .i64 ref.h, .slice a n c] 25)).alloc (.cells #[.int .i64 p.w, .int .i64 p.h, .slice b l d] 25)) (.cells (ic m.zs) 34))
 simp only [World.size_alloc] at X1_0 X2_0
 clear a0_1 a0_2 a1_2 h0
 obtain ⟨-, k0_0, k0_1, k0_2, -⟩ := bx3 X0_0
 obtain ⟨-, k1_0, k1_1, k1_2, -⟩ := bx3 X1_0
 have k2_0 := X2_0.cell (i := 0) (by rw [Hl.out]; omega)
 rw [Mac.zs_kind] at k2_0
 go_enter Tryd.func54, Tryd.ntmps54
 go_wp2_with fail
 refine (impl_PictureValid_any p b d l _ HL.out lc (s.ext E_0)).mono ?_
 rw [D0.out]
 rintro e w_1 ⟨rfl, e_1⟩
 have X0_1 := e_1.blk X0_0
 have X1_1 := e_1.blk X1_0
 have X2_1 := X2_0.ext e_1
 have E_1 := E_0.trans e_1
 clear k0_0 k0_1 k0_2 X0_0 k1_0 k1_1 k1_2 X1_0 k2_0 X2_0 E_0 e_1
 obtain ⟨-, k0_0, k0_1, k0_2, -⟩ := bx3 X0_1
 obtain ⟨-, k1_0, k1_1, k1_2, -⟩ := bx3 X1_1
 have k2_0 := X2_1.cell (i := 0) (by rw [Hl.out]; omega)
 rw [Mac.zs_kind] at k2_0
 go_wp2
 go_ret
 exact ⟨rfl, E_1⟩
set_option maxRecDepth 100000 in
theorem reconstructsK_1 (ref p : Pic) (x y : Int) (m : Mac) (q top : Int) (a b : Option Addr) (c d n l : Nat) (w : World) (hn : n = ref.px.length) (hl : l = p.px.length) (nc : n ≤ 9223372036854775807) (lc : l ≤ 9223372036854775807) (r : Sl w a n (ref.px.map (Value.int .i64))) (s : Sl w b l (p.px.map (Value.int .i64))) (hm : m.ok) (hk : m.kind = 2) (h0 : p.valid) (h1 : ¬ (m.valid)) :
 Calls Tryd.prog 54 #[.agg #[.int .i64 ref.w, .int .i64 ref.h, .slice a n c], .agg #[.int .i64 p.w, .int .i64 p.h, .slice b l d], .int .i64 x, .int .i64 y, .agg (ic m.zs), .int .i64 q, .int .i64 top] w fun e w' => e = .returned (.bool false) ∧ Ext w w' := by
 have HN := Lib.hid hn
 have HL := Lib.hid hl
 have HM := Lib.hid hm
 have Hl := Lib.hid (Mac.zs_len hm)
 clear hn hl hm
 have fk : (m.kind == 2) = true := by simpa using hk
 clear hk
 have D0 := Lib.hid (show decide (p.valid) = true from decide_eq_true h0)
 have D1 := Lib.hid (show decide (m.valid) = false from decide_eq_false h1)
 have a0_1 := Ext.alloc (w.alloc (.cells #[.int .i64 ref.w, .int .i64 ref.h, .slice a n c] 25)) (.cells #[.int .i64 p.w, .int .i64 p.h, .slice b l d] 25)
 have a0_2 := Ext.alloc ((w.alloc (.cells #[.int .i64 ref.w, .int .i64 ref.h, .slice a n c] 25)).alloc (.cells #[.int .i64 p.w, .int .i64 p.h, .slice b l d] 25)) (.cells (ic m.zs) 34)
 have X0_0 := a0_2.blk (a0_1.blk (blk_new w (.cells #[.int .i64 ref.w, .int .i64 ref.h, .slice a n c] 25)))
 have a1_2 := Ext.alloc ((w.alloc (.cells #[.int .i64 ref.w, .int .i64 ref.h, .slice a n c] 25)).alloc (.cells #[.int .i64 p.w, .int .i64 p.h, .slice b l d] 25)) (.cells (ic m.zs) 34)
 have X1_0 := a1_2.blk (blk_new (w.alloc (.cells #[.int .i64 ref.w, .int .i64 ref.h, .slice a n c] 25)) (.cells #[.int .i64 p.w, .int .i64 p.h, .slice b l d] 25))
 have X2_0 := IB.new ((w.alloc (.cells #[.int .i64 ref.w, .int .i64 ref.h, .slice a n c] 25)).alloc (.cells #[.int .i64 p.w, .int .i64 p.h, .slice b l d] 25)) 34 m.zs
 have E_0 := ((Ext.alloc w (.cells #[.int .i64 ref.w, .int .i64 ref.h, .slice a n c] 25)).trans (Ext.alloc (w.alloc (.cells #[.int .i64 ref.w, .int .i64 ref.h, .slice a n c] 25)) (.cells #[.int .i64 p.w, .int .i64 p.h, .slice b l d] 25))).trans (Ext.alloc ((w.alloc (.cells #[.int .i64 ref.w, .int .i64 ref.h, .slice a n c] 25)).alloc (.cells #[.int .i64 p.w, .int .i64 p.h, .slice b l d] 25)) (.cells (ic m.zs) 34))
 simp only [World.size_alloc] at X1_0 X2_0
 clear a0_1 a0_2 a1_2 h0 h1
 obtain ⟨-, k0_0, k0_1, k0_2, -⟩ := bx3 X0_0
 obtain ⟨-, k1_0, k1_1, k1_2, -⟩ := bx3 X1_0
 have k2_0 := X2_0.cell (i := 0) (by rw [Hl.out]; omega)
 rw [Mac.zs_kind] at k2_0
 go_enter Tryd.func54, Tryd.ntmps54
 go_wp2_with fail
 refine (impl_PictureValid_any p b d l _ HL.out lc (s.ext E_0)).mono ?_
 rw [D0.out]
 rintro e w_1 ⟨rfl, e_1⟩
 have X0_1 := e_1.blk X0_0
 have X1_1 := e_1.blk X1_0
 have X2_1 := X2_0.ext e_1
 have E_1 := E_0.trans e_1
 clear k0_0 k0_1 k0_2 X0_0 k1_0 k1_1 k1_2 X1_0 k2_0 X2_0 E_0 e_1
 obtain ⟨-, k0_0, k0_1, k0_2, -⟩ := bx3 X0_1
 obtain ⟨-, k1_0, k1_1, k1_2, -⟩ := bx3 X1_1
 have k2_0 := X2_1.cell (i := 0) (by rw [Hl.out]; omega)
 rw [Mac.zs_kind] at k2_0
 go_wp2_with (refine wpList_iload 34 _ rfl rfl X2_1 0 71 rfl _ Tryd.underlying34 rfl size_Macro (by rw [Hl.out]; omega) _ (by rw [sub_all _ _ Hl.out]) ?_)
 refine (impl_MacroValid_any m _ HM.out).mono ?_
 rw [D1.out]
 rintro e w_2 ⟨rfl, e_2⟩
 have X0_2 := e_2.blk X0_1
 have X1_2 := e_2.blk X1_1
 have X2_2 := X2_1.ext e_2
 have E_2 := E_1.trans e_2
 clear k0_0 k0_1 k0_2 X0_1 k1_0 k1_1 k1_2 X1_1 k2_0 X2_1 E_1 e_2
 obtain ⟨-, k0_0, k0_1, k0_2, -⟩ := bx3 X0_2
 obtain ⟨-, k1_0, k1_1, k1_2, -⟩ := bx3 X1_2
 have k2_0 := X2_2.cell (i := 0) (by rw [Hl.out]; omega)
 rw [Mac.zs_kind] at k2_0
 go_wp2
 go_ret
 exact ⟨rfl, E_2⟩
set_option maxRecDepth 100000 in
theorem reconstructsK_2 (ref p : Pic) (x y : Int) (m : Mac) (q top : Int) (a b : Option Addr) (c d n l : Nat) (w : World) (hn : n = ref.px.length) (hl : l = p.px.length) (nc : n ≤ 9223372036854775807) (lc : l ≤ 9223372036854775807) (r : Sl w a n (ref.px.map (Value.int .i64))) (s : Sl w b l (p.px.map (Value.int .i64))) (hm : m.ok) (hk : m.kind = 2) (h0 : p.valid) (h1 : m.valid) (h2 : ¬ (0 ≤ q ∧ q ≤ 15)) :
 Calls Tryd.prog 54 #[.agg #[.int .i64 ref.w, .int .i64 ref.h, .slice a n c], .agg #[.int .i64 p.w, .int .i64 p.h, .slice b l d], .int .i64 x, .int .i64 y, .agg (ic m.zs), .int .i64 q, .int .i64 top] w fun e w' => e = .returned (.bool false) ∧ Ext w w' := by
 have HN := Lib.hid hn
 have HL := Lib.hid hl
 have HM := Lib.hid hm
 have Hl := Lib.hid (Mac.zs_len hm)
 clear hn hl hm
 have fk : (m.kind == 2) = true := by simpa using hk
 clear hk
 have D0 := Lib.hid (show decide (p.valid) = true from decide_eq_true h0)
 have D1 := Lib.hid (show decide (m.valid) = true from decide_eq_true h1)
 have Q2 := Lib.hid h2
 have a0_1 := Ext.alloc (w.alloc (.cells #[.int .i64 ref.w, .int .i64 ref.h, .slice a n c] 25)) (.cells #[.int .i64 p.w, .int .i64 p.h, .slice b l d] 25)
 have a0_2 := Ext.alloc ((w.alloc (.cells #[.int .i64 ref.w, .int .i64 ref.h, .slice a n c] 25)).alloc (.cells #[.int .i64 p.w, .int .i64 p.h, .slice b l d] 25)) (.cells (ic m.zs) 34)
 have X0_0 := a0_2.blk (a0_1.blk (blk_new w (.cells #[.int .i64 ref.w, .int .i64 ref.h, .slice a n c] 25)))
 have a1_2 := Ext.alloc ((w.alloc (.cells #[.int .i64 ref.w, .int .i64 ref.h, .slice a n c] 25)).alloc (.cells #[.int .i64 p.w, .int .i64 p.h, .slice b l d] 25)) (.cells (ic m.zs) 34)
 have X1_0 := a1_2.blk (blk_new (w.alloc (.cells #[.int .i64 ref.w, .int .i64 ref.h, .slice a n c] 25)) (.cells #[.int .i64 p.w, .int .i64 p.h, .slice b l d] 25))
 have X2_0 := IB.new ((w.alloc (.cells #[.int .i64 ref.w, .int .i64 ref.h, .slice a n c] 25)).alloc (.cells #[.int .i64 p.w, .int .i64 p.h, .slice b l d] 25)) 34 m.zs
 have E_0 := ((Ext.alloc w (.cells #[.int .i64 ref.w, .int .i64 ref.h, .slice a n c] 25)).trans (Ext.alloc (w.alloc (.cells #[.int .i64 ref.w, .int .i64 ref.h, .slice a n c] 25)) (.cells #[.int .i64 p.w, .int .i64 p.h, .slice b l d] 25))).trans (Ext.alloc ((w.alloc (.cells #[.int .i64 ref.w, .int .i64 ref.h, .slice a n c] 25)).alloc (.cells #[.int .i64 p.w, .int .i64 p.h, .slice b l d] 25)) (.cells (ic m.zs) 34))
 simp only [World.size_alloc] at X1_0 X2_0
 clear a0_1 a0_2 a1_2 h0 h1 h2
 obtain ⟨-, k0_0, k0_1, k0_2, -⟩ := bx3 X0_0
 obtain ⟨-, k1_0, k1_1, k1_2, -⟩ := bx3 X1_0
 have k2_0 := X2_0.cell (i := 0) (by rw [Hl.out]; omega)
 rw [Mac.zs_kind] at k2_0
 go_enter Tryd.func54, Tryd.ntmps54
 go_wp2_with fail
 refine (impl_PictureValid_any p b d l _ HL.out lc (s.ext E_0)).mono ?_
 rw [D0.out]
 rintro e w_1 ⟨rfl, e_1⟩
 have X0_1 := e_1.blk X0_0
 have X1_1 := e_1.blk X1_0
 have X2_1 := X2_0.ext e_1
 have E_1 := E_0.trans e_1
 clear k0_0 k0_1 k0_2 X0_0 k1_0 k1_1 k1_2 X1_0 k2_0 X2_0 E_0 e_1
 obtain ⟨-, k0_0, k0_1, k0_2, -⟩ := bx3 X0_1
 obtain ⟨-, k1_0, k1_1, k1_2, -⟩ := bx3 X1_1
 have k2_0 := X2_1.cell (i := 0) (by rw [Hl.out]; omega)
 rw [Mac.zs_kind] at k2_0
 go_wp2_with (refine wpList_iload 34 _ rfl rfl X2_1 0 71 rfl _ Tryd.underlying34 rfl size_Macro (by rw [Hl.out]; omega) _ (by rw [sub_all _ _ Hl.out]) ?_)
 refine (impl_MacroValid_any m _ HM.out).mono ?_
 rw [D1.out]
 rintro e w_2 ⟨rfl, e_2⟩
 have X0_2 := e_2.blk X0_1
 have X1_2 := e_2.blk X1_1
 have X2_2 := X2_1.ext e_2
 have E_2 := E_1.trans e_2
 clear k0_0 k0_1 k0_2 X0_1 k1_0 k1_1 k1_2 X1_1 k2_0 X2_1 E_1 e_2
 obtain ⟨-, k0_0, k0_1, k0_2, -⟩ := bx3 X0_2
 obtain ⟨-, k1_0, k1_1, k1_2, -⟩ := bx3 X1_2
 have k2_0 := X2_2.cell (i := 0) (by rw [Hl.out]; omega)
 rw [Mac.zs_kind] at k2_0
 go_wp2_with fail
 refine (qV_out q _ Q2.out).mono ?_
 rintro e w_s2 ⟨rfl, rfl⟩
 go_wp2
 go_ret
 exact ⟨rfl, E_2⟩
set_option maxRecDepth 100000 in
theorem reconstructsK_3 (ref p : Pic) (x y : Int) (m : Mac) (q top : Int) (a b : Option Addr) (c d n l : Nat) (w : World) (hn : n = ref.px.length) (hl : l = p.px.length) (nc : n ≤ 9223372036854775807) (lc : l ≤ 9223372036854775807) (r : Sl w a n (ref.px.map (Value.int .i64))) (s : Sl w b l (p.px.map (Value.int .i64))) (hm : m.ok) (hk : m.kind = 2) (h0 : p.valid) (h1 : m.valid) (h2 : 0 ≤ q ∧ q ≤ 15) (h3 : ¬ ((0 ≤ x) ∧ (x < p.w) ∧ (x % 8 = 0) ∧ (0 ≤ y) ∧ (y < p.h) ∧ (y % 8 = 0))) :
 Calls Tryd.prog 54 #[.agg #[.int .i64 ref.w, .int .i64 ref.h, .slice a n c], .agg #[.int .i64 p.w, .int .i64 p.h, .slice b l d], .int .i64 x, .int .i64 y, .agg (ic m.zs), .int .i64 q, .int .i64 top] w fun e w' => e = .returned (.bool false) ∧ Ext w w' := by
 have HN := Lib.hid hn
 have HL := Lib.hid hl
 have HM := Lib.hid hm
 have Hl := Lib.hid (Mac.zs_len hm)
 clear hn hl hm
 have fk : (m.kind == 2) = true := by simpa using hk
 clear hk
 have D0 := Lib.hid (show decide (p.valid) = true from decide_eq_true h0)
 have D1 := Lib.hid (show decide (m.valid) = true from decide_eq_true h1)
 have Q2 := Lib.hid h2
 have D3 := Lib.hid (show decide ((0 ≤ x) ∧ (x < p.w) ∧ (x % 8 = 0) ∧ (0 ≤ y) ∧ (y < p.h) ∧ (y % 8 = 0)) = false from decide_eq_false h3)
 have a0_1 := Ext.alloc (w.alloc (.cells #[.int .i64 ref.w, .int .i64 ref.h, .slice a n c] 25)) (.cells #[.int .i64 p.w, .int .i64 p.h, .slice b l d] 25)
 have a0_2 := Ext.alloc ((w.alloc (.cells #[.int .i64 ref.w, .int .i64 ref.h, .slice a n c] 25)).alloc (.cells #[.int .i64 p.w, .int .i64 p.h, .slice b l d] 25)) (.cells (ic m.zs) 34)
 have X0_0 := a0_2.blk (a0_1.blk (blk_new w (.cells #[.int .i64 ref.w, .int .i64 ref.h, .slice a n c] 25)))
 have a1_2 := Ext.alloc ((w.alloc (.cells #[.int .i64 ref.w, .int .i64 ref.h, .slice a n c] 25)).alloc (.cells #[.int .i64 p.w, .int .i64 p.h, .slice b l d] 25)) (.cells (ic m.zs) 34)
 have X1_0 := a1_2.blk (blk_new (w.alloc (.cells #[.int .i64 ref.w, .int .i64 ref.h, .slice a n c] 25)) (.cells #[.int .i64 p.w, .int .i64 p.h, .slice b l d] 25))
 have X2_0 := IB.new ((w.alloc (.cells #[.int .i64 ref.w, .int .i64 ref.h, .slice a n c] 25)).alloc (.cells #[.int .i64 p.w, .int .i64 p.h, .slice b l d] 25)) 34 m.zs
 have E_0 := ((Ext.alloc w (.cells #[.int .i64 ref.w, .int .i64 ref.h, .slice a n c] 25)).trans (Ext.alloc (w.alloc (.cells #[.int .i64 ref.w, .int .i64 ref.h, .slice a n c] 25)) (.cells #[.int .i64 p.w, .int .i64 p.h, .slice b l d] 25))).trans (Ext.alloc ((w.alloc (.cells #[.int .i64 ref.w, .int .i64 ref.h, .slice a n c] 25)).alloc (.cells #[.int .i64 p.w, .int .i64 p.h, .slice b l d] 25)) (.cells (ic m.zs) 34))
 simp only [World.size_alloc] at X1_0 X2_0
 clear a0_1 a0_2 a1_2 h0 h1 h2 h3
 obtain ⟨-, k0_0, k0_1, k0_2, -⟩ := bx3 X0_0
 obtain ⟨-, k1_0, k1_1, k1_2, -⟩ := bx3 X1_0
 have k2_0 := X2_0.cell (i := 0) (by rw [Hl.out]; omega)
 rw [Mac.zs_kind] at k2_0
 go_enter Tryd.func54, Tryd.ntmps54
 go_wp2_with fail
 refine (impl_PictureValid_any p b d l _ HL.out lc (s.ext E_0)).mono ?_
 rw [D0.out]
 rintro e w_1 ⟨rfl, e_1⟩
 have X0_1 := e_1.blk X0_0
 have X1_1 := e_1.blk X1_0
 have X2_1 := X2_0.ext e_1
 have E_1 := E_0.trans e_1
 clear k0_0 k0_1 k0_2 X0_0 k1_0 k1_1 k1_2 X1_0 k2_0 X2_0 E_0 e_1
 obtain ⟨-, k0_0, k0_1, k0_2, -⟩ := bx3 X0_1
 obtain ⟨-, k1_0, k1_1, k1_2, -⟩ := bx3 X1_1
 have k2_0 := X2_1.cell (i := 0) (by rw [Hl.out]; omega)
 rw [Mac.zs_kind] at k2_0
 go_wp2_with (refine wpList_iload 34 _ rfl rfl X2_1 0 71 rfl _ Tryd.underlying34 rfl size_Macro (by rw [Hl.out]; omega) _ (by rw [sub_all _ _ Hl.out]) ?_)
 refine (impl_MacroValid_any m _ HM.out).mono ?_
 rw [D1.out]
 rintro e w_2 ⟨rfl, e_2⟩
 have X0_2 := e_2.blk X0_1
 have X1_2 := e_2.blk X1_1
 have X2_2 := X2_1.ext e_2
 have E_2 := E_1.trans e_2
 clear k0_0 k0_1 k0_2 X0_1 k1_0 k1_1 k1_2 X1_1 k2_0 X2_1 E_1 e_2
 obtain ⟨-, k0_0, k0_1, k0_2, -⟩ := bx3 X0_2
 obtain ⟨-, k1_0, k1_1, k1_2, -⟩ := bx3 X1_2
 have k2_0 := X2_2.cell (i := 0) (by rw [Hl.out]; omega)
 rw [Mac.zs_kind] at k2_0
 go_wp2_with fail
 refine (qV_in q _ Q2.out).mono ?_
 rintro e w_s2 ⟨rfl, rfl⟩
 go_wp2_with fail
 refine (begins_any p x y b d l _).mono ?_
 rw [D3.out]
 rintro e w_3 ⟨rfl, e_3⟩
 have X0_3 := e_3.blk X0_2
 have X1_3 := e_3.blk X1_2
 have X2_3 := X2_2.ext e_3
 have E_3 := E_2.trans e_3
 clear k0_0 k0_1 k0_2 X0_2 k1_0 k1_1 k1_2 X1_2 k2_0 X2_2 E_2 e_3
 obtain ⟨-, k0_0, k0_1, k0_2, -⟩ := bx3 X0_3
 obtain ⟨-, k1_0, k1_1, k1_2, -⟩ := bx3 X1_3
 have k2_0 := X2_3.cell (i := 0) (by rw [Hl.out]; omega)
 rw [Mac.zs_kind] at k2_0
 go_wp2
 go_ret
 exact ⟨rfl, E_3⟩
set_option maxRecDepth 100000 in
theorem reconstructsK_4 (ref p : Pic) (x y : Int) (m : Mac) (q top : Int) (a b : Option Addr) (c d n l : Nat) (w : World) (hn : n = ref.px.length) (hl : l = p.px.length) (nc : n ≤ 9223372036854775807) (lc : l ≤ 9223372036854775807) (r : Sl w a n (ref.px.map (Value.int .i64))) (s : Sl w b l (p.px.map (Value.int .i64))) (hm : m.ok) (hk : m.kind = 2) (h0 : p.valid) (h1 : m.valid) (h2 : 0 ≤ q ∧ q ≤ 15) (h3 : (0 ≤ x) ∧ (x < p.w) ∧ (x % 8 = 0) ∧ (0 ≤ y) ∧ (y < p.h) ∧ (y % 8 = 0)) (h4 : ¬ (0 ≤ top)) :
 Calls Tryd.prog 54 #[.agg #[.int .i64 ref.w, .int .i64 ref.h, .slice a n c], .agg #[.int .i64 p.w, .int .i64 p.h, .slice b l d], .int .i64 x, .int .i64 y, .agg (ic m.zs), .int .i64 q, .int .i64 top] w fun e w' => e = .returned (.bool false) ∧ Ext w w' := by
 have HN := Lib.hid hn
 have HL := Lib.hid hl
 have HM := Lib.hid hm
 have Hl := Lib.hid (Mac.zs_len hm)
 clear hn hl hm
 have fk : (m.kind == 2) = true := by simpa using hk
 clear hk
 have D0 := Lib.hid (show decide (p.valid) = true from decide_eq_true h0)
 have D1 := Lib.hid (show decide (m.valid) = true from decide_eq_true h1)
 have Q2 := Lib.hid h2
 have D3 := Lib.hid (show decide ((0 ≤ x) ∧ (x < p.w) ∧ (x % 8 = 0) ∧ (0 ≤ y) ∧ (y < p.h) ∧ (y % 8 = 0)) = true from decide_eq_true h3)
 have f4 : decide (top < 0) = true := by simpa using h4
 have a0_1 := Ext.alloc (w.alloc (.cells #[.int .i64 ref.w, .int .i64 ref.h, .slice a n c] 25)) (.cells #[.int .i64 p.w, .int .i64 p.h, .slice b l d] 25)
 have a0_2 := Ext.alloc ((w.alloc (.cells #[.int .i64 ref.w, .int .i64 ref.h, .slice a n c] 25)).alloc (.cells #[.int .i64 p.w, .int .i64 p.h, .slice b l d] 25)) (.cells (ic m.zs) 34)
 have X0_0 := a0_2.blk (a0_1.blk (blk_new w (.cells #[.int .i64 ref.w, .int .i64 ref.h, .slice a n c] 25)))
 have a1_2 := Ext.alloc ((w.alloc (.cells #[.int .i64 ref.w, .int .i64 ref.h, .slice a n c] 25)).alloc (.cells #[.int .i64 p.w, .int .i64 p.h, .slice b l d] 25)) (.cells (ic m.zs) 34)
 have X1_0 := a1_2.blk (blk_new (w.alloc (.cells #[.int .i64 ref.w, .int .i64 ref.h, .slice a n c] 25)) (.cells #[.int .i64 p.w, .int .i64 p.h, .slice b l d] 25))
 have X2_0 := IB.new ((w.alloc (.cells #[.int .i64 ref.w, .int .i64 ref.h, .slice a n c] 25)).alloc (.cells #[.int .i64 p.w, .int .i64 p.h, .slice b l d] 25)) 34 m.zs
 have E_0 := ((Ext.alloc w (.cells #[.int .i64 ref.w, .int .i64 ref.h, .slice a n c] 25)).trans (Ext.alloc (w.alloc (.cells #[.int .i64 ref.w, .int .i64 ref.h, .slice a n c] 25)) (.cells #[.int .i64 p.w, .int .i64 p.h, .slice b l d] 25))).trans (Ext.alloc ((w.alloc (.cells #[.int .i64 ref.w, .int .i64 ref.h, .slice a n c] 25)).alloc (.cells #[.int .i64 p.w, .int .i64 p.h, .slice b l d] 25)) (.cells (ic m.zs) 34))
 simp only [World.size_alloc] at X1_0 X2_0
 clear a0_1 a0_2 a1_2 h0 h1 h2 h3
 obtain ⟨-, k0_0, k0_1, k0_2, -⟩ := bx3 X0_0
 obtain ⟨-, k1_0, k1_1, k1_2, -⟩ := bx3 X1_0
 have k2_0 := X2_0.cell (i := 0) (by rw [Hl.out]; omega)
 rw [Mac.zs_kind] at k2_0
 go_enter Tryd.func54, Tryd.ntmps54
 go_wp2_with fail
 refine (impl_PictureValid_any p b d l _ HL.out lc (s.ext E_0)).mono ?_
 rw [D0.out]
 rintro e w_1 ⟨rfl, e_1⟩
 have X0_1 := e_1.blk X0_0
 have X1_1 := e_1.blk X1_0
 have X2_1 := X2_0.ext e_1
 have E_1 := E_0.trans e_1
 clear k0_0 k0_1 k0_2 X0_0 k1_0 k1_1 k1_2 X1_0 k2_0 X2_0 E_0 e_1
 obtain ⟨-, k0_0, k0_1, k0_2, -⟩ := bx3 X0_1
 obtain ⟨-, k1_0, k1_1, k1_2, -⟩ := bx3 X1_1
 have k2_0 := X2_1.cell (i := 0) (by rw [Hl.out]; omega)
 rw [Mac.zs_kind] at k2_0
 go_wp2_with (refine wpList_iload 34 _ rfl rfl X2_1 0 71 rfl _ Tryd.underlying34 rfl size_Macro (by rw [Hl.out]; omega) _ (by rw [sub_all _ _ Hl.out]) ?_)
 refine (impl_MacroValid_any m _ HM.out).mono ?_
 rw [D1.out]
 rintro e w_2 ⟨rfl, e_2⟩
 have X0_2 := e_2.blk X0_1
 have X1_2 := e_2.blk X1_1
 have X2_2 := X2_1.ext e_2
 have E_2 := E_1.trans e_2
 clear k0_0 k0_1 k0_2 X0_1 k1_0 k1_1 k1_2 X1_1 k2_0 X2_1 E_1 e_2
 obtain ⟨-, k0_0, k0_1, k0_2, -⟩ := bx3 X0_2
 obtain ⟨-, k1_0, k1_1, k1_2, -⟩ := bx3 X1_2
 have k2_0 := X2_2.cell (i := 0) (by rw [Hl.out]; omega)
 rw [Mac.zs_kind] at k2_0
 go_wp2_with fail
 refine (qV_in q _ Q2.out).mono ?_
 rintro e w_s2 ⟨rfl, rfl⟩
 go_wp2_with fail
 refine (begins_any p x y b d l _).mono ?_
 rw [D3.out]
 rintro e w_3 ⟨rfl, e_3⟩
 have X0_3 := e_3.blk X0_2
 have X1_3 := e_3.blk X1_2
 have X2_3 := X2_2.ext e_3
 have E_3 := E_2.trans e_3
 clear k0_0 k0_1 k0_2 X0_2 k1_0 k1_1 k1_2 X1_2 k2_0 X2_2 E_2 e_3
 obtain ⟨-, k0_0, k0_1, k0_2, -⟩ := bx3 X0_3
 obtain ⟨-, k1_0, k1_1, k1_2, -⟩ := bx3 X1_3
 have k2_0 := X2_3.cell (i := 0) (by rw [Hl.out]; omega)
 rw [Mac.zs_kind] at k2_0
 go_wp2
 go_ret
 exact ⟨rfl, E_3⟩
set_option maxRecDepth 100000 in
theorem reconstructsK_5 (ref p : Pic) (x y : Int) (m : Mac) (q top : Int) (a b : Option Addr) (c d n l : Nat) (w : World) (hn : n = ref.px.length) (hl : l = p.px.length) (nc : n ≤ 9223372036854775807) (lc : l ≤ 9223372036854775807) (r : Sl w a n (ref.px.map (Value.int .i64))) (s : Sl w b l (p.px.map (Value.int .i64))) (hm : m.ok) (hk : m.kind = 2) (h0 : p.valid) (h1 : m.valid) (h2 : 0 ≤ q ∧ q ≤ 15) (h3 : (0 ≤ x) ∧ (x < p.w) ∧ (x % 8 = 0) ∧ (0 ≤ y) ∧ (y < p.h) ∧ (y % 8 = 0)) (h4 : 0 ≤ top) (h5 : ¬ (top ≤ y)) :
 Calls Tryd.prog 54 #[.agg #[.int .i64 ref.w, .int .i64 ref.h, .slice a n c], .agg #[.int .i64 p.w, .int .i64 p.h, .slice b l d], .int .i64 x, .int .i64 y, .agg (ic m.zs), .int .i64 q, .int .i64 top] w fun e w' => e = .returned (.bool false) ∧ Ext w w' := by
 have HN := Lib.hid hn
 have HL := Lib.hid hl
 have HM := Lib.hid hm
 have Hl := Lib.hid (Mac.zs_len hm)
 clear hn hl hm
 have fk : (m.kind == 2) = true := by simpa using hk
 clear hk
 have D0 := Lib.hid (show decide (p.valid) = true from decide_eq_true h0)
 have D1 := Lib.hid (show decide (m.valid) = true from decide_eq_true h1)
 have Q2 := Lib.hid h2
 have D3 := Lib.hid (show decide ((0 ≤ x) ∧ (x < p.w) ∧ (x % 8 = 0) ∧ (0 ≤ y) ∧ (y < p.h) ∧ (y % 8 = 0)) = true from decide_eq_true h3)
 have f4 : decide (top < 0) = false := by simpa using h4
 have f5 : decide (y < top) = true := by simpa using h5
 have a0_1 := Ext.alloc (w.alloc (.cells #[.int .i64 ref.w, .int .i64 ref.h, .slice a n c] 25)) (.cells #[.int .i64 p.w, .int .i64 p.h, .slice b l d] 25)
 have a0_2 := Ext.alloc ((w.alloc (.cells #[.int .i64 ref.w, .int .i64 ref.h, .slice a n c] 25)).alloc (.cells #[.int .i64 p.w, .int .i64 p.h, .slice b l d] 25)) (.cells (ic m.zs) 34)
 have X0_0 := a0_2.blk (a0_1.blk (blk_new w (.cells #[.int .i64 ref.w, .int .i64 ref.h, .slice a n c] 25)))
 have a1_2 := Ext.alloc ((w.alloc (.cells #[.int .i64 ref.w, .int .i64 ref.h, .slice a n c] 25)).alloc (.cells #[.int .i64 p.w, .int .i64 p.h, .slice b l d] 25)) (.cells (ic m.zs) 34)
 have X1_0 := a1_2.blk (blk_new (w.alloc (.cells #[.int .i64 ref.w, .int .i64 ref.h, .slice a n c] 25)) (.cells #[.int .i64 p.w, .int .i64 p.h, .slice b l d] 25))
 have X2_0 := IB.new ((w.alloc (.cells #[.int .i64 ref.w, .int .i64 ref.h, .slice a n c] 25)).alloc (.cells #[.int .i64 p.w, .int .i64 p.h, .slice b l d] 25)) 34 m.zs
 have E_0 := ((Ext.alloc w (.cells #[.int .i64 ref.w, .int .i64 ref.h, .slice a n c] 25)).trans (Ext.alloc (w.alloc (.cells #[.int .i64 ref.w, .int .i64 ref.h, .slice a n c] 25)) (.cells #[.int .i64 p.w, .int .i64 p.h, .slice b l d] 25))).trans (Ext.alloc ((w.alloc (.cells #[.int .i64 ref.w, .int .i64 ref.h, .slice a n c] 25)).alloc (.cells #[.int .i64 p.w, .int .i64 p.h, .slice b l d] 25)) (.cells (ic m.zs) 34))
 simp only [World.size_alloc] at X1_0 X2_0
 clear a0_1 a0_2 a1_2 h0 h1 h2 h3
 obtain ⟨-, k0_0, k0_1, k0_2, -⟩ := bx3 X0_0
 obtain ⟨-, k1_0, k1_1, k1_2, -⟩ := bx3 X1_0
 have k2_0 := X2_0.cell (i := 0) (by rw [Hl.out]; omega)
 rw [Mac.zs_kind] at k2_0
 go_enter Tryd.func54, Tryd.ntmps54
 go_wp2_with fail
 refine (impl_PictureValid_any p b d l _ HL.out lc (s.ext E_0)).mono ?_
 rw [D0.out]
 rintro e w_1 ⟨rfl, e_1⟩
 have X0_1 := e_1.blk X0_0
 have X1_1 := e_1.blk X1_0
 have X2_1 := X2_0.ext e_1
 have E_1 := E_0.trans e_1
 clear k0_0 k0_1 k0_2 X0_0 k1_0 k1_1 k1_2 X1_0 k2_0 X2_0 E_0 e_1
 obtain ⟨-, k0_0, k0_1, k0_2, -⟩ := bx3 X0_1
 obtain ⟨-, k1_0, k1_1, k1_2, -⟩ := bx3 X1_1
 have k2_0 := X2_1.cell (i := 0) (by rw [Hl.out]; omega)
 rw [Mac.zs_kind] at k2_0
 go_wp2_with (refine wpList_iload 34 _ rfl rfl X2_1 0 71 rfl _ Tryd.underlying34 rfl size_Macro (by rw [Hl.out]; omega) _ (by rw [sub_all _ _ Hl.out]) ?_)
 refine (impl_MacroValid_any m _ HM.out).mono ?_
 rw [D1.out]
 rintro e w_2 ⟨rfl, e_2⟩
 have X0_2 := e_2.blk X0_1
 have X1_2 := e_2.blk X1_1
 have X2_2 := X2_1.ext e_2
 have E_2 := E_1.trans e_2
 clear k0_0 k0_1 k0_2 X0_1 k1_0 k1_1 k1_2 X1_1 k2_0 X2_1 E_1 e_2
 obtain ⟨-, k0_0, k0_1, k0_2, -⟩ := bx3 X0_2
 obtain ⟨-, k1_0, k1_1, k1_2, -⟩ := bx3 X1_2
 have k2_0 := X2_2.cell (i := 0) (by rw [Hl.out]; omega)
 rw [Mac.zs_kind] at k2_0
 go_wp2_with fail
 refine (qV_in q _ Q2.out).mono ?_
 rintro e w_s2 ⟨rfl, rfl⟩
 go_wp2_with fail
 refine (begins_any p x y b d l _).mono ?_
 rw [D3.out]
 rintro e w_3 ⟨rfl, e_3⟩
 have X0_3 := e_3.blk X0_2
 have X1_3 := e_3.blk X1_2
 have X2_3 := X2_2.ext e_3
 have E_3 := E_2.trans e_3
 clear k0_0 k0_1 k0_2 X0_2 k1_0 k1_1 k1_2 X1_2 k2_0 X2_2 E_2 e_3
 obtain ⟨-, k0_0, k0_1, k0_2, -⟩ := bx3 X0_3
 obtain ⟨-, k1_0, k1_1, k1_2, -⟩ := bx3 X1_3
 have k2_0 := X2_3.cell (i := 0) (by rw [Hl.out]; omega)
 rw [Mac.zs_kind] at k2_0
 go_wp2
 go_ret
 exact ⟨rfl, E_3⟩
set_option maxRecDepth 100000 in
theorem reconstructsK_6 (ref p : Pic) (x y : Int) (m : Mac) (q top : Int) (a b : Option Addr) (c d n l : Nat) (w : World) (hn : n = ref.px.length) (hl : l = p.px.length) (nc : n ≤ 9223372036854775807) (lc : l ≤ 9223372036854775807) (r : Sl w a n (ref.px.map (Value.int .i64))) (s : Sl w b l (p.px.map (Value.int .i64))) (hm : m.ok) (hk : m.kind = 2) (h0 : p.valid) (h1 : m.valid) (h2 : 0 ≤ q ∧ q ≤ 15) (h3 : (0 ≤ x) ∧ (x < p.w) ∧ (x % 8 = 0) ∧ (0 ≤ y) ∧ (y < p.h) ∧ (y % 8 = 0)) (h4 : 0 ≤ top) (h5 : top ≤ y) :
 Calls Tryd.prog 54 #[.agg #[.int .i64 ref.w, .int .i64 ref.h, .slice a n c], .agg #[.int .i64 p.w, .int .i64 p.h, .slice b l d], .int .i64 x, .int .i64 y, .agg (ic m.zs), .int .i64 q, .int .i64 top] w fun e w' => e = .returned (.bool true) ∧ Ext w w' := by
 have HN := Lib.hid hn
 have HL := Lib.hid hl
 have HM := Lib.hid hm
 have Hl := Lib.hid (Mac.zs_len hm)
 clear hn hl hm
 have fk : (m.kind == 2) = true := by simpa using hk
 clear hk
 have D0 := Lib.hid (show decide (p.valid) = true from decide_eq_true h0)
 have D1 := Lib.hid (show decide (m.valid) = true from decide_eq_true h1)
 have Q2 := Lib.hid h2
 have D3 := Lib.hid (show decide ((0 ≤ x) ∧ (x < p.w) ∧ (x % 8 = 0) ∧ (0 ≤ y) ∧ (y < p.h) ∧ (y % 8 = 0)) = true from decide_eq_true h3)
 have f4 : decide (top < 0) = false := by simpa using h4
 have f5 : decide (y < top) = false := by simpa using h5
 have a0_1 := Ext.alloc (w.alloc (.cells #[.int .i64 ref.w, .int .i64 ref.h, .slice a n c] 25)) (.cells #[.int .i64 p.w, .int .i64 p.h, .slice b l d] 25)
 have a0_2 := Ext.alloc ((w.alloc (.cells #[.int .i64 ref.w, .int .i64 ref.h, .slice a n c] 25)).alloc (.cells #[.int .i64 p.w, .int .i64 p.h, .slice b l d] 25)) (.cells (ic m.zs) 34)
 have X0_0 := a0_2.blk (a0_1.blk (blk_new w (.cells #[.int .i64 ref.w, .int .i64 ref.h, .slice a n c] 25)))
 have a1_2 := Ext.alloc ((w.alloc (.cells #[.int .i64 ref.w, .int .i64 ref.h, .slice a n c] 25)).alloc (.cells #[.int .i64 p.w, .int .i64 p.h, .slice b l d] 25)) (.cells (ic m.zs) 34)
 have X1_0 := a1_2.blk (blk_new (w.alloc (.cells #[.int .i64 ref.w, .int .i64 ref.h, .slice a n c] 25)) (.cells #[.int .i64 p.w, .int .i64 p.h, .slice b l d] 25))
 have X2_0 := IB.new ((w.alloc (.cells #[.int .i64 ref.w, .int .i64 ref.h, .slice a n c] 25)).alloc (.cells #[.int .i64 p.w, .int .i64 p.h, .slice b l d] 25)) 34 m.zs
 have E_0 := ((Ext.alloc w (.cells #[.int .i64 ref.w, .int .i64 ref.h, .slice a n c] 25)).trans (Ext.alloc (w.alloc (.cells #[.int .i64 ref.w, .int .i64 ref.h, .slice a n c] 25)) (.cells #[.int .i64 p.w, .int .i64 p.h, .slice b l d] 25))).trans (Ext.alloc ((w.alloc (.cells #[.int .i64 ref.w, .int .i64 ref.h, .slice a n c] 25)).alloc (.cells #[.int .i64 p.w, .int .i64 p.h, .slice b l d] 25)) (.cells (ic m.zs) 34))
 simp only [World.size_alloc] at X1_0 X2_0
 clear a0_1 a0_2 a1_2 h0 h1 h2 h3
 obtain ⟨-, k0_0, k0_1, k0_2, -⟩ := bx3 X0_0
 obtain ⟨-, k1_0, k1_1, k1_2, -⟩ := bx3 X1_0
 have k2_0 := X2_0.cell (i := 0) (by rw [Hl.out]; omega)
 rw [Mac.zs_kind] at k2_0
 go_enter Tryd.func54, Tryd.ntmps54
 go_wp2_with fail
 refine (impl_PictureValid_any p b d l _ HL.out lc (s.ext E_0)).mono ?_
 rw [D0.out]
 rintro e w_1 ⟨rfl, e_1⟩
 have X0_1 := e_1.blk X0_0
 have X1_1 := e_1.blk X1_0
 have X2_1 := X2_0.ext e_1
 have E_1 := E_0.trans e_1
 clear k0_0 k0_1 k0_2 X0_0 k1_0 k1_1 k1_2 X1_0 k2_0 X2_0 E_0 e_1
 obtain ⟨-, k0_0, k0_1, k0_2, -⟩ := bx3 X0_1
 obtain ⟨-, k1_0, k1_1, k1_2, -⟩ := bx3 X1_1
 have k2_0 := X2_1.cell (i := 0) (by rw [Hl.out]; omega)
 rw [Mac.zs_kind] at k2_0
 go_wp2_with (refine wpList_iload 34 _ rfl rfl X2_1 0 71 rfl _ Tryd.underlying34 rfl size_Macro (by rw [Hl.out]; omega) _ (by rw [sub_all _ _ Hl.out]) ?_)
 refine (impl_MacroValid_any m _ HM.out).mono ?_
 rw [D1.out]
 rintro e w_2 ⟨rfl, e_2⟩
 have X0_2 := e_2.blk X0_1
 have X1_2 := e_2.blk X1_1
 have X2_2 := X2_1.ext e_2
 have E_2 := E_1.trans e_2
 clear k0_0 k0_1 k0_2 X0_1 k1_0 k1_1 k1_2 X1_1 k2_0 X2_1 E_1 e_2
 obtain ⟨-, k0_0, k0_1, k0_2, -⟩ := bx3 X0_2
 obtain ⟨-, k1_0, k1_1, k1_2, -⟩ := bx3 X1_2
 have k2_0 := X2_2.cell (i := 0) (by rw [Hl.out]; omega)
 rw [Mac.zs_kind] at k2_0
 go_wp2_with fail
 refine (qV_in q _ Q2.out).mono ?_
 rintro e w_s2 ⟨rfl, rfl⟩
 go_wp2_with fail
 refine (begins_any p x y b d l _).mono ?_
 rw [D3.out]
 rintro e w_3 ⟨rfl, e_3⟩
 have X0_3 := e_3.blk X0_2
 have X1_3 := e_3.blk X1_2
 have X2_3 := X2_2.ext e_3
 have E_3 := E_2.trans e_3
 clear k0_0 k0_1 k0_2 X0_2 k1_0 k1_1 k1_2 X1_2 k2_0 X2_2 E_2 e_3
 obtain ⟨-, k0_0, k0_1, k0_2, -⟩ := bx3 X0_3
 obtain ⟨-, k1_0, k1_1, k1_2, -⟩ := bx3 X1_3
 have k2_0 := X2_3.cell (i := 0) (by rw [Hl.out]; omega)
 rw [Mac.zs_kind] at k2_0
 go_wp2
 go_ret
 exact ⟨rfl, E_3⟩
theorem reconstructsK_any (ref p : Pic) (x y : Int) (m : Mac) (q top : Int) (a b : Option Addr) (c d n l : Nat) (w : World) (hn : n = ref.px.length) (hl : l = p.px.length) (nc : n ≤ 9223372036854775807) (lc : l ≤ 9223372036854775807) (r : Sl w a n (ref.px.map (Value.int .i64))) (s : Sl w b l (p.px.map (Value.int .i64))) (hm : m.ok) (hk : m.kind = 2) :
 Calls Tryd.prog 54 #[.agg #[.int .i64 ref.w, .int .i64 ref.h, .slice a n c], .agg #[.int .i64 p.w, .int .i64 p.h, .slice b l d], .int .i64 x, .int .i64 y, .agg (ic m.zs), .int .i64 q, .int .i64 top] w fun e w' => e = .returned (.bool (decide ((p.valid) ∧ (m.valid) ∧ (0 ≤ q ∧ q ≤ 15) ∧ ((0 ≤ x) ∧ (x < p.w) ∧ (x % 8 = 0) ∧ (0 ≤ y) ∧ (y < p.h) ∧ (y % 8 = 0)) ∧ (0 ≤ top) ∧ (top ≤ y)))) ∧ Ext w w' := by
 by_cases h0 : p.valid
 ·skip
  by_cases h1 : m.valid
  ·skip
   by_cases h2 : 0 ≤ q ∧ q ≤ 15
   ·skip
    by_cases h3 : (0 ≤ x) ∧ (x < p.w) ∧ (x % 8 = 0) ∧ (0 ≤ y) ∧ (y < p.h) ∧ (y % 8 = 0)
    ·skip
     by_cases h4 : 0 ≤ top
     ·skip
      by_cases h5 : top ≤ y
      ·rw [decide_eq_true (show (p.valid) ∧ (m.valid) ∧ (0 ≤ q ∧ q ≤ 15) ∧ ((0 ≤ x) ∧ (x < p.w) ∧ (x % 8 = 0) ∧ (0 ≤ y) ∧ (y < p.h) ∧ (y % 8 = 0)) ∧ (0 ≤ top) ∧ (top ≤ y) from ⟨h0, h1, h2, h3, h4, h5⟩)]
       exact reconstructsK_6 ref p x y m q top a b c d n l w hn hl nc lc r s hm hk h0 h1 h2 h3 h4 h5
      ·rw [decide_eq_false (show ¬ ((p.valid) ∧ (m.valid) ∧ (0 ≤ q ∧ q ≤ 15) ∧ ((0 ≤ x) ∧ (x < p.w) ∧ (x % 8 = 0) ∧ (0 ≤ y) ∧ (y < p.h) ∧ (y % 8 = 0)) ∧ (0 ≤ top) ∧ (top ≤ y)) from fun hh => h5 (hh.2.2.2.2.2))]
       exact reconstructsK_5 ref p x y m q top a b c d n l w hn hl nc lc r s hm hk h0 h1 h2 h3 h4 h5
     ·rw [decide_eq_false (show ¬ ((p.valid) ∧ (m.valid) ∧ (0 ≤ q ∧ q ≤ 15) ∧ ((0 ≤ x) ∧ (x < p.w) ∧ (x % 8 = 0) ∧ (0 ≤ y) ∧ (y < p.h) ∧ (y % 8 = 0)) ∧ (0 ≤ top) ∧ (top ≤ y)) from fun hh => h4 (hh.2.2.2.2.1))]
      exact reconstructsK_4 ref p x y m q top a b c d n l w hn hl nc lc r s hm hk h0 h1 h2 h3 h4
    ·rw [decide_eq_false (show ¬ ((p.valid) ∧ (m.valid) ∧ (0 ≤ q ∧ q ≤ 15) ∧ ((0 ≤ x) ∧ (x < p.w) ∧ (x % 8 = 0) ∧ (0 ≤ y) ∧ (y < p.h) ∧ (y % 8 = 0)) ∧ (0 ≤ top) ∧ (top ≤ y)) from fun hh => h3 (hh.2.2.2.1))]
     exact reconstructsK_3 ref p x y m q top a b c d n l w hn hl nc lc r s hm hk h0 h1 h2 h3
   ·rw [decide_eq_false (show ¬ ((p.valid) ∧ (m.valid) ∧ (0 ≤ q ∧ q ≤ 15) ∧ ((0 ≤ x) ∧ (x < p.w) ∧ (x % 8 = 0) ∧ (0 ≤ y) ∧ (y < p.h) ∧ (y % 8 = 0)) ∧ (0 ≤ top) ∧ (top ≤ y)) from fun hh => h2 (hh.2.2.1))]
    exact reconstructsK_2 ref p x y m q top a b c d n l w hn hl nc lc r s hm hk h0 h1 h2
  ·rw [decide_eq_false (show ¬ ((p.valid) ∧ (m.valid) ∧ (0 ≤ q ∧ q ≤ 15) ∧ ((0 ≤ x) ∧ (x < p.w) ∧ (x % 8 = 0) ∧ (0 ≤ y) ∧ (y < p.h) ∧ (y % 8 = 0)) ∧ (0 ≤ top) ∧ (top ≤ y)) from fun hh => h1 (hh.2.1))]
   exact reconstructsK_1 ref p x y m q top a b c d n l w hn hl nc lc r s hm hk h0 h1
 ·rw [decide_eq_false (show ¬ ((p.valid) ∧ (m.valid) ∧ (0 ≤ q ∧ q ≤ 15) ∧ ((0 ≤ x) ∧ (x < p.w) ∧ (x % 8 = 0) ∧ (0 ≤ y) ∧ (y < p.h) ∧ (y % 8 = 0)) ∧ (0 ≤ top) ∧ (top ≤ y)) from fun hh => h0 (hh.1))]
  exact reconstructsK_0 ref p x y m q top a b c d n l w hn hl nc lc r s hm hk h0
set_option maxRecDepth 100000 in
theorem reconstructsN_0 (ref p : Pic) (x y : Int) (m : Mac) (q top : Int) (a b : Option Addr) (c d n l : Nat) (w : World) (hn : n = ref.px.length) (hl : l = p.px.length) (nc : n ≤ 9223372036854775807) (lc : l ≤ 9223372036854775807) (r : Sl w a n (ref.px.map (Value.int .i64))) (s : Sl w b l (p.px.map (Value.int .i64))) (hm : m.ok) (hk : ¬ m.kind = 2)  (h0 : ¬ (p.valid)) :
 Calls Tryd.prog 54 #[.agg #[.int .i64 ref.w, .int .i64 ref.h, .slice a n c], .agg #[.int .i64 p.w, .int .i64 p.h, .slice b l d], .int .i64 x, .int .i64 y, .agg (ic m.zs), .int .i64 q, .int .i64 top] w fun e w' => e = .returned (.bool false) ∧ Ext w w' := by
 have HN := Lib.hid hn
 have HL := Lib.hid hl
 have HM := Lib.hid hm
 have Hl := Lib.hid (Mac.zs_len hm)
 clear hn hl hm
 have fk : (m.kind == 2) = false := by simpa using hk
 clear hk
 have D0 := Lib.hid (show decide (p.valid) = false from decide_eq_false h0)
 have a0_1 := Ext.alloc (w.alloc (.cells #[.int .i64 ref.w, .int .i64 ref.h, .slice a n c] 25)) (.cells #[.int .i64 p.w, .int .i64 p.h, .slice b l d] 25)
 have a0_2 := Ext.alloc ((w.alloc (.cells #[.int .i64 ref.w, .int .i64 ref.h, .slice a n c] 25)).alloc (.cells #[.int .i64 p.w, .int .i64 p.h, .slice b l d] 25)) (.cells (ic m.zs) 34)
 have X0_0 := a0_2.blk (a0_1.blk (blk_new w (.cells #[.int .i64 ref.w, .int .i64 ref.h, .slice a n c] 25)))
 have a1_2 := Ext.alloc ((w.alloc (.cells #[.int .i64 ref.w, .int .i64 ref.h, .slice a n c] 25)).alloc (.cells #[.int .i64 p.w, .int .i64 p.h, .slice b l d] 25)) (.cells (ic m.zs) 34)
 have X1_0 := a1_2.blk (blk_new (w.alloc (.cells #[.int .i64 ref.w, .int .i64 ref.h, .slice a n c] 25)) (.cells #[.int .i64 p.w, .int .i64 p.h, .slice b l d] 25))
 have X2_0 := IB.new ((w.alloc (.cells #[.int .i64 ref.w, .int .i64 ref.h, .slice a n c] 25)).alloc (.cells #[.int .i64 p.w, .int .i64 p.h, .slice b l d] 25)) 34 m.zs
 have E_0 := ((Ext.alloc w (.cells #[.int .i64 ref.w, .int .i64 ref.h, .slice a n c] 25)).trans (Ext.alloc (w.alloc (.cells #[.int .i64 ref.w, .int .i64 ref.h, .slice a n c] 25)) (.cells #[.int .i64 p.w, .int .i64 p.h, .slice b l d] 25))).trans (Ext.alloc ((w.alloc (.cells #[.int .i64 ref.w, .int .i64 ref.h, .slice a n c] 25)).alloc (.cells #[.int .i64 p.w, .int .i64 p.h, .slice b l d] 25)) (.cells (ic m.zs) 34))
 simp only [World.size_alloc] at X1_0 X2_0
 clear a0_1 a0_2 a1_2 h0
 obtain ⟨-, k0_0, k0_1, k0_2, -⟩ := bx3 X0_0
 obtain ⟨-, k1_0, k1_1, k1_2, -⟩ := bx3 X1_0
 have k2_0 := X2_0.cell (i := 0) (by rw [Hl.out]; omega)
 rw [Mac.zs_kind] at k2_0
 go_enter Tryd.func54, Tryd.ntmps54
 go_wp2_with fail
 refine (impl_PictureValid_any p b d l _ HL.out lc (s.ext E_0)).mono ?_
 rw [D0.out]
 rintro e w_1 ⟨rfl, e_1⟩
 have X0_1 := e_1.blk X0_0
 have X1_1 := e_1.blk X1_0
 have X2_1 := X2_0.ext e_1
 have E_1 := E_0.trans e_1
 clear k0_0 k0_1 k0_2 X0_0 k1_0 k1_1 k1_2 X1_0 k2_0 X2_0 E_0 e_1
 obtain ⟨-, k0_0, k0_1, k0_2, -⟩ := bx3 X0_1
 obtain ⟨-, k1_0, k1_1, k1_2, -⟩ := bx3 X1_1
 have k2_0 := X2_1.cell (i := 0) (by rw [Hl.out]; omega)
 rw [Mac.zs_kind] at k2_0
 go_wp2
 go_ret
 exact ⟨rfl, E_1⟩
set_option maxRecDepth 100000 in
theorem reconstructsN_1 (ref p : Pic) (x y : Int) (m : Mac) (q top : Int) (a b : Option Addr) (c d n l : Nat) (w : World) (hn : n = ref.px.length) (hl : l = p.px.length) (nc : n ≤ 9223372036854775807) (lc : l ≤ 9223372036854775807) (r : Sl w a n (ref.px.map (Value.int .i64))) (s : Sl w b l (p.px.map (Value.int .i64))) (hm : m.ok) (hk : ¬ m.kind = 2) (h0 : p.valid) (h1 : ¬ (m.valid)) :
 Calls Tryd.prog 54 #[.agg #[.int .i64 ref.w, .int .i64 ref.h, .slice a n c], .agg #[.int .i64 p.w, .int .i64 p.h, .slice b l d], .int .i64 x, .int .i64 y, .agg (ic m.zs), .int .i64 q, .int .i64 top] w fun e w' => e = .returned (.bool false) ∧ Ext w w' := by
 have HN := Lib.hid hn
 have HL := Lib.hid hl
 have HM := Lib.hid hm
 have Hl := Lib.hid (Mac.zs_len hm)
 clear hn hl hm
 have fk : (m.kind == 2) = false := by simpa using hk
 clear hk
 have D0 := Lib.hid (show decide (p.valid) = true from decide_eq_true h0)
 have D1 := Lib.hid (show decide (m.valid) = false from decide_eq_false h1)
 have a0_1 := Ext.alloc (w.alloc (.cells #[.int .i64 ref.w, .int .i64 ref.h, .slice a n c] 25)) (.cells #[.int .i64 p.w, .int .i64 p.h, .slice b l d] 25)
 have a0_2 := Ext.alloc ((w.alloc (.cells #[.int .i64 ref.w, .int .i64 ref.h, .slice a n c] 25)).alloc (.cells #[.int .i64 p.w, .int .i64 p.h, .slice b l d] 25)) (.cells (ic m.zs) 34)
 have X0_0 := a0_2.blk (a0_1.blk (blk_new w (.cells #[.int .i64 ref.w, .int .i64 ref.h, .slice a n c] 25)))
 have a1_2 := Ext.alloc ((w.alloc (.cells #[.int .i64 ref.w, .int .i64 ref.h, .slice a n c] 25)).alloc (.cells #[.int .i64 p.w, .int .i64 p.h, .slice b l d] 25)) (.cells (ic m.zs) 34)
 have X1_0 := a1_2.blk (blk_new (w.alloc (.cells #[.int .i64 ref.w, .int .i64 ref.h, .slice a n c] 25)) (.cells #[.int .i64 p.w, .int .i64 p.h, .slice b l d] 25))
 have X2_0 := IB.new ((w.alloc (.cells #[.int .i64 ref.w, .int .i64 ref.h, .slice a n c] 25)).alloc (.cells #[.int .i64 p.w, .int .i64 p.h, .slice b l d] 25)) 34 m.zs
 have E_0 := ((Ext.alloc w (.cells #[.int .i64 ref.w, .int .i64 ref.h, .slice a n c] 25)).trans (Ext.alloc (w.alloc (.cells #[.int .i64 ref.w, .int .i64 ref.h, .slice a n c] 25)) (.cells #[.int .i64 p.w, .int .i64 p.h, .slice b l d] 25))).trans (Ext.alloc ((w.alloc (.cells #[.int .i64 ref.w, .int .i64 ref.h, .slice a n c] 25)).alloc (.cells #[.int .i64 p.w, .int .i64 p.h, .slice b l d] 25)) (.cells (ic m.zs) 34))
 simp only [World.size_alloc] at X1_0 X2_0
 clear a0_1 a0_2 a1_2 h0 h1
 obtain ⟨-, k0_0, k0_1, k0_2, -⟩ := bx3 X0_0
 obtain ⟨-, k1_0, k1_1, k1_2, -⟩ := bx3 X1_0
 have k2_0 := X2_0.cell (i := 0) (by rw [Hl.out]; omega)
 rw [Mac.zs_kind] at k2_0
 go_enter Tryd.func54, Tryd.ntmps54
 go_wp2_with fail
 refine (impl_PictureValid_any p b d l _ HL.out lc (s.ext E_0)).mono ?_
 rw [D0.out]
 rintro e w_1 ⟨rfl, e_1⟩
 have X0_1 := e_1.blk X0_0
 have X1_1 := e_1.blk X1_0
 have X2_1 := X2_0.ext e_1
 have E_1 := E_0.trans e_1
 clear k0_0 k0_1 k0_2 X0_0 k1_0 k1_1 k1_2 X1_0 k2_0 X2_0 E_0 e_1
 obtain ⟨-, k0_0, k0_1, k0_2, -⟩ := bx3 X0_1
 obtain ⟨-, k1_0, k1_1, k1_2, -⟩ := bx3 X1_1
 have k2_0 := X2_1.cell (i := 0) (by rw [Hl.out]; omega)
 rw [Mac.zs_kind] at k2_0
 go_wp2_with (refine wpList_iload 34 _ rfl rfl X2_1 0 71 rfl _ Tryd.underlying34 rfl size_Macro (by rw [Hl.out]; omega) _ (by rw [sub_all _ _ Hl.out]) ?_)
 refine (impl_MacroValid_any m _ HM.out).mono ?_
 rw [D1.out]
 rintro e w_2 ⟨rfl, e_2⟩
 have X0_2 := e_2.blk X0_1
 have X1_2 := e_2.blk X1_1
 have X2_2 := X2_1.ext e_2
 have E_2 := E_1.trans e_2
 clear k0_0 k0_1 k0_2 X0_1 k1_0 k1_1 k1_2 X1_1 k2_0 X2_1 E_1 e_2
 obtain ⟨-, k0_0, k0_1, k0_2, -⟩ := bx3 X0_2
 obtain ⟨-, k1_0, k1_1, k1_2, -⟩ := bx3 X1_2
 have k2_0 := X2_2.cell (i := 0) (by rw [Hl.out]; omega)
 rw [Mac.zs_kind] at k2_0
 go_wp2
 go_ret
 exact ⟨rfl, E_2⟩
set_option maxRecDepth 100000 in
theorem reconstructsN_2 (ref p : Pic) (x y : Int) (m : Mac) (q top : Int) (a b : Option Addr) (c d n l : Nat) (w : World) (hn : n = ref.px.length) (hl : l = p.px.length) (nc : n ≤ 9223372036854775807) (lc : l ≤ 9223372036854775807) (r : Sl w a n (ref.px.map (Value.int .i64))) (s : Sl w b l (p.px.map (Value.int .i64))) (hm : m.ok) (hk : ¬ m.kind = 2) (h0 : p.valid) (h1 : m.valid) (h2 : ¬ (0 ≤ q ∧ q ≤ 15)) :
 Calls Tryd.prog 54 #[.agg #[.int .i64 ref.w, .int .i64 ref.h, .slice a n c], .agg #[.int .i64 p.w, .int .i64 p.h, .slice b l d], .int .i64 x, .int .i64 y, .agg (ic m.zs), .int .i64 q, .int .i64 top] w fun e w' => e = .returned (.bool false) ∧ Ext w w' := by
 have HN := Lib.hid hn
 have HL := Lib.hid hl
 have HM := Lib.hid hm
 have Hl := Lib.hid (Mac.zs_len hm)
 clear hn hl hm
 have fk : (m.kind == 2) = false := by simpa using hk
 clear hk
 have D0 := Lib.hid (show decide (p.valid) = true from decide_eq_true h0)
 have D1 := Lib.hid (show decide (m.valid) = true from decide_eq_true h1)
 have Q2 := Lib.hid h2
 have a0_1 := Ext.alloc (w.alloc (.cells #[.int .i64 ref.w, .int .i64 ref.h, .slice a n c] 25)) (.cells #[.int .i64 p.w, .int .i64 p.h, .slice b l d] 25)
 have a0_2 := Ext.alloc ((w.alloc (.cells #[.int .i64 ref.w, .int .i64 ref.h, .slice a n c] 25)).alloc (.cells #[.int .i64 p.w, .int .i64 p.h, .slice b l d] 25)) (.cells (ic m.zs) 34)
 have X0_0 := a0_2.blk (a0_1.blk (blk_new w (.cells #[.int .i64 ref.w, .int .i64 ref.h, .slice a n c] 25)))
 have a1_2 := Ext.alloc ((w.alloc (.cells #[.int .i64 ref.w, .int .i64 ref.h, .slice a n c] 25)).alloc (.cells #[.int .i64 p.w, .int .i64 p.h, .slice b l d] 25)) (.cells (ic m.zs) 34)
 have X1_0 := a1_2.blk (blk_new (w.alloc (.cells #[.int .i64 ref.w, .int .i64 ref.h, .slice a n c] 25)) (.cells #[.int .i64 p.w, .int .i64 p.h, .slice b l d] 25))
 have X2_0 := IB.new ((w.alloc (.cells #[.int .i64 ref.w, .int .i64 ref.h, .slice a n c] 25)).alloc (.cells #[.int .i64 p.w, .int .i64 p.h, .slice b l d] 25)) 34 m.zs
 have E_0 := ((Ext.alloc w (.cells #[.int .i64 ref.w, .int .i64 ref.h, .slice a n c] 25)).trans (Ext.alloc (w.alloc (.cells #[.int .i64 ref.w, .int .i64 ref.h, .slice a n c] 25)) (.cells #[.int .i64 p.w, .int .i64 p.h, .slice b l d] 25))).trans (Ext.alloc ((w.alloc (.cells #[.int .i64 ref.w, .int .i64 ref.h, .slice a n c] 25)).alloc (.cells #[.int .i64 p.w, .int .i64 p.h, .slice b l d] 25)) (.cells (ic m.zs) 34))
 simp only [World.size_alloc] at X1_0 X2_0
 clear a0_1 a0_2 a1_2 h0 h1 h2
 obtain ⟨-, k0_0, k0_1, k0_2, -⟩ := bx3 X0_0
 obtain ⟨-, k1_0, k1_1, k1_2, -⟩ := bx3 X1_0
 have k2_0 := X2_0.cell (i := 0) (by rw [Hl.out]; omega)
 rw [Mac.zs_kind] at k2_0
 go_enter Tryd.func54, Tryd.ntmps54
 go_wp2_with fail
 refine (impl_PictureValid_any p b d l _ HL.out lc (s.ext E_0)).mono ?_
 rw [D0.out]
 rintro e w_1 ⟨rfl, e_1⟩
 have X0_1 := e_1.blk X0_0
 have X1_1 := e_1.blk X1_0
 have X2_1 := X2_0.ext e_1
 have E_1 := E_0.trans e_1
 clear k0_0 k0_1 k0_2 X0_0 k1_0 k1_1 k1_2 X1_0 k2_0 X2_0 E_0 e_1
 obtain ⟨-, k0_0, k0_1, k0_2, -⟩ := bx3 X0_1
 obtain ⟨-, k1_0, k1_1, k1_2, -⟩ := bx3 X1_1
 have k2_0 := X2_1.cell (i := 0) (by rw [Hl.out]; omega)
 rw [Mac.zs_kind] at k2_0
 go_wp2_with (refine wpList_iload 34 _ rfl rfl X2_1 0 71 rfl _ Tryd.underlying34 rfl size_Macro (by rw [Hl.out]; omega) _ (by rw [sub_all _ _ Hl.out]) ?_)
 refine (impl_MacroValid_any m _ HM.out).mono ?_
 rw [D1.out]
 rintro e w_2 ⟨rfl, e_2⟩
 have X0_2 := e_2.blk X0_1
 have X1_2 := e_2.blk X1_1
 have X2_2 := X2_1.ext e_2
 have E_2 := E_1.trans e_2
 clear k0_0 k0_1 k0_2 X0_1 k1_0 k1_1 k1_2 X1_1 k2_0 X2_1 E_1 e_2
 obtain ⟨-, k0_0, k0_1, k0_2, -⟩ := bx3 X0_2
 obtain ⟨-, k1_0, k1_1, k1_2, -⟩ := bx3 X1_2
 have k2_0 := X2_2.cell (i := 0) (by rw [Hl.out]; omega)
 rw [Mac.zs_kind] at k2_0
 go_wp2_with fail
 refine (qV_out q _ Q2.out).mono ?_
 rintro e w_s2 ⟨rfl, rfl⟩
 go_wp2
 go_ret
 exact ⟨rfl, E_2⟩
set_option maxRecDepth 100000 in
theorem reconstructsN_3 (ref p : Pic) (x y : Int) (m : Mac) (q top : Int) (a b : Option Addr) (c d n l : Nat) (w : World) (hn : n = ref.px.length) (hl : l = p.px.length) (nc : n ≤ 9223372036854775807) (lc : l ≤ 9223372036854775807) (r : Sl w a n (ref.px.map (Value.int .i64))) (s : Sl w b l (p.px.map (Value.int .i64))) (hm : m.ok) (hk : ¬ m.kind = 2) (h0 : p.valid) (h1 : m.valid) (h2 : 0 ≤ q ∧ q ≤ 15) (h3 : ¬ ((0 ≤ x) ∧ (x < p.w) ∧ (x % 8 = 0) ∧ (0 ≤ y) ∧ (y < p.h) ∧ (y % 8 = 0))) :
 Calls Tryd.prog 54 #[.agg #[.int .i64 ref.w, .int .i64 ref.h, .slice a n c], .agg #[.int .i64 p.w, .int .i64 p.h, .slice b l d], .int .i64 x, .int .i64 y, .agg (ic m.zs), .int .i64 q, .int .i64 top] w fun e w' => e = .returned (.bool false) ∧ Ext w w' := by
 have HN := Lib.hid hn
 have HL := Lib.hid hl
 have HM := Lib.hid hm
 have Hl := Lib.hid (Mac.zs_len hm)
 clear hn hl hm
 have fk : (m.kind == 2) = false := by simpa using hk
 clear hk
 have D0 := Lib.hid (show decide (p.valid) = true from decide_eq_true h0)
 have D1 := Lib.hid (show decide (m.valid) = true from decide_eq_true h1)
 have Q2 := Lib.hid h2
 have D3 := Lib.hid (show decide ((0 ≤ x) ∧ (x < p.w) ∧ (x % 8 = 0) ∧ (0 ≤ y) ∧ (y < p.h) ∧ (y % 8 = 0)) = false from decide_eq_false h3)
 have a0_1 := Ext.alloc (w.alloc (.cells #[.int .i64 ref.w, .int .i64 ref.h, .slice a n c] 25)) (.cells #[.int .i64 p.w, .int .i64 p.h, .slice b l d] 25)
 have a0_2 := Ext.alloc ((w.alloc (.cells #[.int .i64 ref.w, .int .i64 ref.h, .slice a n c] 25)).alloc (.cells #[.int .i64 p.w, .int .i64 p.h, .slice b l d] 25)) (.cells (ic m.zs) 34)
 have X0_0 := a0_2.blk (a0_1.blk (blk_new w (.cells #[.int .i64 ref.w, .int .i64 ref.h, .slice a n c] 25)))
 have a1_2 := Ext.alloc ((w.alloc (.cells #[.int .i64 ref.w, .int .i64 ref.h, .slice a n c] 25)).alloc (.cells #[.int .i64 p.w, .int .i64 p.h, .slice b l d] 25)) (.cells (ic m.zs) 34)
 have X1_0 := a1_2.blk (blk_new (w.alloc (.cells #[.int .i64 ref.w, .int .i64 ref.h, .slice a n c] 25)) (.cells #[.int .i64 p.w, .int .i64 p.h, .slice b l d] 25))
 have X2_0 := IB.new ((w.alloc (.cells #[.int .i64 ref.w, .int .i64 ref.h, .slice a n c] 25)).alloc (.cells #[.int .i64 p.w, .int .i64 p.h, .slice b l d] 25)) 34 m.zs
 have E_0 := ((Ext.alloc w (.cells #[.int .i64 ref.w, .int .i64 ref.h, .slice a n c] 25)).trans (Ext.alloc (w.alloc (.cells #[.int .i64 ref.w, .int .i64 ref.h, .slice a n c] 25)) (.cells #[.int .i64 p.w, .int .i64 p.h, .slice b l d] 25))).trans (Ext.alloc ((w.alloc (.cells #[.int .i64 ref.w, .int .i64 ref.h, .slice a n c] 25)).alloc (.cells #[.int .i64 p.w, .int .i64 p.h, .slice b l d] 25)) (.cells (ic m.zs) 34))
 simp only [World.size_alloc] at X1_0 X2_0
 clear a0_1 a0_2 a1_2 h0 h1 h2 h3
 obtain ⟨-, k0_0, k0_1, k0_2, -⟩ := bx3 X0_0
 obtain ⟨-, k1_0, k1_1, k1_2, -⟩ := bx3 X1_0
 have k2_0 := X2_0.cell (i := 0) (by rw [Hl.out]; omega)
 rw [Mac.zs_kind] at k2_0
 go_enter Tryd.func54, Tryd.ntmps54
 go_wp2_with fail
 refine (impl_PictureValid_any p b d l _ HL.out lc (s.ext E_0)).mono ?_
 rw [D0.out]
 rintro e w_1 ⟨rfl, e_1⟩
 have X0_1 := e_1.blk X0_0
 have X1_1 := e_1.blk X1_0
 have X2_1 := X2_0.ext e_1
 have E_1 := E_0.trans e_1
 clear k0_0 k0_1 k0_2 X0_0 k1_0 k1_1 k1_2 X1_0 k2_0 X2_0 E_0 e_1
 obtain ⟨-, k0_0, k0_1, k0_2, -⟩ := bx3 X0_1
 obtain ⟨-, k1_0, k1_1, k1_2, -⟩ := bx3 X1_1
 have k2_0 := X2_1.cell (i := 0) (by rw [Hl.out]; omega)
 rw [Mac.zs_kind] at k2_0
 go_wp2_with (refine wpList_iload 34 _ rfl rfl X2_1 0 71 rfl _ Tryd.underlying34 rfl size_Macro (by rw [Hl.out]; omega) _ (by rw [sub_all _ _ Hl.out]) ?_)
 refine (impl_MacroValid_any m _ HM.out).mono ?_
 rw [D1.out]
 rintro e w_2 ⟨rfl, e_2⟩
 have X0_2 := e_2.blk X0_1
 have X1_2 := e_2.blk X1_1
 have X2_2 := X2_1.ext e_2
 have E_2 := E_1.trans e_2
 clear k0_0 k0_1 k0_2 X0_1 k1_0 k1_1 k1_2 X1_1 k2_0 X2_1 E_1 e_2
 obtain ⟨-, k0_0, k0_1, k0_2, -⟩ := bx3 X0_2
 obtain ⟨-, k1_0, k1_1, k1_2, -⟩ := bx3 X1_2
 have k2_0 := X2_2.cell (i := 0) (by rw [Hl.out]; omega)
 rw [Mac.zs_kind] at k2_0
 go_wp2_with fail
 refine (qV_in q _ Q2.out).mono ?_
 rintro e w_s2 ⟨rfl, rfl⟩
 go_wp2_with fail
 refine (begins_any p x y b d l _).mono ?_
 rw [D3.out]
 rintro e w_3 ⟨rfl, e_3⟩
 have X0_3 := e_3.blk X0_2
 have X1_3 := e_3.blk X1_2
 have X2_3 := X2_2.ext e_3
 have E_3 := E_2.trans e_3
 clear k0_0 k0_1 k0_2 X0_2 k1_0 k1_1 k1_2 X1_2 k2_0 X2_2 E_2 e_3
 obtain ⟨-, k0_0, k0_1, k0_2, -⟩ := bx3 X0_3
 obtain ⟨-, k1_0, k1_1, k1_2, -⟩ := bx3 X1_3
 have k2_0 := X2_3.cell (i := 0) (by rw [Hl.out]; omega)
 rw [Mac.zs_kind] at k2_0
 go_wp2
 go_ret
 exact ⟨rfl, E_3⟩
set_option maxRecDepth 100000 in
theorem reconstructsN_4 (ref p : Pic) (x y : Int) (m : Mac) (q top : Int) (a b : Option Addr) (c d n l : Nat) (w : World) (hn : n = ref.px.length) (hl : l = p.px.length) (nc : n ≤ 9223372036854775807) (lc : l ≤ 9223372036854775807) (r : Sl w a n (ref.px.map (Value.int .i64))) (s : Sl w b l (p.px.map (Value.int .i64))) (hm : m.ok) (hk : ¬ m.kind = 2) (h0 : p.valid) (h1 : m.valid) (h2 : 0 ≤ q ∧ q ≤ 15) (h3 : (0 ≤ x) ∧ (x < p.w) ∧ (x % 8 = 0) ∧ (0 ≤ y) ∧ (y < p.h) ∧ (y % 8 = 0)) (h4 : ¬ (0 ≤ top)) :
 Calls Tryd.prog 54 #[.agg #[.int .i64 ref.w, .int .i64 ref.h, .slice a n c], .agg #[.int .i64 p.w, .int .i64 p.h, .slice b l d], .int .i64 x, .int .i64 y, .agg (ic m.zs), .int .i64 q, .int .i64 top] w fun e w' => e = .returned (.bool false) ∧ Ext w w' := by
 have HN := Lib.hid hn
 have HL := Lib.hid hl
 have HM := Lib.hid hm
 have Hl := Lib.hid (Mac.zs_len hm)
 clear hn hl hm
 have fk : (m.kind == 2) = false := by simpa using hk
 clear hk
 have D0 := Lib.hid (show decide (p.valid) = true from decide_eq_true h0)
 have D1 := Lib.hid (show decide (m.valid) = true from decide_eq_true h1)
 have Q2 := Lib.hid h2
 have D3 := Lib.hid (show decide ((0 ≤ x) ∧ (x < p.w) ∧ (x % 8 = 0) ∧ (0 ≤ y) ∧ (y < p.h) ∧ (y % 8 = 0)) = true from decide_eq_true h3)
 have f4 : decide (top < 0) = true := by simpa using h4
 have a0_1 := Ext.alloc (w.alloc (.cells #[.int .i64 ref.w, .int .i64 ref.h, .slice a n c] 25)) (.cells #[.int .i64 p.w, .int .i64 p.h, .slice b l d] 25)
 have a0_2 := Ext.alloc ((w.alloc (.cells #[.int .i64 ref.w, .int .i64 ref.h, .slice a n c] 25)).alloc (.cells #[.int .i64 p.w, .int .i64 p.h, .slice b l d] 25)) (.cells (ic m.zs) 34)
 have X0_0 := a0_2.blk (a0_1.blk (blk_new w (.cells #[.int .i64 ref.w, .int .i64 ref.h, .slice a n c] 25)))
 have a1_2 := Ext.alloc ((w.alloc (.cells #[.int .i64 ref.w, .int .i64 ref.h, .slice a n c] 25)).alloc (.cells #[.int .i64 p.w, .int .i64 p.h, .slice b l d] 25)) (.cells (ic m.zs) 34)
 have X1_0 := a1_2.blk (blk_new (w.alloc (.cells #[.int .i64 ref.w, .int .i64 ref.h, .slice a n c] 25)) (.cells #[.int .i64 p.w, .int .i64 p.h, .slice b l d] 25))
 have X2_0 := IB.new ((w.alloc (.cells #[.int .i64 ref.w, .int .i64 ref.h, .slice a n c] 25)).alloc (.cells #[.int .i64 p.w, .int .i64 p.h, .slice b l d] 25)) 34 m.zs
 have E_0 := ((Ext.alloc w (.cells #[.int .i64 ref.w, .int .i64 ref.h, .slice a n c] 25)).trans (Ext.alloc (w.alloc (.cells #[.int .i64 ref.w, .int .i64 ref.h, .slice a n c] 25)) (.cells #[.int .i64 p.w, .int .i64 p.h, .slice b l d] 25))).trans (Ext.alloc ((w.alloc (.cells #[.int .i64 ref.w, .int .i64 ref.h, .slice a n c] 25)).alloc (.cells #[.int .i64 p.w, .int .i64 p.h, .slice b l d] 25)) (.cells (ic m.zs) 34))
 simp only [World.size_alloc] at X1_0 X2_0
 clear a0_1 a0_2 a1_2 h0 h1 h2 h3
 obtain ⟨-, k0_0, k0_1, k0_2, -⟩ := bx3 X0_0
 obtain ⟨-, k1_0, k1_1, k1_2, -⟩ := bx3 X1_0
 have k2_0 := X2_0.cell (i := 0) (by rw [Hl.out]; omega)
 rw [Mac.zs_kind] at k2_0
 go_enter Tryd.func54, Tryd.ntmps54
 go_wp2_with fail
 refine (impl_PictureValid_any p b d l _ HL.out lc (s.ext E_0)).mono ?_
 rw [D0.out]
 rintro e w_1 ⟨rfl, e_1⟩
 have X0_1 := e_1.blk X0_0
 have X1_1 := e_1.blk X1_0
 have X2_1 := X2_0.ext e_1
 have E_1 := E_0.trans e_1
 clear k0_0 k0_1 k0_2 X0_0 k1_0 k1_1 k1_2 X1_0 k2_0 X2_0 E_0 e_1
 obtain ⟨-, k0_0, k0_1, k0_2, -⟩ := bx3 X0_1
 obtain ⟨-, k1_0, k1_1, k1_2, -⟩ := bx3 X1_1
 have k2_0 := X2_1.cell (i := 0) (by rw [Hl.out]; omega)
 rw [Mac.zs_kind] at k2_0
 go_wp2_with (refine wpList_iload 34 _ rfl rfl X2_1 0 71 rfl _ Tryd.underlying34 rfl size_Macro (by rw [Hl.out]; omega) _ (by rw [sub_all _ _ Hl.out]) ?_)
 refine (impl_MacroValid_any m _ HM.out).mono ?_
 rw [D1.out]
 rintro e w_2 ⟨rfl, e_2⟩
 have X0_2 := e_2.blk X0_1
 have X1_2 := e_2.blk X1_1
 have X2_2 := X2_1.ext e_2
 have E_2 := E_1.trans e_2
 clear k0_0 k0_1 k0_2 X0_1 k1_0 k1_1 k1_2 X1_1 k2_0 X2_1 E_1 e_2
 obtain ⟨-, k0_0, k0_1, k0_2, -⟩ := bx3 X0_2
 obtain ⟨-, k1_0, k1_1, k1_2, -⟩ := bx3 X1_2
 have k2_0 := X2_2.cell (i := 0) (by rw [Hl.out]; omega)
 rw [Mac.zs_kind] at k2_0
 go_wp2_with fail
 refine (qV_in q _ Q2.out).mono ?_
 rintro e w_s2 ⟨rfl, rfl⟩
 go_wp2_with fail
 refine (begins_any p x y b d l _).mono ?_
 rw [D3.out]
 rintro e w_3 ⟨rfl, e_3⟩
 have X0_3 := e_3.blk X0_2
 have X1_3 := e_3.blk X1_2
 have X2_3 := X2_2.ext e_3
 have E_3 := E_2.trans e_3
 clear k0_0 k0_1 k0_2 X0_2 k1_0 k1_1 k1_2 X1_2 k2_0 X2_2 E_2 e_3
 obtain ⟨-, k0_0, k0_1, k0_2, -⟩ := bx3 X0_3
 obtain ⟨-, k1_0, k1_1, k1_2, -⟩ := bx3 X1_3
 have k2_0 := X2_3.cell (i := 0) (by rw [Hl.out]; omega)
 rw [Mac.zs_kind] at k2_0
 go_wp2
 go_ret
 exact ⟨rfl, E_3⟩
set_option maxRecDepth 100000 in
theorem reconstructsN_5 (ref p : Pic) (x y : Int) (m : Mac) (q top : Int) (a b : Option Addr) (c d n l : Nat) (w : World) (hn : n = ref.px.length) (hl : l = p.px.length) (nc : n ≤ 9223372036854775807) (lc : l ≤ 9223372036854775807) (r : Sl w a n (ref.px.map (Value.int .i64))) (s : Sl w b l (p.px.map (Value.int .i64))) (hm : m.ok) (hk : ¬ m.kind = 2) (h0 : p.valid) (h1 : m.valid) (h2 : 0 ≤ q ∧ q ≤ 15) (h3 : (0 ≤ x) ∧ (x < p.w) ∧ (x % 8 = 0) ∧ (0 ≤ y) ∧ (y < p.h) ∧ (y % 8 = 0)) (h4 : 0 ≤ top) (h5 : ¬ (top ≤ y)) :
 Calls Tryd.prog 54 #[.agg #[.int .i64 ref.w, .int .i64 ref.h, .slice a n c], .agg #[.int .i64 p.w, .int .i64 p.h, .slice b l d], .int .i64 x, .int .i64 y, .agg (ic m.zs), .int .i64 q, .int .i64 top] w fun e w' => e = .returned (.bool false) ∧ Ext w w' := by
 have HN := Lib.hid hn
 have HL := Lib.hid hl
 have HM := Lib.hid hm
 have Hl := Lib.hid (Mac.zs_len hm)
 clear hn hl hm
 have fk : (m.kind == 2) = false := by simpa using hk
 clear hk
 have D0 := Lib.hid (show decide (p.valid) = true from decide_eq_true h0)
 have D1 := Lib.hid (show decide (m.valid) = true from decide_eq_true h1)
 have Q2 := Lib.hid h2
 have D3 := Lib.hid (show decide ((0 ≤ x) ∧ (x < p.w) ∧ (x % 8 = 0) ∧ (0 ≤ y) ∧ (y < p.h) ∧ (y % 8 = 0)) = true from decide_eq_true h3)
 have f4 : decide (top < 0) = false := by simpa using h4
 have f5 : decide (y < top) = true := by simpa using h5
 have a0_1 := Ext.alloc (w.alloc (.cells #[.int .i64 ref.w, .int .i64 ref.h, .slice a n c] 25)) (.cells #[.int .i64 p.w, .int .i64 p.h, .slice b l d] 25)
 have a0_2 := Ext.alloc ((w.alloc (.cells #[.int .i64 ref.w, .int .i64 ref.h, .slice a n c] 25)).alloc (.cells #[.int .i64 p.w, .int .i64 p.h, .slice b l d] 25)) (.cells (ic m.zs) 34)
 have X0_0 := a0_2.blk (a0_1.blk (blk_new w (.cells #[.int .i64 ref.w, .int .i64 ref.h, .slice a n c] 25)))
 have a1_2 := Ext.alloc ((w.alloc (.cells #[.int .i64 ref.w, .int .i64 ref.h, .slice a n c] 25)).alloc (.cells #[.int .i64 p.w, .int .i64 p.h, .slice b l d] 25)) (.cells (ic m.zs) 34)
 have X1_0 := a1_2.blk (blk_new (w.alloc (.cells #[.int .i64 ref.w, .int .i64 ref.h, .slice a n c] 25)) (.cells #[.int .i64 p.w, .int .i64 p.h, .slice b l d] 25))
 have X2_0 := IB.new ((w.alloc (.cells #[.int .i64 ref.w, .int .i64 ref.h, .slice a n c] 25)).alloc (.cells #[.int .i64 p.w, .int .i64 p.h, .slice b l d] 25)) 34 m.zs
 have E_0 := ((Ext.alloc w (.cells #[.int .i64 ref.w, .int .i64 ref.h, .slice a n c] 25)).trans (Ext.alloc (w.alloc (.cells #[.int .i64 ref.w, .int .i64 ref.h, .slice a n c] 25)) (.cells #[.int .i64 p.w, .int .i64 p.h, .slice b l d] 25))).trans (Ext.alloc ((w.alloc (.cells #[.int .i64 ref.w, .int .i64 ref.h, .slice a n c] 25)).alloc (.cells #[.int .i64 p.w, .int .i64 p.h, .slice b l d] 25)) (.cells (ic m.zs) 34))
 simp only [World.size_alloc] at X1_0 X2_0
 clear a0_1 a0_2 a1_2 h0 h1 h2 h3
 obtain ⟨-, k0_0, k0_1, k0_2, -⟩ := bx3 X0_0
 obtain ⟨-, k1_0, k1_1, k1_2, -⟩ := bx3 X1_0
 have k2_0 := X2_0.cell (i := 0) (by rw [Hl.out]; omega)
 rw [Mac.zs_kind] at k2_0
 go_enter Tryd.func54, Tryd.ntmps54
 go_wp2_with fail
 refine (impl_PictureValid_any p b d l _ HL.out lc (s.ext E_0)).mono ?_
 rw [D0.out]
 rintro e w_1 ⟨rfl, e_1⟩
 have X0_1 := e_1.blk X0_0
 have X1_1 := e_1.blk X1_0
 have X2_1 := X2_0.ext e_1
 have E_1 := E_0.trans e_1
 clear k0_0 k0_1 k0_2 X0_0 k1_0 k1_1 k1_2 X1_0 k2_0 X2_0 E_0 e_1
 obtain ⟨-, k0_0, k0_1, k0_2, -⟩ := bx3 X0_1
 obtain ⟨-, k1_0, k1_1, k1_2, -⟩ := bx3 X1_1
 have k2_0 := X2_1.cell (i := 0) (by rw [Hl.out]; omega)
 rw [Mac.zs_kind] at k2_0
 go_wp2_with (refine wpList_iload 34 _ rfl rfl X2_1 0 71 rfl _ Tryd.underlying34 rfl size_Macro (by rw [Hl.out]; omega) _ (by rw [sub_all _ _ Hl.out]) ?_)
 refine (impl_MacroValid_any m _ HM.out).mono ?_
 rw [D1.out]
 rintro e w_2 ⟨rfl, e_2⟩
 have X0_2 := e_2.blk X0_1
 have X1_2 := e_2.blk X1_1
 have X2_2 := X2_1.ext e_2
 have E_2 := E_1.trans e_2
 clear k0_0 k0_1 k0_2 X0_1 k1_0 k1_1 k1_2 X1_1 k2_0 X2_1 E_1 e_2
 obtain ⟨-, k0_0, k0_1, k0_2, -⟩ := bx3 X0_2
 obtain ⟨-, k1_0, k1_1, k1_2, -⟩ := bx3 X1_2
 have k2_0 := X2_2.cell (i := 0) (by rw [Hl.out]; omega)
 rw [Mac.zs_kind] at k2_0
 go_wp2_with fail
 refine (qV_in q _ Q2.out).mono ?_
 rintro e w_s2 ⟨rfl, rfl⟩
 go_wp2_with fail
 refine (begins_any p x y b d l _).mono ?_
 rw [D3.out]
 rintro e w_3 ⟨rfl, e_3⟩
 have X0_3 := e_3.blk X0_2
 have X1_3 := e_3.blk X1_2
 have X2_3 := X2_2.ext e_3
 have E_3 := E_2.trans e_3
 clear k0_0 k0_1 k0_2 X0_2 k1_0 k1_1 k1_2 X1_2 k2_0 X2_2 E_2 e_3
 obtain ⟨-, k0_0, k0_1, k0_2, -⟩ := bx3 X0_3
 obtain ⟨-, k1_0, k1_1, k1_2, -⟩ := bx3 X1_3
 have k2_0 := X2_3.cell (i := 0) (by rw [Hl.out]; omega)
 rw [Mac.zs_kind] at k2_0
 go_wp2
 go_ret
 exact ⟨rfl, E_3⟩
set_option maxRecDepth 100000 in
theorem reconstructsN_6 (ref p : Pic) (x y : Int) (m : Mac) (q top : Int) (a b : Option Addr) (c d n l : Nat) (w : World) (hn : n = ref.px.length) (hl : l = p.px.length) (nc : n ≤ 9223372036854775807) (lc : l ≤ 9223372036854775807) (r : Sl w a n (ref.px.map (Value.int .i64))) (s : Sl w b l (p.px.map (Value.int .i64))) (hm : m.ok) (hk : ¬ m.kind = 2) (h0 : p.valid) (h1 : m.valid) (h2 : 0 ≤ q ∧ q ≤ 15) (h3 : (0 ≤ x) ∧ (x < p.w) ∧ (x % 8 = 0) ∧ (0 ≤ y) ∧ (y < p.h) ∧ (y % 8 = 0)) (h4 : 0 ≤ top) (h5 : top ≤ y) (h6 : ¬ (alikeP ref p)) :
 Calls Tryd.prog 54 #[.agg #[.int .i64 ref.w, .int .i64 ref.h, .slice a n c], .agg #[.int .i64 p.w, .int .i64 p.h, .slice b l d], .int .i64 x, .int .i64 y, .agg (ic m.zs), .int .i64 q, .int .i64 top] w fun e w' => e = .returned (.bool false) ∧ Ext w w' := by
 have HN := Lib.hid hn
 have HL := Lib.hid hl
 have HM := Lib.hid hm
 have Hl := Lib.hid (Mac.zs_len hm)
 clear hn hl hm
 have fk : (m.kind == 2) = false := by simpa using hk
 clear hk
 have D0 := Lib.hid (show decide (p.valid) = true from decide_eq_true h0)
 have D1 := Lib.hid (show decide (m.valid) = true from decide_eq_true h1)
 have Q2 := Lib.hid h2
 have D3 := Lib.hid (show decide ((0 ≤ x) ∧ (x < p.w) ∧ (x % 8 = 0) ∧ (0 ≤ y) ∧ (y < p.h) ∧ (y % 8 = 0)) = true from decide_eq_true h3)
 have f4 : decide (top < 0) = false := by simpa using h4
 have f5 : decide (y < top) = false := by simpa using h5
 have D6 := Lib.hid (show decide (alikeP ref p) = false from decide_eq_false h6)
 have a0_1 := Ext.alloc (w.alloc (.cells #[.int .i64 ref.w, .int .i64 ref.h, .slice a n c] 25)) (.cells #[.int .i64 p.w, .int .i64 p.h, .slice b l d] 25)
 have a0_2 := Ext.alloc ((w.alloc (.cells #[.int .i64 ref.w, .int .i64 ref.h, .slice a n c] 25)).alloc (.cells #[.int .i64 p.w, .int .i64 p.h, .slice b l d] 25)) (.cells (ic m.zs) 34)
 have X0_0 := a0_2.blk (a0_1.blk (blk_new w (.cells #[.int .i64 ref.w, .int .i64 ref.h, .slice a n c] 25)))
 have a1_2 := Ext.alloc ((w.alloc (.cells #[.int .i64 ref.w, .int .i64 ref.h, .slice a n c] 25)).alloc (.cells #[.int .i64 p.w, .int .i64 p.h, .slice b l d] 25)) (.cells (ic m.zs) 34)
 have X1_0 := a1_2.blk (blk_new (w.alloc (.cells #[.int .i64 ref.w, .int .i64 ref.h, .slice a n c] 25)) (.cells #[.int .i64 p.w, .int .i64 p.h, .slice b l d] 25))
 have X2_0 := IB.new ((w.alloc (.cells #[.int .i64 ref.w, .int .i64 ref.h, .slice a n c] 25)).alloc (.cells #[.int .i64 p.w, .int .i64 p.h, .slice b l d] 25)) 34 m.zs
 have E_0 := ((Ext.alloc w (.cells #[.int .i64 ref.w, .int .i64 ref.h, .slice a n c] 25)).trans (Ext.alloc (w.alloc (.cells #[.int .i64 ref.w, .int .i64 ref.h, .slice a n c] 25)) (.cells #[.int .i64 p.w, .int .i64 p.h, .slice b l d] 25))).trans (Ext.alloc ((w.alloc (.cells #[.int .i64 ref.w, .int .i64 ref.h, .slice a n c] 25)).alloc (.cells #[.int .i64 p.w, .int .i64 p.h, .slice b l d] 25)) (.cells (ic m.zs) 34))
 simp only [World.size_alloc] at X1_0 X2_0
 clear a0_1 a0_2 a1_2 h0 h1 h2 h3 h6
 obtain ⟨-, k0_0, k0_1, k0_2, -⟩ := bx3 X0_0
 obtain ⟨-, k1_0, k1_1, k1_2, -⟩ := bx3 X1_0
 have k2_0 := X2_0.cell (i := 0) (by rw [Hl.out]; omega)
 rw [Mac.zs_kind] at k2_0
 go_enter Tryd.func54, Tryd.ntmps54
 go_wp2_with fail
 refine (impl_PictureValid_any p b d l _ HL.out lc (s.ext E_0)).mono ?_
 rw [D0.out]
 rintro e w_1 ⟨rfl, e_1⟩
 have X0_1 := e_1.blk X0_0
 have X1_1 := e_1.blk X1_0
 have X2_1 := X2_0.ext e_1
 have E_1 := E_0.trans e_1
 clear k0_0 k0_1 k0_2 X0_0 k1_0 k1_1 k1_2 X1_0 k2_0 X2_0 E_0 e_1
 obtain ⟨-, k0_0, k0_1, k0_2, -⟩ := bx3 X0_1
 obtain ⟨-, k1_0, k1_1, k1_2, -⟩ := bx3 X1_1
 have k2_0 := X2_1.cell (i := 0) (by rw [Hl.out]; omega)
 rw [Mac.zs_kind] at k2_0
 go_wp2_with (refine wpList_iload 34 _ rfl rfl X2_1 0 71 rfl _ Tryd.underlying34 rfl size_Macro (by rw [Hl.out]; omega) _ (by rw [sub_all _ _ Hl.out]) ?_)
 refine (impl_MacroValid_any m _ HM.out).mono ?_
 rw [D1.out]
 rintro e w_2 ⟨rfl, e_2⟩
 have X0_2 := e_2.blk X0_1
 have X1_2 := e_2.blk X1_1
 have X2_2 := X2_1.ext e_2
 have E_2 := E_1.trans e_2
 clear k0_0 k0_1 k0_2 X0_1 k1_0 k1_1 k1_2 X1_1 k2_0 X2_1 E_1 e_2
 obtain ⟨-, k0_0, k0_1, k0_2, -⟩ := bx3 X0_2
 obtain ⟨-, k1_0, k1_1, k1_2, -⟩ := bx3 X1_2
 have k2_0 := X2_2.cell (i := 0) (by rw [Hl.out]; omega)
 rw [Mac.zs_kind] at k2_0
 go_wp2_with fail
 refine (qV_in q _ Q2.out).mono ?_
 rintro e w_s2 ⟨rfl, rfl⟩
 go_wp2_with fail
 refine (begins_any p x y b d l _).mono ?_
 rw [D3.out]
 rintro e w_3 ⟨rfl, e_3⟩
 have X0_3 := e_3.blk X0_2
 have X1_3 := e_3.blk X1_2
 have X2_3 := X2_2.ext e_3
 have E_3 := E_2.trans e_3
 clear k0_0 k0_1 k0_2 X0_2 k1_0 k1_1 k1_2 X1_2 k2_0 X2_2 E_2 e_3
 obtain ⟨-, k0_0, k0_1, k0_2, -⟩ := bx3 X0_3
 obtain ⟨-, k1_0, k1_1, k1_2, -⟩ := bx3 X1_3
 have k2_0 := X2_3.cell (i := 0) (by rw [Hl.out]; omega)
 rw [Mac.zs_kind] at k2_0
 go_wp2_with fail
 refine (alike_at ref p a b c d n l _ HN.out HL.out nc lc (r.ext E_3) (s.ext E_3)).mono ?_
 rw [D6.out]
 rintro e w_4 ⟨rfl, e_4⟩
 have X0_4 := e_4.blk X0_3
 have X1_4 := e_4.blk X1_3
 have X2_4 := X2_3.ext e_4
 have E_4 := E_3.trans e_4
 clear k0_0 k0_1 k0_2 X0_3 k1_0 k1_1 k1_2 X1_3 k2_0 X2_3 E_3 e_4
 obtain ⟨-, k0_0, k0_1, k0_2, -⟩ := bx3 X0_4
 obtain ⟨-, k1_0, k1_1, k1_2, -⟩ := bx3 X1_4
 have k2_0 := X2_4.cell (i := 0) (by rw [Hl.out]; omega)
 rw [Mac.zs_kind] at k2_0
 go_wp2
 go_ret
 exact ⟨rfl, E_4⟩
set_option maxRecDepth 100000 in
theorem reconstructsN_7 (ref p : Pic) (x y : Int) (m : Mac) (q top : Int) (a b : Option Addr) (c d n l : Nat) (w : World) (hn : n = ref.px.length) (hl : l = p.px.length) (nc : n ≤ 9223372036854775807) (lc : l ≤ 9223372036854775807) (r : Sl w a n (ref.px.map (Value.int .i64))) (s : Sl w b l (p.px.map (Value.int .i64))) (hm : m.ok) (hk : ¬ m.kind = 2) (h0 : p.valid) (h1 : m.valid) (h2 : 0 ≤ q ∧ q ≤ 15) (h3 : (0 ≤ x) ∧ (x < p.w) ∧ (x % 8 = 0) ∧ (0 ≤ y) ∧ (y < p.h) ∧ (y % 8 = 0)) (h4 : 0 ≤ top) (h5 : top ≤ y) (h6 : alikeP ref p) :
 Calls Tryd.prog 54 #[.agg #[.int .i64 ref.w, .int .i64 ref.h, .slice a n c], .agg #[.int .i64 p.w, .int .i64 p.h, .slice b l d], .int .i64 x, .int .i64 y, .agg (ic m.zs), .int .i64 q, .int .i64 top] w fun e w' => e = .returned (.bool true) ∧ Ext w w' := by
 have HN := Lib.hid hn
 have HL := Lib.hid hl
 have HM := Lib.hid hm
 have Hl := Lib.hid (Mac.zs_len hm)
 clear hn hl hm
 have fk : (m.kind == 2) = false := by simpa using hk
 clear hk
 have D0 := Lib.hid (show decide (p.valid) = true from decide_eq_true h0)
 have D1 := Lib.hid (show decide (m.valid) = true from decide_eq_true h1)
 have Q2 := Lib.hid h2
 have D3 := Lib.hid (show decide ((0 ≤ x) ∧ (x < p.w) ∧ (x % 8 = 0) ∧ (0 ≤ y) ∧ (y < p.h) ∧ (y % 8 = 0)) = true from decide_eq_true h3)
 have f4 : decide (top < 0) = false := by simpa using h4
 have f5 : decide (y < top) = false := by simpa using h5
 have D6 := Lib.hid (show decide (alikeP ref p) = true from decide_eq_true h6)
 have a0_1 := Ext.alloc (w.alloc (.cells #[.int .i64 ref.w, .int .i64 ref.h, .slice a n c] 25)) (.cells #[.int .i64 p.w, .int .i64 p.h, .slice b l d] 25)
 have a0_2 := Ext.alloc ((w.alloc (.cells #[.int .i64 ref.w, .int .i64 ref.h, .slice a n c] 25)).alloc (.cells #[.int .i64 p.w, .int .i64 p.h, .slice b l d] 25)) (.cells (ic m.zs) 34)
 have X0_0 := a0_2.blk (a0_1.blk (blk_new w (.cells #[.int .i64 ref.w, .int .i64 ref.h, .slice a n c] 25)))
 have a1_2 := Ext.alloc ((w.alloc (.cells #[.int .i64 ref.w, .int .i64 ref.h, .slice a n c] 25)).alloc (.cells #[.int .i64 p.w, .int .i64 p.h, .slice b l d] 25)) (.cells (ic m.zs) 34)
 have X1_0 := a1_2.blk (blk_new (w.alloc (.cells #[.int .i64 ref.w, .int .i64 ref.h, .slice a n c] 25)) (.cells #[.int .i64 p.w, .int .i64 p.h, .slice b l d] 25))
 have X2_0 := IB.new ((w.alloc (.cells #[.int .i64 ref.w, .int .i64 ref.h, .slice a n c] 25)).alloc (.cells #[.int .i64 p.w, .int .i64 p.h, .slice b l d] 25)) 34 m.zs
 have E_0 := ((Ext.alloc w (.cells #[.int .i64 ref.w, .int .i64 ref.h, .slice a n c] 25)).trans (Ext.alloc (w.alloc (.cells #[.int .i64 ref.w, .int .i64 ref.h, .slice a n c] 25)) (.cells #[.int .i64 p.w, .int .i64 p.h, .slice b l d] 25))).trans (Ext.alloc ((w.alloc (.cells #[.int .i64 ref.w, .int .i64 ref.h, .slice a n c] 25)).alloc (.cells #[.int .i64 p.w, .int .i64 p.h, .slice b l d] 25)) (.cells (ic m.zs) 34))
 simp only [World.size_alloc] at X1_0 X2_0
 clear a0_1 a0_2 a1_2 h0 h1 h2 h3 h6
 obtain ⟨-, k0_0, k0_1, k0_2, -⟩ := bx3 X0_0
 obtain ⟨-, k1_0, k1_1, k1_2, -⟩ := bx3 X1_0
 have k2_0 := X2_0.cell (i := 0) (by rw [Hl.out]; omega)
 rw [Mac.zs_kind] at k2_0
 go_enter Tryd.func54, Tryd.ntmps54
 go_wp2_with fail
 refine (impl_PictureValid_any p b d l _ HL.out lc (s.ext E_0)).mono ?_
 rw [D0.out]
 rintro e w_1 ⟨rfl, e_1⟩
 have X0_1 := e_1.blk X0_0
 have X1_1 := e_1.blk X1_0
 have X2_1 := X2_0.ext e_1
 have E_1 := E_0.trans e_1
 clear k0_0 k0_1 k0_2 X0_0 k1_0 k1_1 k1_2 X1_0 k2_0 X2_0 E_0 e_1
 obtain ⟨-, k0_0, k0_1, k0_2, -⟩ := bx3 X0_1
 obtain ⟨-, k1_0, k1_1, k1_2, -⟩ := bx3 X1_1
 have k2_0 := X2_1.cell (i := 0) (by rw [Hl.out]; omega)
 rw [Mac.zs_kind] at k2_0
 go_wp2_with (refine wpList_iload 34 _ rfl rfl X2_1 0 71 rfl _ Tryd.underlying34 rfl size_Macro (by rw [Hl.out]; omega) _ (by rw [sub_all _ _ Hl.out]) ?_)
 refine (impl_MacroValid_any m _ HM.out).mono ?_
 rw [D1.out]
 rintro e w_2 ⟨rfl, e_2⟩
 have X0_2 := e_2.blk X0_1
 have X1_2 := e_2.blk X1_1
 have X2_2 := X2_1.ext e_2
 have E_2 := E_1.trans e_2
 clear k0_0 k0_1 k0_2 X0_1 k1_0 k1_1 k1_2 X1_1 k2_0 X2_1 E_1 e_2
 obtain ⟨-, k0_0, k0_1, k0_2, -⟩ := bx3 X0_2
 obtain ⟨-, k1_0, k1_1, k1_2, -⟩ := bx3 X1_2
 have k2_0 := X2_2.cell (i := 0) (by rw [Hl.out]; omega)
 rw [Mac.zs_kind] at k2_0
 go_wp2_with fail
 refine (qV_in q _ Q2.out).mono ?_
 rintro e w_s2 ⟨rfl, rfl⟩
 go_wp2_with fail
 refine (begins_any p x y b d l _).mono ?_
 rw [D3.out]
 rintro e w_3 ⟨rfl, e_3⟩
 have X0_3 := e_3.blk X0_2
 have X1_3 := e_3.blk X1_2
 have X2_3 := X2_2.ext e_3
 have E_3 := E_2.trans e_3
 clear k0_0 k0_1 k0_2 X0_2 k1_0 k1_1 k1_2 X1_2 k2_0 X2_2 E_2 e_3
 obtain ⟨-, k0_0, k0_1, k0_2, -⟩ := bx3 X0_3
 obtain ⟨-, k1_0, k1_1, k1_2, -⟩ := bx3 X1_3
 have k2_0 := X2_3.cell (i := 0) (by rw [Hl.out]; omega)
 rw [Mac.zs_kind] at k2_0
 go_wp2_with fail
 refine (alike_at ref p a b c d n l _ HN.out HL.out nc lc (r.ext E_3) (s.ext E_3)).mono ?_
 rw [D6.out]
 rintro e w_4 ⟨rfl, e_4⟩
 have X0_4 := e_4.blk X0_3
 have X1_4 := e_4.blk X1_3
 have X2_4 := X2_3.ext e_4
 have E_4 := E_3.trans e_4
 clear k0_0 k0_1 k0_2 X0_3 k1_0 k1_1 k1_2 X1_3 k2_0 X2_3 E_3 e_4
 obtain ⟨-, k0_0, k0_1, k0_2, -⟩ := bx3 X0_4
 obtain ⟨-, k1_0, k1_1, k1_2, -⟩ := bx3 X1_4
 have k2_0 := X2_4.cell (i := 0) (by rw [Hl.out]; omega)
 rw [Mac.zs_kind] at k2_0
 go_wp2
 go_ret
 exact ⟨rfl, E_4⟩
theorem reconstructsN_any (ref p : Pic) (x y : Int) (m : Mac) (q top : Int) (a b : Option Addr) (c d n l : Nat) (w : World) (hn : n = ref.px.length) (hl : l = p.px.length) (nc : n ≤ 9223372036854775807) (lc : l ≤ 9223372036854775807) (r : Sl w a n (ref.px.map (Value.int .i64))) (s : Sl w b l (p.px.map (Value.int .i64))) (hm : m.ok) (hk : ¬ m.kind = 2) :
 Calls Tryd.prog 54 #[.agg #[.int .i64 ref.w, .int .i64 ref.h, .slice a n c], .agg #[.int .i64 p.w, .int .i64 p.h, .slice b l d], .int .i64 x, .int .i64 y, .agg (ic m.zs), .int .i64 q, .int .i64 top] w fun e w' => e = .returned (.bool (decide ((p.valid) ∧ (m.valid) ∧ (0 ≤ q ∧ q ≤ 15) ∧ ((0 ≤ x) ∧ (x < p.w) ∧ (x % 8 = 0) ∧ (0 ≤ y) ∧ (y < p.h) ∧ (y % 8 = 0)) ∧ (0 ≤ top) ∧ (top ≤ y) ∧ (alikeP ref p)))) ∧ Ext w w' := by
 by_cases h0 : p.valid
 ·skip
  by_cases h1 : m.valid
  ·skip
   by_cases h2 : 0 ≤ q ∧ q ≤ 15
   ·skip
    by_cases h3 : (0 ≤ x) ∧ (x < p.w) ∧ (x % 8 = 0) ∧ (0 ≤ y) ∧ (y < p.h) ∧ (y % 8 = 0)
    ·skip
     by_cases h4 : 0 ≤ top
     ·skip
      by_cases h5 : top ≤ y
      ·skip
       by_cases h6 : alikeP ref p
       ·rw [decide_eq_true (show (p.valid) ∧ (m.valid) ∧ (0 ≤ q ∧ q ≤ 15) ∧ ((0 ≤ x) ∧ (x < p.w) ∧ (x % 8 = 0) ∧ (0 ≤ y) ∧ (y < p.h) ∧ (y % 8 = 0)) ∧ (0 ≤ top) ∧ (top ≤ y) ∧ (alikeP ref p) from ⟨h0, h1, h2, h3, h4, h5, h6⟩)]
        exact reconstructsN_7 ref p x y m q top a b c d n l w hn hl nc lc r s hm hk h0 h1 h2 h3 h4 h5 h6
       ·rw [decide_eq_false (show ¬ ((p.valid) ∧ (m.valid) ∧ (0 ≤ q ∧ q ≤ 15) ∧ ((0 ≤ x) ∧ (x < p.w) ∧ (x % 8 = 0) ∧ (0 ≤ y) ∧ (y < p.h) ∧ (y % 8 = 0)) ∧ (0 ≤ top) ∧ (top ≤ y) ∧ (alikeP ref p)) from fun hh => h6 (hh.2.2.2.2.2.2))]
        exact reconstructsN_6 ref p x y m q top a b c d n l w hn hl nc lc r s hm hk h0 h1 h2 h3 h4 h5 h6
      ·rw [decide_eq_false (show ¬ ((p.valid) ∧ (m.valid) ∧ (0 ≤ q ∧ q ≤ 15) ∧ ((0 ≤ x) ∧ (x < p.w) ∧ (x % 8 = 0) ∧ (0 ≤ y) ∧ (y < p.h) ∧ (y % 8 = 0)) ∧ (0 ≤ top) ∧ (top ≤ y) ∧ (alikeP ref p)) from fun hh => h5 (hh.2.2.2.2.2.1))]
       exact reconstructsN_5 ref p x y m q top a b c d n l w hn hl nc lc r s hm hk h0 h1 h2 h3 h4 h5
     ·rw [decide_eq_false (show ¬ ((p.valid) ∧ (m.valid) ∧ (0 ≤ q ∧ q ≤ 15) ∧ ((0 ≤ x) ∧ (x < p.w) ∧ (x % 8 = 0) ∧ (0 ≤ y) ∧ (y < p.h) ∧ (y % 8 = 0)) ∧ (0 ≤ top) ∧ (top ≤ y) ∧ (alikeP ref p)) from fun hh => h4 (hh.2.2.2.2.1))]
      exact reconstructsN_4 ref p x y m q top a b c d n l w hn hl nc lc r s hm hk h0 h1 h2 h3 h4
    ·rw [decide_eq_false (show ¬ ((p.valid) ∧ (m.valid) ∧ (0 ≤ q ∧ q ≤ 15) ∧ ((0 ≤ x) ∧ (x < p.w) ∧ (x % 8 = 0) ∧ (0 ≤ y) ∧ (y < p.h) ∧ (y % 8 = 0)) ∧ (0 ≤ top) ∧ (top ≤ y) ∧ (alikeP ref p)) from fun hh => h3 (hh.2.2.2.1))]
     exact reconstructsN_3 ref p x y m q top a b c d n l w hn hl nc lc r s hm hk h0 h1 h2 h3
   ·rw [decide_eq_false (show ¬ ((p.valid) ∧ (m.valid) ∧ (0 ≤ q ∧ q ≤ 15) ∧ ((0 ≤ x) ∧ (x < p.w) ∧ (x % 8 = 0) ∧ (0 ≤ y) ∧ (y < p.h) ∧ (y % 8 = 0)) ∧ (0 ≤ top) ∧ (top ≤ y) ∧ (alikeP ref p)) from fun hh => h2 (hh.2.2.1))]
    exact reconstructsN_2 ref p x y m q top a b c d n l w hn hl nc lc r s hm hk h0 h1 h2
  ·rw [decide_eq_false (show ¬ ((p.valid) ∧ (m.valid) ∧ (0 ≤ q ∧ q ≤ 15) ∧ ((0 ≤ x) ∧ (x < p.w) ∧ (x % 8 = 0) ∧ (0 ≤ y) ∧ (y < p.h) ∧ (y % 8 = 0)) ∧ (0 ≤ top) ∧ (top ≤ y) ∧ (alikeP ref p)) from fun hh => h1 (hh.2.1))]
   exact reconstructsN_1 ref p x y m q top a b c d n l w hn hl nc lc r s hm hk h0 h1
 ·rw [decide_eq_false (show ¬ ((p.valid) ∧ (m.valid) ∧ (0 ≤ q ∧ q ≤ 15) ∧ ((0 ≤ x) ∧ (x < p.w) ∧ (x % 8 = 0) ∧ (0 ≤ y) ∧ (y < p.h) ∧ (y % 8 = 0)) ∧ (0 ≤ top) ∧ (top ≤ y) ∧ (alikeP ref p)) from fun hh => h0 (hh.1))]
  exact reconstructsN_0 ref p x y m q top a b c d n l w hn hl nc lc r s hm hk h0
theorem reconstructs_any (ref p : Pic) (x y : Int) (m : Mac) (q top : Int) (a b : Option Addr) (c d n l : Nat) (w : World) (hn : n = ref.px.length) (hl : l = p.px.length) (nc : n ≤ 9223372036854775807) (lc : l ≤ 9223372036854775807) (r : Sl w a n (ref.px.map (Value.int .i64))) (s : Sl w b l (p.px.map (Value.int .i64))) (hm : m.ok) :
 Calls Tryd.prog 54 #[.agg #[.int .i64 ref.w, .int .i64 ref.h, .slice a n c], .agg #[.int .i64 p.w, .int .i64 p.h, .slice b l d], .int .i64 x, .int .i64 y, .agg (ic m.zs), .int .i64 q, .int .i64 top] w fun e w' => e = .returned (.bool (decide (okR ref p x y m q top))) ∧ Ext w w' := by
 by_cases hk : m.kind = 2
 ·have h := reconstructsK_any ref p x y m q top a b c d n l w hn hl nc lc r s hm hk
  rw [show decide ((p.valid) ∧ (m.valid) ∧ (0 ≤ q ∧ q ≤ 15) ∧ ((0 ≤ x) ∧ (x < p.w) ∧ (x % 8 = 0) ∧ (0 ≤ y) ∧ (y < p.h) ∧ (y % 8 = 0)) ∧ (0 ≤ top) ∧ (top ≤ y)) = decide (okR ref p x y m q top) from decide_eq_decide.2 ⟨fun ⟨h0, h1, h2, h3, h4, h5⟩ => ⟨⟨h0, h3⟩, h1, h2, ⟨h4, h5⟩, .inl hk⟩, fun ⟨h0, h1, h2, h3, _⟩ => ⟨h0.1, h1, h2, h0.2, h3.1, h3.2⟩⟩] at h
  exact h
 ·have h := reconstructsN_any ref p x y m q top a b c d n l w hn hl nc lc r s hm hk
  rw [show decide ((p.valid) ∧ (m.valid) ∧ (0 ≤ q ∧ q ≤ 15) ∧ ((0 ≤ x) ∧ (x < p.w) ∧ (x % 8 = 0) ∧ (0 ≤ y) ∧ (y < p.h) ∧ (y % 8 = 0)) ∧ (0 ≤ top) ∧ (top ≤ y) ∧ (alikeP ref p)) = decide (okR ref p x y m q top) from decide_eq_decide.2 ⟨fun ⟨h0, h1, h2, h3, h4, h5, h6⟩ => ⟨⟨h0, h3⟩, h1, h2, ⟨h4, h5⟩, .inr h6⟩, fun ⟨h0, h1, h2, h3, h4⟩ => ⟨h0.1, h1, h2, h0.2, h3.1, h3.2, h4.resolve_left hk⟩⟩] at h
  exact h
set_option maxRecDepth 100000 in
theorem l8OkK_0 (ref p : Pic) (x y : Int) (m : Mac) (q top : Int) (a b : Option Addr) (c d n l : Nat) (w : World) (hn : n = ref.px.length) (hl : l = p.px.length) (nc : n ≤ 9223372036854775807) (lc : l ≤ 9223372036854775807) (r : Sl w a n (ref.px.map (Value.int .i64))) (s : Sl w b l (p.px.map (Value.int .i64))) (hm : m.ok) (hk : m.kind = 2)  (h0 : ¬ (placeP p x y)) :
 Calls Tryd.prog 60 #[.agg #[.int .i64 ref.w, .int .i64 ref.h, .slice a n c], .agg #[.int .i64 p.w, .int .i64 p.h, .slice b l d], .int .i64 x, .int .i64 y, .agg (ic m.zs), .int .i64 q, .int .i64 top] w fun e w' => e = .returned (.bool false) ∧ Ext w w' := by
 have HN := Lib.hid hn
 have HL := Lib.hid hl
 have HM := Lib.hid hm
 have Hl := Lib.hid (Mac.zs_len hm)
 clear hn hl hm
 have fk : (m.kind == 2) = true := by simpa using hk
 clear hk
 have D0 := Lib.hid (show decide (placeP p x y) = false from decide_eq_false h0)
 have a0_1 := Ext.alloc (w.alloc (.cells #[.int .i64 ref.w, .int .i64 ref.h, .slice a n c] 25)) (.cells #[.int .i64 p.w, .int .i64 p.h, .slice b l d] 25)
 have a0_2 := Ext.alloc ((w.alloc (.cells #[.int .i64 ref.w, .int .i64 ref.h, .slice a n c] 25)).alloc (.cells #[.int .i64 p.w, .int .i64 p.h, .slice b l d] 25)) (.cells (ic m.zs) 34)
 have X0_0 := a0_2.blk (a0_1.blk (blk_new w (.cells #[.int .i64 ref.w, .int .i64 ref.h, .slice a n c] 25)))
 have a1_2 := Ext.alloc ((w.alloc (.cells #[.int .i64 ref.w, .int .i64 ref.h, .slice a n c] 25)).alloc (.cells #[.int .i64 p.w, .int .i64 p.h, .slice b l d] 25)) (.cells (ic m.zs) 34)
 have X1_0 := a1_2.blk (blk_new (w.alloc (.cells #[.int .i64 ref.w, .int .i64 ref.h, .slice a n c] 25)) (.cells #[.int .i64 p.w, .int .i64 p.h, .slice b l d] 25))
 have X2_0 := IB.new ((w.alloc (.cells #[.int .i64 ref.w, .int .i64 ref.h, .slice a n c] 25)).alloc (.cells #[.int .i64 p.w, .int .i64 p.h, .slice b l d] 25)) 34 m.zs
 have E_0 := ((Ext.alloc w (.cells #[.int .i64 ref.w, .int .i64 ref.h, .slice a n c] 25)).trans (Ext.alloc (w.alloc (.cells #[.int .i64 ref.w, .int .i64 ref.h, .slice a n c] 25)) (.cells #[.int .i64 p.w, .int .i64 p.h, .slice b l d] 25))).trans (Ext.alloc ((w.alloc (.cells #[.int .i64 ref.w, .int .i64 ref.h, .slice a n c] 25)).alloc (.cells #[.int .i64 p.w, .int .i64 p.h, .slice b l d] 25)) (.cells (ic m.zs) 34))
 simp only [World.size_alloc] at X1_0 X2_0
 clear a0_1 a0_2 a1_2 h0
 obtain ⟨-, k0_0, k0_1, k0_2, -⟩ := bx3 X0_0
 obtain ⟨-, k1_0, k1_1, k1_2, -⟩ := bx3 X1_0
 have k2_0 := X2_0.cell (i := 0) (by rw [Hl.out]; omega)
 rw [Mac.zs_kind] at k2_0
 go_enter Tryd.func60, Tryd.ntmps60
 go_wp2_with fail
 refine (l7Place_at p x y b d l _ HL.out lc (s.ext E_0)).mono ?_
 rw [D0.out]
 rintro e w_1 ⟨rfl, e_1⟩
 have X0_1 := e_1.blk X0_0
 have X1_1 := e_1.blk X1_0
 have X2_1 := X2_0.ext e_1
 have E_1 := E_0.trans e_1
 clear k0_0 k0_1 k0_2 X0_0 k1_0 k1_1 k1_2 X1_0 k2_0 X2_0 E_0 e_1
 obtain ⟨-, k0_0, k0_1, k0_2, -⟩ := bx3 X0_1
 obtain ⟨-, k1_0, k1_1, k1_2, -⟩ := bx3 X1_1
 have k2_0 := X2_1.cell (i := 0) (by rw [Hl.out]; omega)
 rw [Mac.zs_kind] at k2_0
 go_wp2
 go_ret
 exact ⟨rfl, E_1⟩
set_option maxRecDepth 100000 in
theorem l8OkK_1 (ref p : Pic) (x y : Int) (m : Mac) (q top : Int) (a b : Option Addr) (c d n l : Nat) (w : World) (hn : n = ref.px.length) (hl : l = p.px.length) (nc : n ≤ 9223372036854775807) (lc : l ≤ 9223372036854775807) (r : Sl w a n (ref.px.map (Value.int .i64))) (s : Sl w b l (p.px.map (Value.int .i64))) (hm : m.ok) (hk : m.kind = 2) (h0 : placeP p x y) (h1 : ¬ (m.valid)) :
 Calls Tryd.prog 60 #[.agg #[.int .i64 ref.w, .int .i64 ref.h, .slice a n c], .agg #[.int .i64 p.w, .int .i64 p.h, .slice b l d], .int .i64 x, .int .i64 y, .agg (ic m.zs), .int .i64 q, .int .i64 top] w fun e w' => e = .returned (.bool false) ∧ Ext w w' := by
 have HN := Lib.hid hn
 have HL := Lib.hid hl
 have HM := Lib.hid hm
 have Hl := Lib.hid (Mac.zs_len hm)
 clear hn hl hm
 have fk : (m.kind == 2) = true := by simpa using hk
 clear hk
 have D0 := Lib.hid (show decide (placeP p x y) = true from decide_eq_true h0)
 have D1 := Lib.hid (show decide (m.valid) = false from decide_eq_false h1)
 have a0_1 := Ext.alloc (w.alloc (.cells #[.int .i64 ref.w, .int .i64 ref.h, .slice a n c] 25)) (.cells #[.int .i64 p.w, .int .i64 p.h, .slice b l d] 25)
 have a0_2 := Ext.alloc ((w.alloc (.cells #[.int .i64 ref.w, .int .i64 ref.h, .slice a n c] 25)).alloc (.cells #[.int .i64 p.w, .int .i64 p.h, .slice b l d] 25)) (.cells (ic m.zs) 34)
 have X0_0 := a0_2.blk (a0_1.blk (blk_new w (.cells #[.int .i64 ref.w, .int .i64 ref.h, .slice a n c] 25)))
 have a1_2 := Ext.alloc ((w.alloc (.cells #[.int .i64 ref.w, .int .i64 ref.h, .slice a n c] 25)).alloc (.cells #[.int .i64 p.w, .int .i64 p.h, .slice b l d] 25)) (.cells (ic m.zs) 34)
 have X1_0 := a1_2.blk (blk_new (w.alloc (.cells #[.int .i64 ref.w, .int .i64 ref.h, .slice a n c] 25)) (.cells #[.int .i64 p.w, .int .i64 p.h, .slice b l d] 25))
 have X2_0 := IB.new ((w.alloc (.cells #[.int .i64 ref.w, .int .i64 ref.h, .slice a n c] 25)).alloc (.cells #[.int .i64 p.w, .int .i64 p.h, .slice b l d] 25)) 34 m.zs
 have E_0 := ((Ext.alloc w (.cells #[.int .i64 ref.w, .int .i64 ref.h, .slice a n c] 25)).trans (Ext.alloc (w.alloc (.cells #[.int .i64 ref.w, .int .i64 ref.h, .slice a n c] 25)) (.cells #[.int .i64 p.w, .int .i64 p.h, .slice b l d] 25))).trans (Ext.alloc ((w.alloc (.cells #[.int .i64 ref.w, .int .i64 ref.h, .slice a n c] 25)).alloc (.cells #[.int .i64 p.w, .int .i64 p.h, .slice b l d] 25)) (.cells (ic m.zs) 34))
 simp only [World.size_alloc] at X1_0 X2_0
 clear a0_1 a0_2 a1_2 h0 h1
 obtain ⟨-, k0_0, k0_1, k0_2, -⟩ := bx3 X0_0
 obtain ⟨-, k1_0, k1_1, k1_2, -⟩ := bx3 X1_0
 have k2_0 := X2_0.cell (i := 0) (by rw [Hl.out]; omega)
 rw [Mac.zs_kind] at k2_0
 go_enter Tryd.func60, Tryd.ntmps60
 go_wp2_with fail
 refine (l7Place_at p x y b d l _ HL.out lc (s.ext E_0)).mono ?_
 rw [D0.out]
 rintro e w_1 ⟨rfl, e_1⟩
 have X0_1 := e_1.blk X0_0
 have X1_1 := e_1.blk X1_0
 have X2_1 := X2_0.ext e_1
 have E_1 := E_0.trans e_1
 clear k0_0 k0_1 k0_2 X0_0 k1_0 k1_1 k1_2 X1_0 k2_0 X2_0 E_0 e_1
 obtain ⟨-, k0_0, k0_1, k0_2, -⟩ := bx3 X0_1
 obtain ⟨-, k1_0, k1_1, k1_2, -⟩ := bx3 X1_1
 have k2_0 := X2_1.cell (i := 0) (by rw [Hl.out]; omega)
 rw [Mac.zs_kind] at k2_0
 go_wp2_with (refine wpList_iload 34 _ rfl rfl X2_1 0 71 rfl _ Tryd.underlying34 rfl size_Macro (by rw [Hl.out]; omega) _ (by rw [sub_all _ _ Hl.out]) ?_)
 refine (spec_MacroValid_any m _ HM.out).mono ?_
 rw [D1.out]
 rintro e w_2 ⟨rfl, e_2⟩
 have X0_2 := e_2.blk X0_1
 have X1_2 := e_2.blk X1_1
 have X2_2 := X2_1.ext e_2
 have E_2 := E_1.trans e_2
 clear k0_0 k0_1 k0_2 X0_1 k1_0 k1_1 k1_2 X1_1 k2_0 X2_1 E_1 e_2
 obtain ⟨-, k0_0, k0_1, k0_2, -⟩ := bx3 X0_2
 obtain ⟨-, k1_0, k1_1, k1_2, -⟩ := bx3 X1_2
 have k2_0 := X2_2.cell (i := 0) (by rw [Hl.out]; omega)
 rw [Mac.zs_kind] at k2_0
 go_wp2
 go_ret
 exact ⟨rfl, E_2⟩
set_option maxRecDepth 100000 in
theorem l8OkK_2 (ref p : Pic) (x y : Int) (m : Mac) (q top : Int) (a b : Option Addr) (c d n l : Nat) (w : World) (hn : n = ref.px.length) (hl : l = p.px.length) (nc : n ≤ 9223372036854775807) (lc : l ≤ 9223372036854775807) (r : Sl w a n (ref.px.map (Value.int .i64))) (s : Sl w b l (p.px.map (Value.int .i64))) (hm : m.ok) (hk : m.kind = 2) (h0 : placeP p x y) (h1 : m.valid) (h2 : ¬ (0 ≤ q ∧ q ≤ 15)) :
 Calls Tryd.prog 60 #[.agg #[.int .i64 ref.w, .int .i64 ref.h, .slice a n c], .agg #[.int .i64 p.w, .int .i64 p.h, .slice b l d], .int .i64 x, .int .i64 y, .agg (ic m.zs), .int .i64 q, .int .i64 top] w fun e w' => e = .returned (.bool false) ∧ Ext w w' := by
 have HN := Lib.hid hn
 have HL := Lib.hid hl
 have HM := Lib.hid hm
 have Hl := Lib.hid (Mac.zs_len hm)
 clear hn hl hm
 have fk : (m.kind == 2) = true := by simpa using hk
 clear hk
 have D0 := Lib.hid (show decide (placeP p x y) = true from decide_eq_true h0)
 have D1 := Lib.hid (show decide (m.valid) = true from decide_eq_true h1)
 have a0_1 := Ext.alloc (w.alloc (.cells #[.int .i64 ref.w, .int .i64 ref.h, .slice a n c] 25)) (.cells #[.int .i64 p.w, .int .i64 p.h, .slice b l d] 25)
 have a0_2 := Ext.alloc ((w.alloc (.cells #[.int .i64 ref.w, .int .i64 ref.h, .slice a n c] 25)).alloc (.cells #[.int .i64 p.w, .int .i64 p.h, .slice b l d] 25)) (.cells (ic m.zs) 34)
 have X0_0 := a0_2.blk (a0_1.blk (blk_new w (.cells #[.int .i64 ref.w, .int .i64 ref.h, .slice a n c] 25)))
 have a1_2 := Ext.alloc ((w.alloc (.cells #[.int .i64 ref.w, .int .i64 ref.h, .slice a n c] 25)).alloc (.cells #[.int .i64 p.w, .int .i64 p.h, .slice b l d] 25)) (.cells (ic m.zs) 34)
 have X1_0 := a1_2.blk (blk_new (w.alloc (.cells #[.int .i64 ref.w, .int .i64 ref.h, .slice a n c] 25)) (.cells #[.int .i64 p.w, .int .i64 p.h, .slice b l d] 25))
 have X2_0 := IB.new ((w.alloc (.cells #[.int .i64 ref.w, .int .i64 ref.h, .slice a n c] 25)).alloc (.cells #[.int .i64 p.w, .int .i64 p.h, .slice b l d] 25)) 34 m.zs
 have E_0 := ((Ext.alloc w (.cells #[.int .i64 ref.w, .int .i64 ref.h, .slice a n c] 25)).trans (Ext.alloc (w.alloc (.cells #[.int .i64 ref.w, .int .i64 ref.h, .slice a n c] 25)) (.cells #[.int .i64 p.w, .int .i64 p.h, .slice b l d] 25))).trans (Ext.alloc ((w.alloc (.cells #[.int .i64 ref.w, .int .i64 ref.h, .slice a n c] 25)).alloc (.cells #[.int .i64 p.w, .int .i64 p.h, .slice b l d] 25)) (.cells (ic m.zs) 34))
 simp only [World.size_alloc] at X1_0 X2_0
 clear a0_1 a0_2 a1_2 h0 h1
 obtain ⟨-, k0_0, k0_1, k0_2, -⟩ := bx3 X0_0
 obtain ⟨-, k1_0, k1_1, k1_2, -⟩ := bx3 X1_0
 have k2_0 := X2_0.cell (i := 0) (by rw [Hl.out]; omega)
 rw [Mac.zs_kind] at k2_0
 go_enter Tryd.func60, Tryd.ntmps60
 go_wp2_with fail
 refine (l7Place_at p x y b d l _ HL.out lc (s.ext E_0)).mono ?_
 rw [D0.out]
 rintro e w_1 ⟨rfl, e_1⟩
 have X0_1 := e_1.blk X0_0
 have X1_1 := e_1.blk X1_0
 have X2_1 := X2_0.ext e_1
 have E_1 := E_0.trans e_1
 clear k0_0 k0_1 k0_2 X0_0 k1_0 k1_1 k1_2 X1_0 k2_0 X2_0 E_0 e_1
 obtain ⟨-, k0_0, k0_1, k0_2, -⟩ := bx3 X0_1
 obtain ⟨-, k1_0, k1_1, k1_2, -⟩ := bx3 X1_1
 have k2_0 := X2_1.cell (i := 0) (by rw [Hl.out]; omega)
 rw [Mac.zs_kind] at k2_0
 go_wp2_with (refine wpList_iload 34 _ rfl rfl X2_1 0 71 rfl _ Tryd.underlying34 rfl size_Macro (by rw [Hl.out]; omega) _ (by rw [sub_all _ _ Hl.out]) ?_)
 refine (spec_MacroValid_any m _ HM.out).mono ?_
 rw [D1.out]
 rintro e w_2 ⟨rfl, e_2⟩
 have X0_2 := e_2.blk X0_1
 have X1_2 := e_2.blk X1_1
 have X2_2 := X2_1.ext e_2
 have E_2 := E_1.trans e_2
 clear k0_0 k0_1 k0_2 X0_1 k1_0 k1_1 k1_2 X1_1 k2_0 X2_1 E_1 e_2
 obtain ⟨-, k0_0, k0_1, k0_2, -⟩ := bx3 X0_2
 obtain ⟨-, k1_0, k1_1, k1_2, -⟩ := bx3 X1_2
 have k2_0 := X2_2.cell (i := 0) (by rw [Hl.out]; omega)
 rw [Mac.zs_kind] at k2_0
 go_wp2_with fail
 refine (l1In_no _ _ _ _ (by omega)).mono ?_
 rintro e w_s2 ⟨rfl, rfl⟩
 go_wp2
 go_ret
 exact ⟨rfl, E_2⟩
set_option maxRecDepth 100000 in
theorem l8OkK_3 (ref p : Pic) (x y : Int) (m : Mac) (q top : Int) (a b : Option Addr) (c d n l : Nat) (w : World) (hn : n = ref.px.length) (hl : l = p.px.length) (nc : n ≤ 9223372036854775807) (lc : l ≤ 9223372036854775807) (r : Sl w a n (ref.px.map (Value.int .i64))) (s : Sl w b l (p.px.map (Value.int .i64))) (hm : m.ok) (hk : m.kind = 2) (h0 : placeP p x y) (h1 : m.valid) (h2 : 0 ≤ q ∧ q ≤ 15) (h3 : ¬ (0 ≤ top ∧ top ≤ y)) :
 Calls Tryd.prog 60 #[.agg #[.int .i64 ref.w, .int .i64 ref.h, .slice a n c], .agg #[.int .i64 p.w, .int .i64 p.h, .slice b l d], .int .i64 x, .int .i64 y, .agg (ic m.zs), .int .i64 q, .int .i64 top] w fun e w' => e = .returned (.bool false) ∧ Ext w w' := by
 have HN := Lib.hid hn
 have HL := Lib.hid hl
 have HM := Lib.hid hm
 have Hl := Lib.hid (Mac.zs_len hm)
 clear hn hl hm
 have fk : (m.kind == 2) = true := by simpa using hk
 clear hk
 have D0 := Lib.hid (show decide (placeP p x y) = true from decide_eq_true h0)
 have D1 := Lib.hid (show decide (m.valid) = true from decide_eq_true h1)
 have a0_1 := Ext.alloc (w.alloc (.cells #[.int .i64 ref.w, .int .i64 ref.h, .slice a n c] 25)) (.cells #[.int .i64 p.w, .int .i64 p.h, .slice b l d] 25)
 have a0_2 := Ext.alloc ((w.alloc (.cells #[.int .i64 ref.w, .int .i64 ref.h, .slice a n c] 25)).alloc (.cells #[.int .i64 p.w, .int .i64 p.h, .slice b l d] 25)) (.cells (ic m.zs) 34)
 have X0_0 := a0_2.blk (a0_1.blk (blk_new w (.cells #[.int .i64 ref.w, .int .i64 ref.h, .slice a n c] 25)))
 have a1_2 := Ext.alloc ((w.alloc (.cells #[.int .i64 ref.w, .int .i64 ref.h, .slice a n c] 25)).alloc (.cells #[.int .i64 p.w, .int .i64 p.h, .slice b l d] 25)) (.cells (ic m.zs) 34)
 have X1_0 := a1_2.blk (blk_new (w.alloc (.cells #[.int .i64 ref.w, .int .i64 ref.h, .slice a n c] 25)) (.cells #[.int .i64 p.w, .int .i64 p.h, .slice b l d] 25))
 have X2_0 := IB.new ((w.alloc (.cells #[.int .i64 ref.w, .int .i64 ref.h, .slice a n c] 25)).alloc (.cells #[.int .i64 p.w, .int .i64 p.h, .slice b l d] 25)) 34 m.zs
 have E_0 := ((Ext.alloc w (.cells #[.int .i64 ref.w, .int .i64 ref.h, .slice a n c] 25)).trans (Ext.alloc (w.alloc (.cells #[.int .i64 ref.w, .int .i64 ref.h, .slice a n c] 25)) (.cells #[.int .i64 p.w, .int .i64 p.h, .slice b l d] 25))).trans (Ext.alloc ((w.alloc (.cells #[.int .i64 ref.w, .int .i64 ref.h, .slice a n c] 25)).alloc (.cells #[.int .i64 p.w, .int .i64 p.h, .slice b l d] 25)) (.cells (ic m.zs) 34))
 simp only [World.size_alloc] at X1_0 X2_0
 clear a0_1 a0_2 a1_2 h0 h1
 obtain ⟨-, k0_0, k0_1, k0_2, -⟩ := bx3 X0_0
 obtain ⟨-, k1_0, k1_1, k1_2, -⟩ := bx3 X1_0
 have k2_0 := X2_0.cell (i := 0) (by rw [Hl.out]; omega)
 rw [Mac.zs_kind] at k2_0
 go_enter Tryd.func60, Tryd.ntmps60
 go_wp2_with fail
 refine (l7Place_at p x y b d l _ HL.out lc (s.ext E_0)).mono ?_
 rw [D0.out]
 rintro e w_1 ⟨rfl, e_1⟩
 have X0_1 := e_1.blk X0_0
 have X1_1 := e_1.blk X1_0
 have X2_1 := X2_0.ext e_1
 have E_1 := E_0.trans e_1
 clear k0_0 k0_1 k0_2 X0_0 k1_0 k1_1 k1_2 X1_0 k2_0 X2_0 E_0 e_1
 obtain ⟨-, k0_0, k0_1, k0_2, -⟩ := bx3 X0_1
 obtain ⟨-, k1_0, k1_1, k1_2, -⟩ := bx3 X1_1
 have k2_0 := X2_1.cell (i := 0) (by rw [Hl.out]; omega)
 rw [Mac.zs_kind] at k2_0
 go_wp2_with (refine wpList_iload 34 _ rfl rfl X2_1 0 71 rfl _ Tryd.underlying34 rfl size_Macro (by rw [Hl.out]; omega) _ (by rw [sub_all _ _ Hl.out]) ?_)
 refine (spec_MacroValid_any m _ HM.out).mono ?_
 rw [D1.out]
 rintro e w_2 ⟨rfl, e_2⟩
 have X0_2 := e_2.blk X0_1
 have X1_2 := e_2.blk X1_1
 have X2_2 := X2_1.ext e_2
 have E_2 := E_1.trans e_2
 clear k0_0 k0_1 k0_2 X0_1 k1_0 k1_1 k1_2 X1_1 k2_0 X2_1 E_1 e_2
 obtain ⟨-, k0_0, k0_1, k0_2, -⟩ := bx3 X0_2
 obtain ⟨-, k1_0, k1_1, k1_2, -⟩ := bx3 X1_2
 have k2_0 := X2_2.cell (i := 0) (by rw [Hl.out]; omega)
 rw [Mac.zs_kind] at k2_0
 go_wp2_with fail
 refine (l1In_yes _ _ _ _ h2.1 h2.2).mono ?_
 rintro e w_s2 ⟨rfl, rfl⟩
 go_wp2_with fail
 refine (l1In_no _ _ _ _ (by omega)).mono ?_
 rintro e w_s3 ⟨rfl, rfl⟩
 go_wp2
 go_ret
 exact ⟨rfl, E_2⟩
set_option maxRecDepth 100000 in
theorem l8OkK_4 (ref p : Pic) (x y : Int) (m : Mac) (q top : Int) (a b : Option Addr) (c d n l : Nat) (w : World) (hn : n = ref.px.length) (hl : l = p.px.length) (nc : n ≤ 9223372036854775807) (lc : l ≤ 9223372036854775807) (r : Sl w a n (ref.px.map (Value.int .i64))) (s : Sl w b l (p.px.map (Value.int .i64))) (hm : m.ok) (hk : m.kind = 2) (h0 : placeP p x y) (h1 : m.valid) (h2 : 0 ≤ q ∧ q ≤ 15) (h3 : 0 ≤ top ∧ top ≤ y) :
 Calls Tryd.prog 60 #[.agg #[.int .i64 ref.w, .int .i64 ref.h, .slice a n c], .agg #[.int .i64 p.w, .int .i64 p.h, .slice b l d], .int .i64 x, .int .i64 y, .agg (ic m.zs), .int .i64 q, .int .i64 top] w fun e w' => e = .returned (.bool true) ∧ Ext w w' := by
 have HN := Lib.hid hn
 have HL := Lib.hid hl
 have HM := Lib.hid hm
 have Hl := Lib.hid (Mac.zs_len hm)
 clear hn hl hm
 have fk : (m.kind == 2) = true := by simpa using hk
 clear hk
 have D0 := Lib.hid (show decide (placeP p x y) = true from decide_eq_true h0)
 have D1 := Lib.hid (show decide (m.valid) = true from decide_eq_true h1)
 have a0_1 := Ext.alloc (w.alloc (.cells #[.int .i64 ref.w, .int .i64 ref.h, .slice a n c] 25)) (.cells #[.int .i64 p.w, .int .i64 p.h, .slice b l d] 25)
 have a0_2 := Ext.alloc ((w.alloc (.cells #[.int .i64 ref.w, .int .i64 ref.h, .slice a n c] 25)).alloc (.cells #[.int .i64 p.w, .int .i64 p.h, .slice b l d] 25)) (.cells (ic m.zs) 34)
 have X0_0 := a0_2.blk (a0_1.blk (blk_new w (.cells #[.int .i64 ref.w, .int .i64 ref.h, .slice a n c] 25)))
 have a1_2 := Ext.alloc ((w.alloc (.cells #[.int .i64 ref.w, .int .i64 ref.h, .slice a n c] 25)).alloc (.cells #[.int .i64 p.w, .int .i64 p.h, .slice b l d] 25)) (.cells (ic m.zs) 34)
 have X1_0 := a1_2.blk (blk_new (w.alloc (.cells #[.int .i64 ref.w, .int .i64 ref.h, .slice a n c] 25)) (.cells #[.int .i64 p.w, .int .i64 p.h, .slice b l d] 25))
 have X2_0 := IB.new ((w.alloc (.cells #[.int .i64 ref.w, .int .i64 ref.h, .slice a n c] 25)).alloc (.cells #[.int .i64 p.w, .int .i64 p.h, .slice b l d] 25)) 34 m.zs
 have E_0 := ((Ext.alloc w (.cells #[.int .i64 ref.w, .int .i64 ref.h, .slice a n c] 25)).trans (Ext.alloc (w.alloc (.cells #[.int .i64 ref.w, .int .i64 ref.h, .slice a n c] 25)) (.cells #[.int .i64 p.w, .int .i64 p.h, .slice b l d] 25))).trans (Ext.alloc ((w.alloc (.cells #[.int .i64 ref.w, .int .i64 ref.h, .slice a n c] 25)).alloc (.cells #[.int .i64 p.w, .int .i64 p.h, .slice b l d] 25)) (.cells (ic m.zs) 34))
 simp only [World.size_alloc] at X1_0 X2_0
 clear a0_1 a0_2 a1_2 h0 h1
 obtain ⟨-, k0_0, k0_1, k0_2, -⟩ := bx3 X0_0
 obtain ⟨-, k1_0, k1_1, k1_2, -⟩ := bx3 X1_0
 have k2_0 := X2_0.cell (i := 0) (by rw [Hl.out]; omega)
 rw [Mac.zs_kind] at k2_0
 go_enter Tryd.func60, Tryd.ntmps60
 go_wp2_with fail
 refine (l7Place_at p x y b d l _ HL.out lc (s.ext E_0)).mono ?_
 rw [D0.out]
 rintro e w_1 ⟨rfl, e_1⟩
 have X0_1 := e_1.blk X0_0
 have X1_1 := e_1.blk X1_0
 have X2_1 := X2_0.ext e_1
 have E_1 := E_0.trans e_1
 clear k0_0 k0_1 k0_2 X0_0 k1_0 k1_1 k1_2 X1_0 k2_0 X2_0 E_0 e_1
 obtain ⟨-, k0_0, k0_1, k0_2, -⟩ := bx3 X0_1
 obtain ⟨-, k1_0, k1_1, k1_2, -⟩ := bx3 X1_1
 have k2_0 := X2_1.cell (i := 0) (by rw [Hl.out]; omega)
 rw [Mac.zs_kind] at k2_0
 go_wp2_with (refine wpList_iload 34 _ rfl rfl X2_1 0 71 rfl _ Tryd.underlying34 rfl size_Macro (by rw [Hl.out]; omega) _ (by rw [sub_all _ _ Hl.out]) ?_)
 refine (spec_MacroValid_any m _ HM.out).mono ?_
 rw [D1.out]
 rintro e w_2 ⟨rfl, e_2⟩
 have X0_2 := e_2.blk X0_1
 have X1_2 := e_2.blk X1_1
 have X2_2 := X2_1.ext e_2
 have E_2 := E_1.trans e_2
 clear k0_0 k0_1 k0_2 X0_1 k1_0 k1_1 k1_2 X1_1 k2_0 X2_1 E_1 e_2
 obtain ⟨-, k0_0, k0_1, k0_2, -⟩ := bx3 X0_2
 obtain ⟨-, k1_0, k1_1, k1_2, -⟩ := bx3 X1_2
 have k2_0 := X2_2.cell (i := 0) (by rw [Hl.out]; omega)
 rw [Mac.zs_kind] at k2_0
 go_wp2_with fail
 refine (l1In_yes _ _ _ _ h2.1 h2.2).mono ?_
 rintro e w_s2 ⟨rfl, rfl⟩
 go_wp2_with fail
 refine (l1In_yes _ _ _ _ h3.1 h3.2).mono ?_
 rintro e w_s3 ⟨rfl, rfl⟩
 go_wp2
 go_ret
 exact ⟨rfl, E_2⟩
theorem l8OkK_any (ref p : Pic) (x y : Int) (m : Mac) (q top : Int) (a b : Option Addr) (c d n l : Nat) (w : World) (hn : n = ref.px.length) (hl : l = p.px.length) (nc : n ≤ 9223372036854775807) (lc : l ≤ 9223372036854775807) (r : Sl w a n (ref.px.map (Value.int .i64))) (s : Sl w b l (p.px.map (Value.int .i64))) (hm : m.ok) (hk : m.kind = 2) :
 Calls Tryd.prog 60 #[.agg #[.int .i64 ref.w, .int .i64 ref.h, .slice a n c], .agg #[.int .i64 p.w, .int .i64 p.h, .slice b l d], .int .i64 x, .int .i64 y, .agg (ic m.zs), .int .i64 q, .int .i64 top] w fun e w' => e = .returned (.bool (decide ((placeP p x y) ∧ (m.valid) ∧ (0 ≤ q ∧ q ≤ 15) ∧ (0 ≤ top ∧ top ≤ y)))) ∧ Ext w w' := by
 by_cases h0 : placeP p x y
 ·skip
  by_cases h1 : m.valid
  ·skip
   by_cases h2 : 0 ≤ q ∧ q ≤ 15
   ·skip
    by_cases h3 : 0 ≤ top ∧ top ≤ y
    ·rw [decide_eq_true (show (placeP p x y) ∧ (m.valid) ∧ (0 ≤ q ∧ q ≤ 15) ∧ (0 ≤ top ∧ top ≤ y) from ⟨h0, h1, h2, h3⟩)]
     exact l8OkK_4 ref p x y m q top a b c d n l w hn hl nc lc r s hm hk h0 h1 h2 h3
    ·rw [decide_eq_false (show ¬ ((placeP p x y) ∧ (m.valid) ∧ (0 ≤ q ∧ q ≤ 15) ∧ (0 ≤ top ∧ top ≤ y)) from fun hh => h3 (hh.2.2.2))]
     exact l8OkK_3 ref p x y m q top a b c d n l w hn hl nc lc r s hm hk h0 h1 h2 h3
   ·rw [decide_eq_false (show ¬ ((placeP p x y) ∧ (m.valid) ∧ (0 ≤ q ∧ q ≤ 15) ∧ (0 ≤ top ∧ top ≤ y)) from fun hh => h2 (hh.2.2.1))]
    exact l8OkK_2 ref p x y m q top a b c d n l w hn hl nc lc r s hm hk h0 h1 h2
  ·rw [decide_eq_false (show ¬ ((placeP p x y) ∧ (m.valid) ∧ (0 ≤ q ∧ q ≤ 15) ∧ (0 ≤ top ∧ top ≤ y)) from fun hh => h1 (hh.2.1))]
   exact l8OkK_1 ref p x y m q top a b c d n l w hn hl nc lc r s hm hk h0 h1
 ·rw [decide_eq_false (show ¬ ((placeP p x y) ∧ (m.valid) ∧ (0 ≤ q ∧ q ≤ 15) ∧ (0 ≤ top ∧ top ≤ y)) from fun hh => h0 (hh.1))]
  exact l8OkK_0 ref p x y m q top a b c d n l w hn hl nc lc r s hm hk h0
set_option maxRecDepth 100000 in
theorem l8OkN_0 (ref p : Pic) (x y : Int) (m : Mac) (q top : Int) (a b : Option Addr) (c d n l : Nat) (w : World) (hn : n = ref.px.length) (hl : l = p.px.length) (nc : n ≤ 9223372036854775807) (lc : l ≤ 9223372036854775807) (r : Sl w a n (ref.px.map (Value.int .i64))) (s : Sl w b l (p.px.map (Value.int .i64))) (hm : m.ok) (hk : ¬ m.kind = 2)  (h0 : ¬ (placeP p x y)) :
 Calls Tryd.prog 60 #[.agg #[.int .i64 ref.w, .int .i64 ref.h, .slice a n c], .agg #[.int .i64 p.w, .int .i64 p.h, .slice b l d], .int .i64 x, .int .i64 y, .agg (ic m.zs), .int .i64 q, .int .i64 top] w fun e w' => e = .returned (.bool false) ∧ Ext w w' := by
 have HN := Lib.hid hn
 have HL := Lib.hid hl
 have HM := Lib.hid hm
 have Hl := Lib.hid (Mac.zs_len hm)
 clear hn hl hm
 have fk : (m.kind == 2) = false := by simpa using hk
 clear hk
 have D0 := Lib.hid (show decide (placeP p x y) = false from decide_eq_false h0)
 have a0_1 := Ext.alloc (w.alloc (.cells #[.int .i64 ref.w, .int .i64 ref.h, .slice a n c] 25)) (.cells #[.int .i64 p.w, .int .i64 p.h, .slice b l d] 25)
 have a0_2 := Ext.alloc ((w.alloc (.cells #[.int .i64 ref.w, .int .i64 ref.h, .slice a n c] 25)).alloc (.cells #[.int .i64 p.w, .int .i64 p.h, .slice b l d] 25)) (.cells (ic m.zs) 34)
 have X0_0 := a0_2.blk (a0_1.blk (blk_new w (.cells #[.int .i64 ref.w, .int .i64 ref.h, .slice a n c] 25)))
 have a1_2 := Ext.alloc ((w.alloc (.cells #[.int .i64 ref.w, .int .i64 ref.h, .slice a n c] 25)).alloc (.cells #[.int .i64 p.w, .int .i64 p.h, .slice b l d] 25)) (.cells (ic m.zs) 34)
 have X1_0 := a1_2.blk (blk_new (w.alloc (.cells #[.int .i64 ref.w, .int .i64 ref.h, .slice a n c] 25)) (.cells #[.int .i64 p.w, .int .i64 p.h, .slice b l d] 25))
 have X2_0 := IB.new ((w.alloc (.cells #[.int .i64 ref.w, .int .i64 ref.h, .slice a n c] 25)).alloc (.cells #[.int .i64 p.w, .int .i64 p.h, .slice b l d] 25)) 34 m.zs
 have E_0 := ((Ext.alloc w (.cells #[.int .i64 ref.w, .int .i64 ref.h, .slice a n c] 25)).trans (Ext.alloc (w.alloc (.cells #[.int .i64 ref.w, .int .i64 ref.h, .slice a n c] 25)) (.cells #[.int .i64 p.w, .int .i64 p.h, .slice b l d] 25))).trans (Ext.alloc ((w.alloc (.cells #[.int .i64 ref.w, .int .i64 ref.h, .slice a n c] 25)).alloc (.cells #[.int .i64 p.w, .int .i64 p.h, .slice b l d] 25)) (.cells (ic m.zs) 34))
 simp only [World.size_alloc] at X1_0 X2_0
 clear a0_1 a0_2 a1_2 h0
 obtain ⟨-, k0_0, k0_1, k0_2, -⟩ := bx3 X0_0
 obtain ⟨-, k1_0, k1_1, k1_2, -⟩ := bx3 X1_0
 have k2_0 := X2_0.cell (i := 0) (by rw [Hl.out]; omega)
 rw [Mac.zs_kind] at k2_0
 go_enter Tryd.func60, Tryd.ntmps60
 go_wp2_with fail
 refine (l7Place_at p x y b d l _ HL.out lc (s.ext E_0)).mono ?_
 rw [D0.out]
 rintro e w_1 ⟨rfl, e_1⟩
 have X0_1 := e_1.blk X0_0
 have X1_1 := e_1.blk X1_0
 have X2_1 := X2_0.ext e_1
 have E_1 := E_0.trans e_1
 clear k0_0 k0_1 k0_2 X0_0 k1_0 k1_1 k1_2 X1_0 k2_0 X2_0 E_0 e_1
 obtain ⟨-, k0_0, k0_1, k0_2, -⟩ := bx3 X0_1
 obtain ⟨-, k1_0, k1_1, k1_2, -⟩ := bx3 X1_1
 have k2_0 := X2_1.cell (i := 0) (by rw [Hl.out]; omega)
 rw [Mac.zs_kind] at k2_0
 go_wp2
 go_ret
 exact ⟨rfl, E_1⟩
set_option maxRecDepth 100000 in
theorem l8OkN_1 (ref p : Pic) (x y : Int) (m : Mac) (q top : Int) (a b : Option Addr) (c d n l : Nat) (w : World) (hn : n = ref.px.length) (hl : l = p.px.length) (nc : n ≤ 9223372036854775807) (lc : l ≤ 9223372036854775807) (r : Sl w a n (ref.px.map (Value.int .i64))) (s : Sl w b l (p.px.map (Value.int .i64))) (hm : m.ok) (hk : ¬ m.kind = 2) (h0 : placeP p x y) (h1 : ¬ (m.valid)) :
 Calls Tryd.prog 60 #[.agg #[.int .i64 ref.w, .int .i64 ref.h, .slice a n c], .agg #[.int .i64 p.w, .int .i64 p.h, .slice b l d], .int .i64 x, .int .i64 y, .agg (ic m.zs), .int .i64 q, .int .i64 top] w fun e w' => e = .returned (.bool false) ∧ Ext w w' := by
 have HN := Lib.hid hn
 have HL := Lib.hid hl
 have HM := Lib.hid hm
 have Hl := Lib.hid (Mac.zs_len hm)
 clear hn hl hm
 have fk : (m.kind == 2) = false := by simpa using hk
 clear hk
 have D0 := Lib.hid (show decide (placeP p x y) = true from decide_eq_true h0)
 have D1 := Lib.hid (show decide (m.valid) = false from decide_eq_false h1)
 have a0_1 := Ext.alloc (w.alloc (.cells #[.int .i64 ref.w, .int .i64 ref.h, .slice a n c] 25)) (.cells #[.int .i64 p.w, .int .i64 p.h, .slice b l d] 25)
 have a0_2 := Ext.alloc ((w.alloc (.cells #[.int .i64 ref.w, .int .i64 ref.h, .slice a n c] 25)).alloc (.cells #[.int .i64 p.w, .int .i64 p.h, .slice b l d] 25)) (.cells (ic m.zs) 34)
 have X0_0 := a0_2.blk (a0_1.blk (blk_new w (.cells #[.int .i64 ref.w, .int .i64 ref.h, .slice a n c] 25)))
 have a1_2 := Ext.alloc ((w.alloc (.cells #[.int .i64 ref.w, .int .i64 ref.h, .slice a n c] 25)).alloc (.cells #[.int .i64 p.w, .int .i64 p.h, .slice b l d] 25)) (.cells (ic m.zs) 34)
 have X1_0 := a1_2.blk (blk_new (w.alloc (.cells #[.int .i64 ref.w, .int .i64 ref.h, .slice a n c] 25)) (.cells #[.int .i64 p.w, .int .i64 p.h, .slice b l d] 25))
 have X2_0 := IB.new ((w.alloc (.cells #[.int .i64 ref.w, .int .i64 ref.h, .slice a n c] 25)).alloc (.cells #[.int .i64 p.w, .int .i64 p.h, .slice b l d] 25)) 34 m.zs
 have E_0 := ((Ext.alloc w (.cells #[.int .i64 ref.w, .int .i64 ref.h, .slice a n c] 25)).trans (Ext.alloc (w.alloc (.cells #[.int .i64 ref.w, .int .i64 ref.h, .slice a n c] 25)) (.cells #[.int .i64 p.w, .int .i64 p.h, .slice b l d] 25))).trans (Ext.alloc ((w.alloc (.cells #[.int .i64 ref.w, .int .i64 ref.h, .slice a n c] 25)).alloc (.cells #[.int .i64 p.w, .int .i64 p.h, .slice b l d] 25)) (.cells (ic m.zs) 34))
 simp only [World.size_alloc] at X1_0 X2_0
 clear a0_1 a0_2 a1_2 h0 h1
 obtain ⟨-, k0_0, k0_1, k0_2, -⟩ := bx3 X0_0
 obtain ⟨-, k1_0, k1_1, k1_2, -⟩ := bx3 X1_0
 have k2_0 := X2_0.cell (i := 0) (by rw [Hl.out]; omega)
 rw [Mac.zs_kind] at k2_0
 go_enter Tryd.func60, Tryd.ntmps60
 go_wp2_with fail
 refine (l7Place_at p x y b d l _ HL.out lc (s.ext E_0)).mono ?_
 rw [D0.out]
 rintro e w_1 ⟨rfl, e_1⟩
 have X0_1 := e_1.blk X0_0
 have X1_1 := e_1.blk X1_0
 have X2_1 := X2_0.ext e_1
 have E_1 := E_0.trans e_1
 clear k0_0 k0_1 k0_2 X0_0 k1_0 k1_1 k1_2 X1_0 k2_0 X2_0 E_0 e_1
 obtain ⟨-, k0_0, k0_1, k0_2, -⟩ := bx3 X0_1
 obtain ⟨-, k1_0, k1_1, k1_2, -⟩ := bx3 X1_1
 have k2_0 := X2_1.cell (i := 0) (by rw [Hl.out]; omega)
 rw [Mac.zs_kind] at k2_0
 go_wp2_with (refine wpList_iload 34 _ rfl rfl X2_1 0 71 rfl _ Tryd.underlying34 rfl size_Macro (by rw [Hl.out]; omega) _ (by rw [sub_all _ _ Hl.out]) ?_)
 refine (spec_MacroValid_any m _ HM.out).mono ?_
 rw [D1.out]
 rintro e w_2 ⟨rfl, e_2⟩
 have X0_2 := e_2.blk X0_1
 have X1_2 := e_2.blk X1_1
 have X2_2 := X2_1.ext e_2
 have E_2 := E_1.trans e_2
 clear k0_0 k0_1 k0_2 X0_1 k1_0 k1_1 k1_2 X1_1 k2_0 X2_1 E_1 e_2
 obtain ⟨-, k0_0, k0_1, k0_2, -⟩ := bx3 X0_2
 obtain ⟨-, k1_0, k1_1, k1_2, -⟩ := bx3 X1_2
 have k2_0 := X2_2.cell (i := 0) (by rw [Hl.out]; omega)
 rw [Mac.zs_kind] at k2_0
 go_wp2
 go_ret
 exact ⟨rfl, E_2⟩
set_option maxRecDepth 100000 in
theorem l8OkN_2 (ref p : Pic) (x y : Int) (m : Mac) (q top : Int) (a b : Option Addr) (c d n l : Nat) (w : World) (hn : n = ref.px.length) (hl : l = p.px.length) (nc : n ≤ 9223372036854775807) (lc : l ≤ 9223372036854775807) (r : Sl w a n (ref.px.map (Value.int .i64))) (s : Sl w b l (p.px.map (Value.int .i64))) (hm : m.ok) (hk : ¬ m.kind = 2) (h0 : placeP p x y) (h1 : m.valid) (h2 : ¬ (0 ≤ q ∧ q ≤ 15)) :
 Calls Tryd.prog 60 #[.agg #[.int .i64 ref.w, .int .i64 ref.h, .slice a n c], .agg #[.int .i64 p.w, .int .i64 p.h, .slice b l d], .int .i64 x, .int .i64 y, .agg (ic m.zs), .int .i64 q, .int .i64 top] w fun e w' => e = .returned (.bool false) ∧ Ext w w' := by
 have HN := Lib.hid hn
 have HL := Lib.hid hl
 have HM := Lib.hid hm
 have Hl := Lib.hid (Mac.zs_len hm)
 clear hn hl hm
 have fk : (m.kind == 2) = false := by simpa using hk
 clear hk
 have D0 := Lib.hid (show decide (placeP p x y) = true from decide_eq_true h0)
 have D1 := Lib.hid (show decide (m.valid) = true from decide_eq_true h1)
 have a0_1 := Ext.alloc (w.alloc (.cells #[.int .i64 ref.w, .int .i64 ref.h, .slice a n c] 25)) (.cells #[.int .i64 p.w, .int .i64 p.h, .slice b l d] 25)
 have a0_2 := Ext.alloc ((w.alloc (.cells #[.int .i64 ref.w, .int .i64 ref.h, .slice a n c] 25)).alloc (.cells #[.int .i64 p.w, .int .i64 p.h, .slice b l d] 25)) (.cells (ic m.zs) 34)
 have X0_0 := a0_2.blk (a0_1.blk (blk_new w (.cells #[.int .i64 ref.w, .int .i64 ref.h, .slice a n c] 25)))
 have a1_2 := Ext.alloc ((w.alloc (.cells #[.int .i64 ref.w, .int .i64 ref.h, .slice a n c] 25)).alloc (.cells #[.int .i64 p.w, .int .i64 p.h, .slice b l d] 25)) (.cells (ic m.zs) 34)
 have X1_0 := a1_2.blk (blk_new (w.alloc (.cells #[.int .i64 ref.w, .int .i64 ref.h, .slice a n c] 25)) (.cells #[.int .i64 p.w, .int .i64 p.h, .slice b l d] 25))
 have X2_0 := IB.new ((w.alloc (.cells #[.int .i64 ref.w, .int .i64 ref.h, .slice a n c] 25)).alloc (.cells #[.int .i64 p.w, .int .i64 p.h, .slice b l d] 25)) 34 m.zs
 have E_0 := ((Ext.alloc w (.cells #[.int .i64 ref.w, .int .i64 ref.h, .slice a n c] 25)).trans (Ext.alloc (w.alloc (.cells #[.int .i64 ref.w, .int .i64 ref.h, .slice a n c] 25)) (.cells #[.int .i64 p.w, .int .i64 p.h, .slice b l d] 25))).trans (Ext.alloc ((w.alloc (.cells #[.int .i64 ref.w, .int .i64 ref.h, .slice a n c] 25)).alloc (.cells #[.int .i64 p.w, .int .i64 p.h, .slice b l d] 25)) (.cells (ic m.zs) 34))
 simp only [World.size_alloc] at X1_0 X2_0
 clear a0_1 a0_2 a1_2 h0 h1
 obtain ⟨-, k0_0, k0_1, k0_2, -⟩ := bx3 X0_0
 obtain ⟨-, k1_0, k1_1, k1_2, -⟩ := bx3 X1_0
 have k2_0 := X2_0.cell (i := 0) (by rw [Hl.out]; omega)
 rw [Mac.zs_kind] at k2_0
 go_enter Tryd.func60, Tryd.ntmps60
 go_wp2_with fail
 refine (l7Place_at p x y b d l _ HL.out lc (s.ext E_0)).mono ?_
 rw [D0.out]
 rintro e w_1 ⟨rfl, e_1⟩
 have X0_1 := e_1.blk X0_0
 have X1_1 := e_1.blk X1_0
 have X2_1 := X2_0.ext e_1
 have E_1 := E_0.trans e_1
 clear k0_0 k0_1 k0_2 X0_0 k1_0 k1_1 k1_2 X1_0 k2_0 X2_0 E_0 e_1
 obtain ⟨-, k0_0, k0_1, k0_2, -⟩ := bx3 X0_1
 obtain ⟨-, k1_0, k1_1, k1_2, -⟩ := bx3 X1_1
 have k2_0 := X2_1.cell (i := 0) (by rw [Hl.out]; omega)
 rw [Mac.zs_kind] at k2_0
 go_wp2_with (refine wpList_iload 34 _ rfl rfl X2_1 0 71 rfl _ Tryd.underlying34 rfl size_Macro (by rw [Hl.out]; omega) _ (by rw [sub_all _ _ Hl.out]) ?_)
 refine (spec_MacroValid_any m _ HM.out).mono ?_
 rw [D1.out]
 rintro e w_2 ⟨rfl, e_2⟩
 have X0_2 := e_2.blk X0_1
 have X1_2 := e_2.blk X1_1
 have X2_2 := X2_1.ext e_2
 have E_2 := E_1.trans e_2
 clear k0_0 k0_1 k0_2 X0_1 k1_0 k1_1 k1_2 X1_1 k2_0 X2_1 E_1 e_2
 obtain ⟨-, k0_0, k0_1, k0_2, -⟩ := bx3 X0_2
 obtain ⟨-, k1_0, k1_1, k1_2, -⟩ := bx3 X1_2
 have k2_0 := X2_2.cell (i := 0) (by rw [Hl.out]; omega)
 rw [Mac.zs_kind] at k2_0
 go_wp2_with fail
 refine (l1In_no _ _ _ _ (by omega)).mono ?_
 rintro e w_s2 ⟨rfl, rfl⟩
 go_wp2
 go_ret
 exact ⟨rfl, E_2⟩
set_option maxRecDepth 100000 in
theorem l8OkN_3 (ref p : Pic) (x y : Int) (m : Mac) (q top : Int) (a b : Option Addr) (c d n l : Nat) (w : World) (hn : n = ref.px.length) (hl : l = p.px.length) (nc : n ≤ 9223372036854775807) (lc : l ≤ 9223372036854775807) (r : Sl w a n (ref.px.map (Value.int .i64))) (s : Sl w b l (p.px.map (Value.int .i64))) (hm : m.ok) (hk : ¬ m.kind = 2) (h0 : placeP p x y) (h1 : m.valid) (h2 : 0 ≤ q ∧ q ≤ 15) (h3 : ¬ (0 ≤ top ∧ top ≤ y)) :
 Calls Tryd.prog 60 #[.agg #[.int .i64 ref.w, .int .i64 ref.h, .slice a n c], .agg #[.int .i64 p.w, .int .i64 p.h, .slice b l d], .int .i64 x, .int .i64 y, .agg (ic m.zs), .int .i64 q, .int .i64 top] w fun e w' => e = .returned (.bool false) ∧ Ext w w' := by
 have HN := Lib.hid hn
 have HL := Lib.hid hl
 have HM := Lib.hid hm
 have Hl := Lib.hid (Mac.zs_len hm)
 clear hn hl hm
 have fk : (m.kind == 2) = false := by simpa using hk
 clear hk
 have D0 := Lib.hid (show decide (placeP p x y) = true from decide_eq_true h0)
 have D1 := Lib.hid (show decide (m.valid) = true from decide_eq_true h1)
 have a0_1 := Ext.alloc (w.alloc (.cells #[.int .i64 ref.w, .int .i64 ref.h, .slice a n c] 25)) (.cells #[.int .i64 p.w, .int .i64 p.h, .slice b l d] 25)
 have a0_2 := Ext.alloc ((w.alloc (.cells #[.int .i64 ref.w, .int .i64 ref.h, .slice a n c] 25)).alloc (.cells #[.int .i64 p.w, .int .i64 p.h, .slice b l d] 25)) (.cells (ic m.zs) 34)
 have X0_0 := a0_2.blk (a0_1.blk (blk_new w (.cells #[.int .i64 ref.w, .int .i64 ref.h, .slice a n c] 25)))
 have a1_2 := Ext.alloc ((w.alloc (.cells #[.int .i64 ref.w, .int .i64 ref.h, .slice a n c] 25)).alloc (.cells #[.int .i64 p.w, .int .i64 p.h, .slice b l d] 25)) (.cells (ic m.zs) 34)
 have X1_0 := a1_2.blk (blk_new (w.alloc (.cells #[.int .i64 ref.w, .int .i64 ref.h, .slice a n c] 25)) (.cells #[.int .i64 p.w, .int .i64 p.h, .slice b l d] 25))
 have X2_0 := IB.new ((w.alloc (.cells #[.int .i64 ref.w, .int .i64 ref.h, .slice a n c] 25)).alloc (.cells #[.int .i64 p.w, .int .i64 p.h, .slice b l d] 25)) 34 m.zs
 have E_0 := ((Ext.alloc w (.cells #[.int .i64 ref.w, .int .i64 ref.h, .slice a n c] 25)).trans (Ext.alloc (w.alloc (.cells #[.int .i64 ref.w, .int .i64 ref.h, .slice a n c] 25)) (.cells #[.int .i64 p.w, .int .i64 p.h, .slice b l d] 25))).trans (Ext.alloc ((w.alloc (.cells #[.int .i64 ref.w, .int .i64 ref.h, .slice a n c] 25)).alloc (.cells #[.int .i64 p.w, .int .i64 p.h, .slice b l d] 25)) (.cells (ic m.zs) 34))
 simp only [World.size_alloc] at X1_0 X2_0
 clear a0_1 a0_2 a1_2 h0 h1
 obtain ⟨-, k0_0, k0_1, k0_2, -⟩ := bx3 X0_0
 obtain ⟨-, k1_0, k1_1, k1_2, -⟩ := bx3 X1_0
 have k2_0 := X2_0.cell (i := 0) (by rw [Hl.out]; omega)
 rw [Mac.zs_kind] at k2_0
 go_enter Tryd.func60, Tryd.ntmps60
 go_wp2_with fail
 refine (l7Place_at p x y b d l _ HL.out lc (s.ext E_0)).mono ?_
 rw [D0.out]
 rintro e w_1 ⟨rfl, e_1⟩
 have X0_1 := e_1.blk X0_0
 have X1_1 := e_1.blk X1_0
 have X2_1 := X2_0.ext e_1
 have E_1 := E_0.trans e_1
 clear k0_0 k0_1 k0_2 X0_0 k1_0 k1_1 k1_2 X1_0 k2_0 X2_0 E_0 e_1
 obtain ⟨-, k0_0, k0_1, k0_2, -⟩ := bx3 X0_1
 obtain ⟨-, k1_0, k1_1, k1_2, -⟩ := bx3 X1_1
 have k2_0 := X2_1.cell (i := 0) (by rw [Hl.out]; omega)
 rw [Mac.zs_kind] at k2_0
 go_wp2_with (refine wpList_iload 34 _ rfl rfl X2_1 0 71 rfl _ Tryd.underlying34 rfl size_Macro (by rw [Hl.out]; omega) _ (by rw [sub_all _ _ Hl.out]) ?_)
 refine (spec_MacroValid_any m _ HM.out).mono ?_
 rw [D1.out]
 rintro e w_2 ⟨rfl, e_2⟩
 have X0_2 := e_2.blk X0_1
 have X1_2 := e_2.blk X1_1
 have X2_2 := X2_1.ext e_2
 have E_2 := E_1.trans e_2
 clear k0_0 k0_1 k0_2 X0_1 k1_0 k1_1 k1_2 X1_1 k2_0 X2_1 E_1 e_2
 obtain ⟨-, k0_0, k0_1, k0_2, -⟩ := bx3 X0_2
 obtain ⟨-, k1_0, k1_1, k1_2, -⟩ := bx3 X1_2
 have k2_0 := X2_2.cell (i := 0) (by rw [Hl.out]; omega)
 rw [Mac.zs_kind] at k2_0
 go_wp2_with fail
 refine (l1In_yes _ _ _ _ h2.1 h2.2).mono ?_
 rintro e w_s2 ⟨rfl, rfl⟩
 go_wp2_with fail
 refine (l1In_no _ _ _ _ (by omega)).mono ?_
 rintro e w_s3 ⟨rfl, rfl⟩
 go_wp2
 go_ret
 exact ⟨rfl, E_2⟩
set_option maxRecDepth 100000 in
theorem l8OkN_4 (ref p : Pic) (x y : Int) (m : Mac) (q top : Int) (a b : Option Addr) (c d n l : Nat) (w : World) (hn : n = ref.px.length) (hl : l = p.px.length) (nc : n ≤ 9223372036854775807) (lc : l ≤ 9223372036854775807) (r : Sl w a n (ref.px.map (Value.int .i64))) (s : Sl w b l (p.px.map (Value.int .i64))) (hm : m.ok) (hk : ¬ m.kind = 2) (h0 : placeP p x y) (h1 : m.valid) (h2 : 0 ≤ q ∧ q ≤ 15) (h3 : 0 ≤ top ∧ top ≤ y) (h4 : ¬ (alikeP ref p)) :
 Calls Tryd.prog 60 #[.agg #[.int .i64 ref.w, .int .i64 ref.h, .slice a n c], .agg #[.int .i64 p.w, .int .i64 p.h, .slice b l d], .int .i64 x, .int .i64 y, .agg (ic m.zs), .int .i64 q, .int .i64 top] w fun e w' => e = .returned (.bool false) ∧ Ext w w' := by
 have HN := Lib.hid hn
 have HL := Lib.hid hl
 have HM := Lib.hid hm
 have Hl := Lib.hid (Mac.zs_len hm)
 clear hn hl hm
 have fk : (m.kind == 2) = false := by simpa using hk
 clear hk
 have D0 := Lib.hid (show decide (placeP p x y) = true from decide_eq_true h0)
 have D1 := Lib.hid (show decide (m.valid) = true from decide_eq_true h1)
 have D4 := Lib.hid (show decide (alikeP ref p) = false from decide_eq_false h4)
 have a0_1 := Ext.alloc (w.alloc (.cells #[.int .i64 ref.w, .int .i64 ref.h, .slice a n c] 25)) (.cells #[.int .i64 p.w, .int .i64 p.h, .slice b l d] 25)
 have a0_2 := Ext.alloc ((w.alloc (.cells #[.int .i64 ref.w, .int .i64 ref.h, .slice a n c] 25)).alloc (.cells #[.int .i64 p.w, .int .i64 p.h, .slice b l d] 25)) (.cells (ic m.zs) 34)
 have X0_0 := a0_2.blk (a0_1.blk (blk_new w (.cells #[.int .i64 ref.w, .int .i64 ref.h, .slice a n c] 25)))
 have a1_2 := Ext.alloc ((w.alloc (.cells #[.int .i64 ref.w, .int .i64 ref.h, .slice a n c] 25)).alloc (.cells #[.int .i64 p.w, .int .i64 p.h, .slice b l d] 25)) (.cells (ic m.zs) 34)
 have X1_0 := a1_2.blk (blk_new (w.alloc (.cells #[.int .i64 ref.w, .int .i64 ref.h, .slice a n c] 25)) (.cells #[.int .i64 p.w, .int .i64 p.h, .slice b l d] 25))
 have X2_0 := IB.new ((w.alloc (.cells #[.int .i64 ref.w, .int .i64 ref.h, .slice a n c] 25)).alloc (.cells #[.int .i64 p.w, .int .i64 p.h, .slice b l d] 25)) 34 m.zs
 have E_0 := ((Ext.alloc w (.cells #[.int .i64 ref.w, .int .i64 ref.h, .slice a n c] 25)).trans (Ext.alloc (w.alloc (.cells #[.int .i64 ref.w, .int .i64 ref.h, .slice a n c] 25)) (.cells #[.int .i64 p.w, .int .i64 p.h, .slice b l d] 25))).trans (Ext.alloc ((w.alloc (.cells #[.int .i64 ref.w, .int .i64 ref.h, .slice a n c] 25)).alloc (.cells #[.int .i64 p.w, .int .i64 p.h, .slice b l d] 25)) (.cells (ic m.zs) 34))
 simp only [World.size_alloc] at X1_0 X2_0
 clear a0_1 a0_2 a1_2 h0 h1 h4
 obtain ⟨-, k0_0, k0_1, k0_2, -⟩ := bx3 X0_0
 obtain ⟨-, k1_0, k1_1, k1_2, -⟩ := bx3 X1_0
 have k2_0 := X2_0.cell (i := 0) (by rw [Hl.out]; omega)
 rw [Mac.zs_kind] at k2_0
 go_enter Tryd.func60, Tryd.ntmps60
 go_wp2_with fail
 refine (l7Place_at p x y b d l _ HL.out lc (s.ext E_0)).mono ?_
 rw [D0.out]
 rintro e w_1 ⟨rfl, e_1⟩
 have X0_1 := e_1.blk X0_0
 have X1_1 := e_1.blk X1_0
 have X2_1 := X2_0.ext e_1
 have E_1 := E_0.trans e_1
 clear k0_0 k0_1 k0_2 X0_0 k1_0 k1_1 k1_2 X1_0 k2_0 X2_0 E_0 e_1
 obtain ⟨-, k0_0, k0_1, k0_2, -⟩ := bx3 X0_1
 obtain ⟨-, k1_0, k1_1, k1_2, -⟩ := bx3 X1_1
 have k2_0 := X2_1.cell (i := 0) (by rw [Hl.out]; omega)
 rw [Mac.zs_kind] at k2_0
 go_wp2_with (refine wpList_iload 34 _ rfl rfl X2_1 0 71 rfl _ Tryd.underlying34 rfl size_Macro (by rw [Hl.out]; omega) _ (by rw [sub_all _ _ Hl.out]) ?_)
 refine (spec_MacroValid_any m _ HM.out).mono ?_
 rw [D1.out]
 rintro e w_2 ⟨rfl, e_2⟩
 have X0_2 := e_2.blk X0_1
 have X1_2 := e_2.blk X1_1
 have X2_2 := X2_1.ext e_2
 have E_2 := E_1.trans e_2
 clear k0_0 k0_1 k0_2 X0_1 k1_0 k1_1 k1_2 X1_1 k2_0 X2_1 E_1 e_2
 obtain ⟨-, k0_0, k0_1, k0_2, -⟩ := bx3 X0_2
 obtain ⟨-, k1_0, k1_1, k1_2, -⟩ := bx3 X1_2
 have k2_0 := X2_2.cell (i := 0) (by rw [Hl.out]; omega)
 rw [Mac.zs_kind] at k2_0
 go_wp2_with fail
 refine (l1In_yes _ _ _ _ h2.1 h2.2).mono ?_
 rintro e w_s2 ⟨rfl, rfl⟩
 go_wp2_with fail
 refine (l1In_yes _ _ _ _ h3.1 h3.2).mono ?_
 rintro e w_s3 ⟨rfl, rfl⟩
 go_wp2_with fail
 refine (l1Same_at ref p a b c d n l _ HN.out HL.out nc lc (r.ext E_2) (s.ext E_2)).mono ?_
 rw [D4.out]
 rintro e w_3 ⟨rfl, e_3⟩
 have X0_3 := e_3.blk X0_2
 have X1_3 := e_3.blk X1_2
 have X2_3 := X2_2.ext e_3
 have E_3 := E_2.trans e_3
 clear k0_0 k0_1 k0_2 X0_2 k1_0 k1_1 k1_2 X1_2 k2_0 X2_2 E_2 e_3
 obtain ⟨-, k0_0, k0_1, k0_2, -⟩ := bx3 X0_3
 obtain ⟨-, k1_0, k1_1, k1_2, -⟩ := bx3 X1_3
 have k2_0 := X2_3.cell (i := 0) (by rw [Hl.out]; omega)
 rw [Mac.zs_kind] at k2_0
 go_wp2
 go_ret
 exact ⟨rfl, E_3⟩
set_option maxRecDepth 100000 in
theorem l8OkN_5 (ref p : Pic) (x y : Int) (m : Mac) (q top : Int) (a b : Option Addr) (c d n l : Nat) (w : World) (hn : n = ref.px.length) (hl : l = p.px.length) (nc : n ≤ 9223372036854775807) (lc : l ≤ 9223372036854775807) (r : Sl w a n (ref.px.map (Value.int .i64))) (s : Sl w b l (p.px.map (Value.int .i64))) (hm : m.ok) (hk : ¬ m.kind = 2) (h0 : placeP p x y) (h1 : m.valid) (h2 : 0 ≤ q ∧ q ≤ 15) (h3 : 0 ≤ top ∧ top ≤ y) (h4 : alikeP ref p) :
 Calls Tryd.prog 60 #[.agg #[.int .i64 ref.w, .int .i64 ref.h, .slice a n c], .agg #[.int .i64 p.w, .int .i64 p.h, .slice b l d], .int .i64 x, .int .i64 y, .agg (ic m.zs), .int .i64 q, .int .i64 top] w fun e w' => e = .returned (.bool true) ∧ Ext w w' := by
 have HN := Lib.hid hn
 have HL := Lib.hid hl
 have HM := Lib.hid hm
 have Hl := Lib.hid (Mac.zs_len hm)
 clear hn hl hm
 have fk : (m.kind == 2) = false := by simpa using hk
 clear hk
 have D0 := Lib.hid (show decide (placeP p x y) = true from decide_eq_true h0)
 have D1 := Lib.hid (show decide (m.valid) = true from decide_eq_true h1)
 have D4 := Lib.hid (show decide (alikeP ref p) = true from decide_eq_true h4)
 have a0_1 := Ext.alloc (w.alloc (.cells #[.int .i64 ref.w, .int .i64 ref.h, .slice a n c] 25)) (.cells #[.int .i64 p.w, .int .i64 p.h, .slice b l d] 25)
 have a0_2 := Ext.alloc ((w.alloc (.cells #[.int .i64 ref.w, .int .i64 ref.h, .slice a n c] 25)).alloc (.cells #[.int .i64 p.w, .int .i64 p.h, .slice b l d] 25)) (.cells (ic m.zs) 34)
 have X0_0 := a0_2.blk (a0_1.blk (blk_new w (.cells #[.int .i64 ref.w, .int .i64 ref.h, .slice a n c] 25)))
 have a1_2 := Ext.alloc ((w.alloc (.cells #[.int .i64 ref.w, .int .i64 ref.h, .slice a n c] 25)).alloc (.cells #[.int .i64 p.w, .int .i64 p.h, .slice b l d] 25)) (.cells (ic m.zs) 34)
 have X1_0 := a1_2.blk (blk_new (w.alloc (.cells #[.int .i64 ref.w, .int .i64 ref.h, .slice a n c] 25)) (.cells #[.int .i64 p.w, .int .i64 p.h, .slice b l d] 25))
 have X2_0 := IB.new ((w.alloc (.cells #[.int .i64 ref.w, .int .i64 ref.h, .slice a n c] 25)).alloc (.cells #[.int .i64 p.w, .int .i64 p.h, .slice b l d] 25)) 34 m.zs
 have E_0 := ((Ext.alloc w (.cells #[.int .i64 ref.w, .int .i64 ref.h, .slice a n c] 25)).trans (Ext.alloc (w.alloc (.cells #[.int .i64 ref.w, .int .i64 ref.h, .slice a n c] 25)) (.cells #[.int .i64 p.w, .int .i64 p.h, .slice b l d] 25))).trans (Ext.alloc ((w.alloc (.cells #[.int .i64 ref.w, .int .i64 ref.h, .slice a n c] 25)).alloc (.cells #[.int .i64 p.w, .int .i64 p.h, .slice b l d] 25)) (.cells (ic m.zs) 34))
 simp only [World.size_alloc] at X1_0 X2_0
 clear a0_1 a0_2 a1_2 h0 h1 h4
 obtain ⟨-, k0_0, k0_1, k0_2, -⟩ := bx3 X0_0
 obtain ⟨-, k1_0, k1_1, k1_2, -⟩ := bx3 X1_0
 have k2_0 := X2_0.cell (i := 0) (by rw [Hl.out]; omega)
 rw [Mac.zs_kind] at k2_0
 go_enter Tryd.func60, Tryd.ntmps60
 go_wp2_with fail
 refine (l7Place_at p x y b d l _ HL.out lc (s.ext E_0)).mono ?_
 rw [D0.out]
 rintro e w_1 ⟨rfl, e_1⟩
 have X0_1 := e_1.blk X0_0
 have X1_1 := e_1.blk X1_0
 have X2_1 := X2_0.ext e_1
 have E_1 := E_0.trans e_1
 clear k0_0 k0_1 k0_2 X0_0 k1_0 k1_1 k1_2 X1_0 k2_0 X2_0 E_0 e_1
 obtain ⟨-, k0_0, k0_1, k0_2, -⟩ := bx3 X0_1
 obtain ⟨-, k1_0, k1_1, k1_2, -⟩ := bx3 X1_1
 have k2_0 := X2_1.cell (i := 0) (by rw [Hl.out]; omega)
 rw [Mac.zs_kind] at k2_0
 go_wp2_with (refine wpList_iload 34 _ rfl rfl X2_1 0 71 rfl _ Tryd.underlying34 rfl size_Macro (by rw [Hl.out]; omega) _ (by rw [sub_all _ _ Hl.out]) ?_)
 refine (spec_MacroValid_any m _ HM.out).mono ?_
 rw [D1.out]
 rintro e w_2 ⟨rfl, e_2⟩
 have X0_2 := e_2.blk X0_1
 have X1_2 := e_2.blk X1_1
 have X2_2 := X2_1.ext e_2
 have E_2 := E_1.trans e_2
 clear k0_0 k0_1 k0_2 X0_1 k1_0 k1_1 k1_2 X1_1 k2_0 X2_1 E_1 e_2
 obtain ⟨-, k0_0, k0_1, k0_2, -⟩ := bx3 X0_2
 obtain ⟨-, k1_0, k1_1, k1_2, -⟩ := bx3 X1_2
 have k2_0 := X2_2.cell (i := 0) (by rw [Hl.out]; omega)
 rw [Mac.zs_kind] at k2_0
 go_wp2_with fail
 refine (l1In_yes _ _ _ _ h2.1 h2.2).mono ?_
 rintro e w_s2 ⟨rfl, rfl⟩
 go_wp2_with fail
 refine (l1In_yes _ _ _ _ h3.1 h3.2).mono ?_
 rintro e w_s3 ⟨rfl, rfl⟩
 go_wp2_with fail
 refine (l1Same_at ref p a b c d n l _ HN.out HL.out nc lc (r.ext E_2) (s.ext E_2)).mono ?_
 rw [D4.out]
 rintro e w_3 ⟨rfl, e_3⟩
 have X0_3 := e_3.blk X0_2
 have X1_3 := e_3.blk X1_2
 have X2_3 := X2_2.ext e_3
 have E_3 := E_2.trans e_3
 clear k0_0 k0_1 k0_2 X0_2 k1_0 k1_1 k1_2 X1_2 k2_0 X2_2 E_2 e_3
 obtain ⟨-, k0_0, k0_1, k0_2, -⟩ := bx3 X0_3
 obtain ⟨-, k1_0, k1_1, k1_2, -⟩ := bx3 X1_3
 have k2_0 := X2_3.cell (i := 0) (by rw [Hl.out]; omega)
 rw [Mac.zs_kind] at k2_0
 go_wp2
 go_ret
 exact ⟨rfl, E_3⟩
theorem l8OkN_any (ref p : Pic) (x y : Int) (m : Mac) (q top : Int) (a b : Option Addr) (c d n l : Nat) (w : World) (hn : n = ref.px.length) (hl : l = p.px.length) (nc : n ≤ 9223372036854775807) (lc : l ≤ 9223372036854775807) (r : Sl w a n (ref.px.map (Value.int .i64))) (s : Sl w b l (p.px.map (Value.int .i64))) (hm : m.ok) (hk : ¬ m.kind = 2) :
 Calls Tryd.prog 60 #[.agg #[.int .i64 ref.w, .int .i64 ref.h, .slice a n c], .agg #[.int .i64 p.w, .int .i64 p.h, .slice b l d], .int .i64 x, .int .i64 y, .agg (ic m.zs), .int .i64 q, .int .i64 top] w fun e w' => e = .returned (.bool (decide ((placeP p x y) ∧ (m.valid) ∧ (0 ≤ q ∧ q ≤ 15) ∧ (0 ≤ top ∧ top ≤ y) ∧ (alikeP ref p)))) ∧ Ext w w' := by
 by_cases h0 : placeP p x y
 ·skip
  by_cases h1 : m.valid
  ·skip
   by_cases h2 : 0 ≤ q ∧ q ≤ 15
   ·skip
    by_cases h3 : 0 ≤ top ∧ top ≤ y
    ·skip
     by_cases h4 : alikeP ref p
     ·rw [decide_eq_true (show (placeP p x y) ∧ (m.valid) ∧ (0 ≤ q ∧ q ≤ 15) ∧ (0 ≤ top ∧ top ≤ y) ∧ (alikeP ref p) from ⟨h0, h1, h2, h3, h4⟩)]
      exact l8OkN_5 ref p x y m q top a b c d n l w hn hl nc lc r s hm hk h0 h1 h2 h3 h4
     ·rw [decide_eq_false (show ¬ ((placeP p x y) ∧ (m.valid) ∧ (0 ≤ q ∧ q ≤ 15) ∧ (0 ≤ top ∧ top ≤ y) ∧ (alikeP ref p)) from fun hh => h4 (hh.2.2.2.2))]
      exact l8OkN_4 ref p x y m q top a b c d n l w hn hl nc lc r s hm hk h0 h1 h2 h3 h4
    ·rw [decide_eq_false (show ¬ ((placeP p x y) ∧ (m.valid) ∧ (0 ≤ q ∧ q ≤ 15) ∧ (0 ≤ top ∧ top ≤ y) ∧ (alikeP ref p)) from fun hh => h3 (hh.2.2.2.1))]
     exact l8OkN_3 ref p x y m q top a b c d n l w hn hl nc lc r s hm hk h0 h1 h2 h3
   ·rw [decide_eq_false (show ¬ ((placeP p x y) ∧ (m.valid) ∧ (0 ≤ q ∧ q ≤ 15) ∧ (0 ≤ top ∧ top ≤ y) ∧ (alikeP ref p)) from fun hh => h2 (hh.2.2.1))]
    exact l8OkN_2 ref p x y m q top a b c d n l w hn hl nc lc r s hm hk h0 h1 h2
  ·rw [decide_eq_false (show ¬ ((placeP p x y) ∧ (m.valid) ∧ (0 ≤ q ∧ q ≤ 15) ∧ (0 ≤ top ∧ top ≤ y) ∧ (alikeP ref p)) from fun hh => h1 (hh.2.1))]
   exact l8OkN_1 ref p x y m q top a b c d n l w hn hl nc lc r s hm hk h0 h1
 ·rw [decide_eq_false (show ¬ ((placeP p x y) ∧ (m.valid) ∧ (0 ≤ q ∧ q ≤ 15) ∧ (0 ≤ top ∧ top ≤ y) ∧ (alikeP ref p)) from fun hh => h0 (hh.1))]
  exact l8OkN_0 ref p x y m q top a b c d n l w hn hl nc lc r s hm hk h0
theorem l8Ok_any (ref p : Pic) (x y : Int) (m : Mac) (q top : Int) (a b : Option Addr) (c d n l : Nat) (w : World) (hn : n = ref.px.length) (hl : l = p.px.length) (nc : n ≤ 9223372036854775807) (lc : l ≤ 9223372036854775807) (r : Sl w a n (ref.px.map (Value.int .i64))) (s : Sl w b l (p.px.map (Value.int .i64))) (hm : m.ok) :
 Calls Tryd.prog 60 #[.agg #[.int .i64 ref.w, .int .i64 ref.h, .slice a n c], .agg #[.int .i64 p.w, .int .i64 p.h, .slice b l d], .int .i64 x, .int .i64 y, .agg (ic m.zs), .int .i64 q, .int .i64 top] w fun e w' => e = .returned (.bool (decide (okR ref p x y m q top))) ∧ Ext w w' := by
 by_cases hk : m.kind = 2
 ·have h := l8OkK_any ref p x y m q top a b c d n l w hn hl nc lc r s hm hk
  rw [show decide ((placeP p x y) ∧ (m.valid) ∧ (0 ≤ q ∧ q ≤ 15) ∧ (0 ≤ top ∧ top ≤ y)) = decide (okR ref p x y m q top) from decide_eq_decide.2 ⟨fun ⟨h0, h1, h2, h3⟩ => ⟨h0, h1, h2, h3, .inl hk⟩, fun ⟨h0, h1, h2, h3, _⟩ => ⟨h0, h1, h2, h3⟩⟩] at h
  exact h
 ·have h := l8OkN_any ref p x y m q top a b c d n l w hn hl nc lc r s hm hk
  rw [show decide ((placeP p x y) ∧ (m.valid) ∧ (0 ≤ q ∧ q ≤ 15) ∧ (0 ≤ top ∧ top ≤ y) ∧ (alikeP ref p)) = decide (okR ref p x y m q top) from decide_eq_decide.2 ⟨fun ⟨h0, h1, h2, h3, h4⟩ => ⟨h0, h1, h2, h3, .inr h4⟩, fun ⟨h0, h1, h2, h3, h4⟩ => ⟨h0, h1, h2, h3, h4.resolve_left hk⟩⟩] at h
  exact h
end Go.Proofs.YtbnhaegidfbgbaaDoor
