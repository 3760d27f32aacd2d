/- Tests on pictures: both sides. -/
import Derived.Test.YtbnhaegidfbgbaaDoorQg12
namespace Go.Proofs.YtbnhaegidfbgbaaDoor
open Go.RowKit
set_option maxHeartbeats 1000000
set_option maxRecDepth 100000 in
theorem alike_0 (p s : Pic) (a b : Option Addr) (c d n m : Nat) (w : World) (hn : n = p.px.length) (hm : m = s.px.length) (nc : n ≤ 9223372036854775807) (mc : m ≤ 9223372036854775807) (r : Sl w a n (p.px.map (Value.int .i64))) (q : Sl w b m (s.px.map (Value.int .i64)))  (h0 : ¬ (p.valid)) :
 Calls Tryd.prog 38 #[.agg #[.int .i64 p.w, .int .i64 p.h, .slice a n c], .agg #[.int .i64 s.w, .int .i64 s.h, .slice b m d]] w fun e w' => e = .returned (.bool false) ∧ Ext w w' := by
 have HN := Lib.hid hn
 have HM := Lib.hid hm
 clear hn hm
 have D0 := Lib.hid (show decide (p.valid) = false from decide_eq_false h0)
 have a0_1 := Ext.alloc (w.alloc (.cells #[.int .i64 p.w, .int .i64 p.h, .slice a n c] 25)) (.cells #[.int .i64 s.w, .int .i64 s.h, .slice b m d] 25)
 have X0_0 := a0_1.blk (blk_new w (.cells #[.int .i64 p.w, .int .i64 p.h, .slice a n c] 25))
 have X1_0 := blk_new (w.alloc (.cells #[.int .i64 p.w, .int .i64 p.h, .slice a n c] 25)) (.cells #[.int .i64 s.w, .int .i64 s.h, .slice b m d] 25)
 have E_0 := (Ext.alloc w (.cells #[.int .i64 p.w, .int .i64 p.h, .slice a n c] 25)).trans (Ext.alloc (w.alloc (.cells #[.int .i64 p.w, .int .i64 p.h, .slice a n c] 25)) (.cells #[.int .i64 s.w, .int .i64 s.h, .slice b m d] 25))
 simp only [World.size_alloc] at X1_0
 clear a0_1 h0
 obtain ⟨-, k0_0, k0_1, k0_2, -⟩ := bx3 X0_0
 obtain ⟨-, k1_0, k1_1, k1_2, -⟩ := bx3 X1_0
 go_enter Tryd.func38, Tryd.ntmps38
 go_wp2_with fail
 refine (impl_PictureValid_any p a c n _ HN.out nc (r.ext E_0)).mono ?_
 rw [D0.out]
 rintro e w_1 ⟨rfl, e_1⟩
 have X0_1 := e_1.blk X0_0
 have X1_1 := e_1.blk X1_0
 have E_1 := E_0.trans e_1
 clear k0_0 k0_1 k0_2 X0_0 k1_0 k1_1 k1_2 X1_0 E_0 e_1
 obtain ⟨-, k0_0, k0_1, k0_2, -⟩ := bx3 X0_1
 obtain ⟨-, k1_0, k1_1, k1_2, -⟩ := bx3 X1_1
 go_wp2
 go_ret
 exact ⟨rfl, E_1⟩
set_option maxRecDepth 100000 in
theorem alike_1 (p s : Pic) (a b : Option Addr) (c d n m : Nat) (w : World) (hn : n = p.px.length) (hm : m = s.px.length) (nc : n ≤ 9223372036854775807) (mc : m ≤ 9223372036854775807) (r : Sl w a n (p.px.map (Value.int .i64))) (q : Sl w b m (s.px.map (Value.int .i64))) (h0 : p.valid) (h1 : ¬ (s.valid)) :
 Calls Tryd.prog 38 #[.agg #[.int .i64 p.w, .int .i64 p.h, .slice a n c], .agg #[.int .i64 s.w, .int .i64 s.h, .slice b m d]] w fun e w' => e = .returned (.bool false) ∧ Ext w w' := by
 have HN := Lib.hid hn
 have HM := Lib.hid hm
 clear hn hm
 have D0 := Lib.hid (show decide (p.valid) = true from decide_eq_true h0)
 have D1 := Lib.hid (show decide (s.valid) = false from decide_eq_false h1)
 have a0_1 := Ext.alloc (w.alloc (.cells #[.int .i64 p.w, .int .i64 p.h, .slice a n c] 25)) (.cells #[.int .i64 s.w, .int .i64 s.h, .slice b m d] 25)
 have X0_0 := a0_1.blk (blk_new w (.cells #[.int .i64 p.w, .int .i64 p.h, .slice a n c] 25))
 have X1_0 := blk_new (w.alloc (.cells #[.int .i64 p.w, .int .i64 p.h, .slice a n c] 25)) (.cells #[.int .i64 s.w, .int .i64 s.h, .slice b m d] 25)
 have E_0 := (Ext.alloc w (.cells #[.int .i64 p.w, .int .i64 p.h, .slice a n c] 25)).trans (Ext.alloc (w.alloc (.cells #[.int .i64 p.w, .int .i64 p.h, .slice a n c] 25)) (.cells #[.int .i64 s.w, .int .i64 s.h, .slice b m d] 25))
 simp only [World.size_alloc] at X1_0
 clear a0_1 h0 h1
 obtain ⟨-, k0_0, k0_1, k0_2, -⟩ := bx3 X0_0
 obtain ⟨-, k1_0, k1_1, k1_2, -⟩ := bx3 X1_0
 go_enter Tryd.func38, Tryd.ntmps38
 go_wp2_with fail
 refine (impl_PictureValid_any p a c n _ HN.out nc (r.ext E_0)).mono ?_
 rw [D0.out]
 rintro e w_1 ⟨rfl, e_1⟩
 have X0_1 := e_1.blk X0_0
 have X1_1 := e_1.blk X1_0
 have E_1 := E_0.trans e_1
 clear k0_0 k0_1 k0_2 X0_0 k1_0 k1_1 k1_2 X1_0 E_0 e_1
 obtain ⟨-, k0_0, k0_1, k0_2, -⟩ := bx3 X0_1
 obtain ⟨-, k1_0, k1_1, k1_2, -⟩ := bx3 X1_1
 go_wp2_with fail
 refine (impl_PictureValid_any s b d m _ HM.out mc (q.ext E_1)).mono ?_
 rw [D1.out]
 rintro e w_2 ⟨rfl, e_2⟩
 have X0_2 := e_2.blk X0_1
 have X1_2 := e_2.blk X1_1
 have E_2 := E_1.trans e_2
 clear k0_0 k0_1 k0_2 X0_1 k1_0 k1_1 k1_2 X1_1 E_1 e_2
 obtain ⟨-, k0_0, k0_1, k0_2, -⟩ := bx3 X0_2
 obtain ⟨-, k1_0, k1_1, k1_2, -⟩ := bx3 X1_2
 go_wp2
 go_ret
 exact ⟨rfl, E_2⟩
set_option maxRecDepth 100000 in
theorem alike_2 (p s : Pic) (a b : Option Addr) (c d n m : Nat) (w : World) (hn : n = p.px.length) (hm : m = s.px.length) (nc : n ≤ 9223372036854775807) (mc : m ≤ 9223372036854775807) (r : Sl w a n (p.px.map (Value.int .i64))) (q : Sl w b m (s.px.map (Value.int .i64))) (h0 : p.valid) (h1 : s.valid) (h2 : ¬ (p.w = s.w)) :
 Calls Tryd.prog 38 #[.agg #[.int .i64 p.w, .int .i64 p.h, .slice a n c], .agg #[.int .i64 s.w, .int .i64 s.h, .slice b m d]] w fun e w' => e = .returned (.bool false) ∧ Ext w w' := by
 have HN := Lib.hid hn
 have HM := Lib.hid hm
 clear hn hm
 have D0 := Lib.hid (show decide (p.valid) = true from decide_eq_true h0)
 have D1 := Lib.hid (show decide (s.valid) = true from decide_eq_true h1)
 have dw : (p.w == s.w) = false := by simpa using h2
 have a0_1 := Ext.alloc (w.alloc (.cells #[.int .i64 p.w, .int .i64 p.h, .slice a n c] 25)) (.cells #[.int .i64 s.w, .int .i64 s.h, .slice b m d] 25)
 have X0_0 := a0_1.blk (blk_new w (.cells #[.int .i64 p.w, .int .i64 p.h, .slice a n c] 25))
 have X1_0 := blk_new (w.alloc (.cells #[.int .i64 p.w, .int .i64 p.h, .slice a n c] 25)) (.cells #[.int .i64 s.w, .int .i64 s.h, .slice b m d] 25)
 have E_0 := (Ext.alloc w (.cells #[.int .i64 p.w, .int .i64 p.h, .slice a n c] 25)).trans (Ext.alloc (w.alloc (.cells #[.int .i64 p.w, .int .i64 p.h, .slice a n c] 25)) (.cells #[.int .i64 s.w, .int .i64 s.h, .slice b m d] 25))
 simp only [World.size_alloc] at X1_0
 clear a0_1 h0 h1 h2
 obtain ⟨-, k0_0, k0_1, k0_2, -⟩ := bx3 X0_0
 obtain ⟨-, k1_0, k1_1, k1_2, -⟩ := bx3 X1_0
 go_enter Tryd.func38, Tryd.ntmps38
 go_wp2_with fail
 refine (impl_PictureValid_any p a c n _ HN.out nc (r.ext E_0)).mono ?_
 rw [D0.out]
 rintro e w_1 ⟨rfl, e_1⟩
 have X0_1 := e_1.blk X0_0
 have X1_1 := e_1.blk X1_0
 have E_1 := E_0.trans e_1
 clear k0_0 k0_1 k0_2 X0_0 k1_0 k1_1 k1_2 X1_0 E_0 e_1
 obtain ⟨-, k0_0, k0_1, k0_2, -⟩ := bx3 X0_1
 obtain ⟨-, k1_0, k1_1, k1_2, -⟩ := bx3 X1_1
 go_wp2_with fail
 refine (impl_PictureValid_any s b d m _ HM.out mc (q.ext E_1)).mono ?_
 rw [D1.out]
 rintro e w_2 ⟨rfl, e_2⟩
 have X0_2 := e_2.blk X0_1
 have X1_2 := e_2.blk X1_1
 have E_2 := E_1.trans e_2
 clear k0_0 k0_1 k0_2 X0_1 k1_0 k1_1 k1_2 X1_1 E_1 e_2
 obtain ⟨-, k0_0, k0_1, k0_2, -⟩ := bx3 X0_2
 obtain ⟨-, k1_0, k1_1, k1_2, -⟩ := bx3 X1_2
 go_wp2
 go_ret
 exact ⟨rfl, E_2⟩
set_option maxRecDepth 100000 in
theorem alike_3 (p s : Pic) (a b : Option Addr) (c d n m : Nat) (w : World) (hn : n = p.px.length) (hm : m = s.px.length) (nc : n ≤ 9223372036854775807) (mc : m ≤ 9223372036854775807) (r : Sl w a n (p.px.map (Value.int .i64))) (q : Sl w b m (s.px.map (Value.int .i64))) (h0 : p.valid) (h1 : s.valid) (h2 : p.w = s.w) (h3 : ¬ (p.h = s.h)) :
 Calls Tryd.prog 38 #[.agg #[.int .i64 p.w, .int .i64 p.h, .slice a n c], .agg #[.int .i64 s.w, .int .i64 s.h, .slice b m d]] w fun e w' => e = .returned (.bool false) ∧ Ext w w' := by
 have HN := Lib.hid hn
 have HM := Lib.hid hm
 clear hn hm
 have D0 := Lib.hid (show decide (p.valid) = true from decide_eq_true h0)
 have D1 := Lib.hid (show decide (s.valid) = true from decide_eq_true h1)
 have dw : (p.w == s.w) = true := by simpa using h2
 have dh : (p.h == s.h) = false := by simpa using h3
 have a0_1 := Ext.alloc (w.alloc (.cells #[.int .i64 p.w, .int .i64 p.h, .slice a n c] 25)) (.cells #[.int .i64 s.w, .int .i64 s.h, .slice b m d] 25)
 have X0_0 := a0_1.blk (blk_new w (.cells #[.int .i64 p.w, .int .i64 p.h, .slice a n c] 25))
 have X1_0 := blk_new (w.alloc (.cells #[.int .i64 p.w, .int .i64 p.h, .slice a n c] 25)) (.cells #[.int .i64 s.w, .int .i64 s.h, .slice b m d] 25)
 have E_0 := (Ext.alloc w (.cells #[.int .i64 p.w, .int .i64 p.h, .slice a n c] 25)).trans (Ext.alloc (w.alloc (.cells #[.int .i64 p.w, .int .i64 p.h, .slice a n c] 25)) (.cells #[.int .i64 s.w, .int .i64 s.h, .slice b m d] 25))
 simp only [World.size_alloc] at X1_0
 clear a0_1 h0 h1 h2 h3
 obtain ⟨-, k0_0, k0_1, k0_2, -⟩ := bx3 X0_0
 obtain ⟨-, k1_0, k1_1, k1_2, -⟩ := bx3 X1_0
 go_enter Tryd.func38, Tryd.ntmps38
 go_wp2_with fail
 refine (impl_PictureValid_any p a c n _ HN.out nc (r.ext E_0)).mono ?_
 rw [D0.out]
 rintro e w_1 ⟨rfl, e_1⟩
 have X0_1 := e_1.blk X0_0
 have X1_1 := e_1.blk X1_0
 have E_1 := E_0.trans e_1
 clear k0_0 k0_1 k0_2 X0_0 k1_0 k1_1 k1_2 X1_0 E_0 e_1
 obtain ⟨-, k0_0, k0_1, k0_2, -⟩ := bx3 X0_1
 obtain ⟨-, k1_0, k1_1, k1_2, -⟩ := bx3 X1_1
 go_wp2_with fail
 refine (impl_PictureValid_any s b d m _ HM.out mc (q.ext E_1)).mono ?_
 rw [D1.out]
 rintro e w_2 ⟨rfl, e_2⟩
 have X0_2 := e_2.blk X0_1
 have X1_2 := e_2.blk X1_1
 have E_2 := E_1.trans e_2
 clear k0_0 k0_1 k0_2 X0_1 k1_0 k1_1 k1_2 X1_1 E_1 e_2
 obtain ⟨-, k0_0, k0_1, k0_2, -⟩ := bx3 X0_2
 obtain ⟨-, k1_0, k1_1, k1_2, -⟩ := bx3 X1_2
 go_wp2
 go_ret
 exact ⟨rfl, E_2⟩
set_option maxRecDepth 100000 in
theorem alike_4 (p s : Pic) (a b : Option Addr) (c d n m : Nat) (w : World) (hn : n = p.px.length) (hm : m = s.px.length) (nc : n ≤ 9223372036854775807) (mc : m ≤ 9223372036854775807) (r : Sl w a n (p.px.map (Value.int .i64))) (q : Sl w b m (s.px.map (Value.int .i64))) (h0 : p.valid) (h1 : s.valid) (h2 : p.w = s.w) (h3 : p.h = s.h) :
 Calls Tryd.prog 38 #[.agg #[.int .i64 p.w, .int .i64 p.h, .slice a n c], .agg #[.int .i64 s.w, .int .i64 s.h, .slice b m d]] w fun e w' => e = .returned (.bool true) ∧ Ext w w' := by
 have HN := Lib.hid hn
 have HM := Lib.hid hm
 clear hn hm
 have D0 := Lib.hid (show decide (p.valid) = true from decide_eq_true h0)
 have D1 := Lib.hid (show decide (s.valid) = true from decide_eq_true h1)
 have dw : (p.w == s.w) = true := by simpa using h2
 have dh : (p.h == s.h) = true := by simpa using h3
 have a0_1 := Ext.alloc (w.alloc (.cells #[.int .i64 p.w, .int .i64 p.h, .slice a n c] 25)) (.cells #[.int .i64 s.w, .int .i64 s.h, .slice b m d] 25)
 have X0_0 := a0_1.blk (blk_new w (.cells #[.int .i64 p.w, .int .i64 p.h, .slice a n c] 25))
 have X1_0 := blk_new (w.alloc (.cells #[.int .i64 p.w, .int .i64 p.h, .slice a n c] 25)) (.cells #[.int .i64 s.w, .int .i64 s.h, .slice b m d] 25)
 have E_0 := (Ext.alloc w (.cells #[.int .i64 p.w, .int .i64 p.h, .slice a n c] 25)).trans (Ext.alloc (w.alloc (.cells #[.int .i64 p.w, .int .i64 p.h, .slice a n c] 25)) (.cells #[.int .i64 s.w, .int .i64 s.h, .slice b m d] 25))
 simp only [World.size_alloc] at X1_0
 clear a0_1 h0 h1 h2 h3
 obtain ⟨-, k0_0, k0_1, k0_2, -⟩ := bx3 X0_0
 obtain ⟨-, k1_0, k1_1, k1_2, -⟩ := bx3 X1_0
 go_enter Tryd.func38, Tryd.ntmps38
 go_wp2_with fail
 refine (impl_PictureValid_any p a c n _ HN.out nc (r.ext E_0)).mono ?_
 rw [D0.out]
 rintro e w_1 ⟨rfl, e_1⟩
 have X0_1 := e_1.blk X0_0
 have X1_1 := e_1.blk X1_0
 have E_1 := E_0.trans e_1
 clear k0_0 k0_1 k0_2 X0_0 k1_0 k1_1 k1_2 X1_0 E_0 e_1
 obtain ⟨-, k0_0, k0_1, k0_2, -⟩ := bx3 X0_1
 obtain ⟨-, k1_0, k1_1, k1_2, -⟩ := bx3 X1_1
 go_wp2_with fail
 refine (impl_PictureValid_any s b d m _ HM.out mc (q.ext E_1)).mono ?_
 rw [D1.out]
 rintro e w_2 ⟨rfl, e_2⟩
 have X0_2 := e_2.blk X0_1
 have X1_2 := e_2.blk X1_1
 have E_2 := E_1.trans e_2
 clear k0_0 k0_1 k0_2 X0_1 k1_0 k1_1 k1_2 X1_1 E_1 e_2
 obtain ⟨-, k0_0, k0_1, k0_2, -⟩ := bx3 X0_2
 obtain ⟨-, k1_0, k1_1, k1_2, -⟩ := bx3 X1_2
 go_wp2
 go_ret
 exact ⟨rfl, E_2⟩
theorem alike_any (p s : Pic) (a b : Option Addr) (c d n m : Nat) (w : World) (hn : n = p.px.length) (hm : m = s.px.length) (nc : n ≤ 9223372036854775807) (mc : m ≤ 9223372036854775807) (r : Sl w a n (p.px.map (Value.int .i64))) (q : Sl w b m (s.px.map (Value.int .i64))) :
 Calls Tryd.prog 38 #[.agg #[.int .i64 p.w, .int .i64 p.h, .slice a n c], .agg #[.int .i64 s.w, .int .i64 s.h, .slice b m d]] w fun e w' => e = .returned (.bool (decide ((p.valid) ∧ (s.valid) ∧ (p.w = s.w) ∧ (p.h = s.h)))) ∧ Ext w w' := by
 by_cases h0 : p.valid
 ·skip
  by_cases h1 : s.valid
  ·skip
   by_cases h2 : p.w = s.w
   ·skip
    by_cases h3 : p.h = s.h
    ·rw [decide_eq_true (show (p.valid) ∧ (s.valid) ∧ (p.w = s.w) ∧ (p.h = s.h) from ⟨h0, h1, h2, h3⟩)]
     exact alike_4 p s a b c d n m w hn hm nc mc r q h0 h1 h2 h3
    ·rw [decide_eq_false (show ¬ ((p.valid) ∧ (s.valid) ∧ (p.w = s.w) ∧ (p.h = s.h)) from fun hh => h3 (hh.2.2.2))]
     exact alike_3 p s a b c d n m w hn hm nc mc r q h0 h1 h2 h3
   ·rw [decide_eq_false (show ¬ ((p.valid) ∧ (s.valid) ∧ (p.w = s.w) ∧ (p.h = s.h)) from fun hh => h2 (hh.2.2.1))]
    exact alike_2 p s a b c d n m w hn hm nc mc r q h0 h1 h2
  ·rw [decide_eq_false (show ¬ ((p.valid) ∧ (s.valid) ∧ (p.w = s.w) ∧ (p.h = s.h)) from fun hh => h1 (hh.2.1))]
   exact alike_1 p s a b c d n m w hn hm nc mc r q h0 h1
 ·rw [decide_eq_false (show ¬ ((p.valid) ∧ (s.valid) ∧ (p.w = s.w) ∧ (p.h = s.h)) from fun hh => h0 (hh.1))]
  exact alike_0 p s a b c d n m w hn hm nc mc r q h0
set_option maxRecDepth 100000 in
theorem l1Same_0 (p s : Pic) (a b : Option Addr) (c d n m : Nat) (w : World) (hn : n = p.px.length) (hm : m = s.px.length) (nc : n ≤ 9223372036854775807) (mc : m ≤ 9223372036854775807) (r : Sl w a n (p.px.map (Value.int .i64))) (q : Sl w b m (s.px.map (Value.int .i64)))  (h0 : ¬ (p.valid)) :
 Calls Tryd.prog 48 #[.agg #[.int .i64 p.w, .int .i64 p.h, .slice a n c], .agg #[.int .i64 s.w, .int .i64 s.h, .slice b m d]] w fun e w' => e = .returned (.bool false) ∧ Ext w w' := by
 have HN := Lib.hid hn
 have HM := Lib.hid hm
 clear hn hm
 have D0 := Lib.hid (show decide (p.valid) = false from decide_eq_false h0)
 have a0_1 := Ext.alloc (w.alloc (.cells #[.int .i64 p.w, .int .i64 p.h, .slice a n c] 25)) (.cells #[.int .i64 s.w, .int .i64 s.h, .slice b m d] 25)
 have X0_0 := a0_1.blk (blk_new w (.cells #[.int .i64 p.w, .int .i64 p.h, .slice a n c] 25))
 have X1_0 := blk_new (w.alloc (.cells #[.int .i64 p.w, .int .i64 p.h, .slice a n c] 25)) (.cells #[.int .i64 s.w, .int .i64 s.h, .slice b m d] 25)
 have E_0 := (Ext.alloc w (.cells #[.int .i64 p.w, .int .i64 p.h, .slice a n c] 25)).trans (Ext.alloc (w.alloc (.cells #[.int .i64 p.w, .int .i64 p.h, .slice a n c] 25)) (.cells #[.int .i64 s.w, .int .i64 s.h, .slice b m d] 25))
 simp only [World.size_alloc] at X1_0
 clear a0_1 h0
 obtain ⟨-, k0_0, k0_1, k0_2, -⟩ := bx3 X0_0
 obtain ⟨-, k1_0, k1_1, k1_2, -⟩ := bx3 X1_0
 go_enter Tryd.func48, Tryd.ntmps48
 go_wp2_with fail
 refine (spec_PictureValid_any p a c n _ HN.out nc (r.ext E_0)).mono ?_
 rw [D0.out]
 rintro e w_1 ⟨rfl, e_1⟩
 have X0_1 := e_1.blk X0_0
 have X1_1 := e_1.blk X1_0
 have E_1 := E_0.trans e_1
 clear k0_0 k0_1 k0_2 X0_0 k1_0 k1_1 k1_2 X1_0 E_0 e_1
 obtain ⟨-, k0_0, k0_1, k0_2, -⟩ := bx3 X0_1
 obtain ⟨-, k1_0, k1_1, k1_2, -⟩ := bx3 X1_1
 go_wp2
 go_ret
 exact ⟨rfl, E_1⟩
set_option maxRecDepth 100000 in
theorem l1Same_1 (p s : Pic) (a b : Option Addr) (c d n m : Nat) (w : World) (hn : n = p.px.length) (hm : m = s.px.length) (nc : n ≤ 9223372036854775807) (mc : m ≤ 9223372036854775807) (r : Sl w a n (p.px.map (Value.int .i64))) (q : Sl w b m (s.px.map (Value.int .i64))) (h0 : p.valid) (h1 : ¬ (s.valid)) :
 Calls Tryd.prog 48 #[.agg #[.int .i64 p.w, .int .i64 p.h, .slice a n c], .agg #[.int .i64 s.w, .int .i64 s.h, .slice b m d]] w fun e w' => e = .returned (.bool false) ∧ Ext w w' := by
 have HN := Lib.hid hn
 have HM := Lib.hid hm
 clear hn hm
 have D0 := Lib.hid (show decide (p.valid) = true from decide_eq_true h0)
 have D1 := Lib.hid (show decide (s.valid) = false from decide_eq_false h1)
 have a0_1 := Ext.alloc (w.alloc (.cells #[.int .i64 p.w, .int .i64 p.h, .slice a n c] 25)) (.cells #[.int .i64 s.w, .int .i64 s.h, .slice b m d] 25)
 have X0_0 := a0_1.blk (blk_new w (.cells #[.int .i64 p.w, .int .i64 p.h, .slice a n c] 25))
 have X1_0 := blk_new (w.alloc (.cells #[.int .i64 p.w, .int .i64 p.h, .slice a n c] 25)) (.cells #[.int .i64 s.w, .int .i64 s.h, .slice b m d] 25)
 have E_0 := (Ext.alloc w (.cells #[.int .i64 p.w, .int .i64 p.h, .slice a n c] 25)).trans (Ext.alloc (w.alloc (.cells #[.int .i64 p.w, .int .i64 p.h, .slice a n c] 25)) (.cells #[.int .i64 s.w, .int .i64 s.h, .slice b m d] 25))
 simp only [World.size_alloc] at X1_0
 clear a0_1 h0 h1
 obtain ⟨-, k0_0, k0_1, k0_2, -⟩ := bx3 X0_0
 obtain ⟨-, k1_0, k1_1, k1_2, -⟩ := bx3 X1_0
 go_enter Tryd.func48, Tryd.ntmps48
 go_wp2_with fail
 refine (spec_PictureValid_any p a c n _ HN.out nc (r.ext E_0)).mono ?_
 rw [D0.out]
 rintro e w_1 ⟨rfl, e_1⟩
 have X0_1 := e_1.blk X0_0
 have X1_1 := e_1.blk X1_0
 have E_1 := E_0.trans e_1
 clear k0_0 k0_1 k0_2 X0_0 k1_0 k1_1 k1_2 X1_0 E_0 e_1
 obtain ⟨-, k0_0, k0_1, k0_2, -⟩ := bx3 X0_1
 obtain ⟨-, k1_0, k1_1, k1_2, -⟩ := bx3 X1_1
 go_wp2_with fail
 refine (spec_PictureValid_any s b d m _ HM.out mc (q.ext E_1)).mono ?_
 rw [D1.out]
 rintro e w_2 ⟨rfl, e_2⟩
 have X0_2 := e_2.blk X0_1
 have X1_2 := e_2.blk X1_1
 have E_2 := E_1.trans e_2
 clear k0_0 k0_1 k0_2 X0_1 k1_0 k1_1 k1_2 X1_1 E_1 e_2
 obtain ⟨-, k0_0, k0_1, k0_2, -⟩ := bx3 X0_2
 obtain ⟨-, k1_0, k1_1, k1_2, -⟩ := bx3 X1_2
 go_wp2
 go_ret
 exact ⟨rfl, E_2⟩
set_option maxRecDepth 100000 in
theorem l1Same_2 (p s : Pic) (a b : Option Addr) (c d n m : Nat) (w : World) (hn : n = p.px.length) (hm : m = s.px.length) (nc : n ≤ 9223372036854775807) (mc : m ≤ 9223372036854775807) (r : Sl w a n (p.px.map (Value.int .i64))) (q : Sl w b m (s.px.map (Value.int .i64))) (h0 : p.valid) (h1 : s.valid) (h2 : ¬ (p.w = s.w)) :
 Calls Tryd.prog 48 #[.agg #[.int .i64 p.w, .int .i64 p.h, .slice a n c], .agg #[.int .i64 s.w, .int .i64 s.h, .slice b m d]] w fun e w' => e = .returned (.bool false) ∧ Ext w w' := by
 have HN := Lib.hid hn
 have HM := Lib.hid hm
 clear hn hm
 have D0 := Lib.hid (show decide (p.valid) = true from decide_eq_true h0)
 have D1 := Lib.hid (show decide (s.valid) = true from decide_eq_true h1)
 have dw : (p.w == s.w) = false := by simpa using h2
 have a0_1 := Ext.alloc (w.alloc (.cells #[.int .i64 p.w, .int .i64 p.h, .slice a n c] 25)) (.cells #[.int .i64 s.w, .int .i64 s.h, .slice b m d] 25)
 have X0_0 := a0_1.blk (blk_new w (.cells #[.int .i64 p.w, .int .i64 p.h, .slice a n c] 25))
 have X1_0 := blk_new (w.alloc (.cells #[.int .i64 p.w, .int .i64 p.h, .slice a n c] 25)) (.cells #[.int .i64 s.w, .int .i64 s.h, .slice b m d] 25)
 have E_0 := (Ext.alloc w (.cells #[.int .i64 p.w, .int .i64 p.h, .slice a n c] 25)).trans (Ext.alloc (w.alloc (.cells #[.int .i64 p.w, .int .i64 p.h, .slice a n c] 25)) (.cells #[.int .i64 s.w, .int .i64 s.h, .slice b m d] 25))
 simp only [World.size_alloc] at X1_0
 clear a0_1 h0 h1 h2
 obtain ⟨-, k0_0, k0_1, k0_2, -⟩ := bx3 X0_0
 obtain ⟨-, k1_0, k1_1, k1_2, -⟩ := bx3 X1_0
 go_enter Tryd.func48, Tryd.ntmps48
 go_wp2_with fail
 refine (spec_PictureValid_any p a c n _ HN.out nc (r.ext E_0)).mono ?_
 rw [D0.out]
 rintro e w_1 ⟨rfl, e_1⟩
 have X0_1 := e_1.blk X0_0
 have X1_1 := e_1.blk X1_0
 have E_1 := E_0.trans e_1
 clear k0_0 k0_1 k0_2 X0_0 k1_0 k1_1 k1_2 X1_0 E_0 e_1
 obtain ⟨-, k0_0, k0_1, k0_2, -⟩ := bx3 X0_1
 obtain ⟨-, k1_0, k1_1, k1_2, -⟩ := bx3 X1_1
 go_wp2_with fail
 refine (spec_PictureValid_any s b d m _ HM.out mc (q.ext E_1)).mono ?_
 rw [D1.out]
 rintro e w_2 ⟨rfl, e_2⟩
 have X0_2 := e_2.blk X0_1
 have X1_2 := e_2.blk X1_1
 have E_2 := E_1.trans e_2
 clear k0_0 k0_1 k0_2 X0_1 k1_0 k1_1 k1_2 X1_1 E_1 e_2
 obtain ⟨-, k0_0, k0_1, k0_2, -⟩ := bx3 X0_2
 obtain ⟨-, k1_0, k1_1, k1_2, -⟩ := bx3 X1_2
 go_wp2
 go_ret
 exact ⟨rfl, E_2⟩
set_option maxRecDepth 100000 in
theorem l1Same_3 (p s : Pic) (a b : Option Addr) (c d n m : Nat) (w : World) (hn : n = p.px.length) (hm : m = s.px.length) (nc : n ≤ 9223372036854775807) (mc : m ≤ 9223372036854775807) (r : Sl w a n (p.px.map (Value.int .i64))) (q : Sl w b m (s.px.map (Value.int .i64))) (h0 : p.valid) (h1 : s.valid) (h2 : p.w = s.w) (h3 : ¬ (p.h = s.h)) :
 Calls Tryd.prog 48 #[.agg #[.int .i64 p.w, .int .i64 p.h, .slice a n c], .agg #[.int .i64 s.w, .int .i64 s.h, .slice b m d]] w fun e w' => e = .returned (.bool false) ∧ Ext w w' := by
 have HN := Lib.hid hn
 have HM := Lib.hid hm
 clear hn hm
 have D0 := Lib.hid (show decide (p.valid) = true from decide_eq_true h0)
 have D1 := Lib.hid (show decide (s.valid) = true from decide_eq_true h1)
 have dw : (p.w == s.w) = true := by simpa using h2
 have dh : (p.h == s.h) = false := by simpa using h3
 have a0_1 := Ext.alloc (w.alloc (.cells #[.int .i64 p.w, .int .i64 p.h, .slice a n c] 25)) (.cells #[.int .i64 s.w, .int .i64 s.h, .slice b m d] 25)
 have X0_0 := a0_1.blk (blk_new w (.cells #[.int .i64 p.w, .int .i64 p.h, .slice a n c] 25))
 have X1_0 := blk_new (w.alloc (.cells #[.int .i64 p.w, .int .i64 p.h, .slice a n c] 25)) (.cells #[.int .i64 s.w, .int .i64 s.h, .slice b m d] 25)
 have E_0 := (Ext.alloc w (.cells #[.int .i64 p.w, .int .i64 p.h, .slice a n c] 25)).trans (Ext.alloc (w.alloc (.cells #[.int .i64 p.w, .int .i64 p.h, .slice a n c] 25)) (.cells #[.int .i64 s.w, .int .i64 s.h, .slice b m d] 25))
 simp only [World.size_alloc] at X1_0
 clear a0_1 h0 h1 h2 h3
 obtain ⟨-, k0_0, k0_1, k0_2, -⟩ := bx3 X0_0
 obtain ⟨-, k1_0, k1_1, k1_2, -⟩ := bx3 X1_0
 go_enter Tryd.func48, Tryd.ntmps48
 go_wp2_with fail
 refine (spec_PictureValid_any p a c n _ HN.out nc (r.ext E_0)).mono ?_
 rw [D0.out]
 rintro e w_1 ⟨rfl, e_1⟩
 have X0_1 := e_1.blk X0_0
 have X1_1 := e_1.blk X1_0
 have E_1 := E_0.trans e_1
 clear k0_0 k0_1 k0_2 X0_0 k1_0 k1_1 k1_2 X1_0 E_0 e_1
 obtain ⟨-, k0_0, k0_1, k0_2, -⟩ := bx3 X0_1
 obtain ⟨-, k1_0, k1_1, k1_2, -⟩ := bx3 X1_1
 go_wp2_with fail
 refine (spec_PictureValid_any s b d m _ HM.out mc (q.ext E_1)).mono ?_
 rw [D1.out]
 rintro e w_2 ⟨rfl, e_2⟩
 have X0_2 := e_2.blk X0_1
 have X1_2 := e_2.blk X1_1
 have E_2 := E_1.trans e_2
 clear k0_0 k0_1 k0_2 X0_1 k1_0 k1_1 k1_2 X1_1 E_1 e_2
 obtain ⟨-, k0_0, k0_1, k0_2, -⟩ := bx3 X0_2
 obtain ⟨-, k1_0, k1_1, k1_2, -⟩ := bx3 X1_2
 go_wp2
 go_ret
 exact ⟨rfl, E_2⟩
set_option maxRecDepth 100000 in
theorem l1Same_4 (p s : Pic) (a b : Option Addr) (c d n m : Nat) (w : World) (hn : n = p.px.length) (hm : m = s.px.length) (nc : n ≤ 9223372036854775807) (mc : m ≤ 9223372036854775807) (r : Sl w a n (p.px.map (Value.int .i64))) (q : Sl w b m (s.px.map (Value.int .i64))) (h0 : p.valid) (h1 : s.valid) (h2 : p.w = s.w) (h3 : p.h = s.h) :
 Calls Tryd.prog 48 #[.agg #[.int .i64 p.w, .int .i64 p.h, .slice a n c], .agg #[.int .i64 s.w, .int .i64 s.h, .slice b m d]] w fun e w' => e = .returned (.bool true) ∧ Ext w w' := by
 have HN := Lib.hid hn
 have HM := Lib.hid hm
 clear hn hm
 have D0 := Lib.hid (show decide (p.valid) = true from decide_eq_true h0)
 have D1 := Lib.hid (show decide (s.valid) = true from decide_eq_true h1)
 have dw : (p.w == s.w) = true := by simpa using h2
 have dh : (p.h == s.h) = true := by simpa using h3
 have a0_1 := Ext.alloc (w.alloc (.cells #[.int .i64 p.w, .int .i64 p.h, .slice a n c] 25)) (.cells #[.int .i64 s.w, .int .i64 s.h, .slice b m d] 25)
 have X0_0 := a0_1.blk (blk_new w (.cells #[.int .i64 p.w, .int .i64 p.h, .slice a n c] 25))
 have X1_0 := blk_new (w.alloc (.cells #[.int .i64 p.w, .int .i64 p.h, .slice a n c] 25)) (.cells #[.int .i64 s.w, .int .i64 s.h, .slice b m d] 25)
 have E_0 := (Ext.alloc w (.cells #[.int .i64 p.w, .int .i64 p.h, .slice a n c] 25)).trans (Ext.alloc (w.alloc (.cells #[.int .i64 p.w, .int .i64 p.h, .slice a n c] 25)) (.cells #[.int .i64 s.w, .int .i64 s.h, .slice b m d] 25))
 simp only [World.size_alloc] at X1_0
 clear a0_1 h0 h1 h2 h3
 obtain ⟨-, k0_0, k0_1, k0_2, -⟩ := bx3 X0_0
 obtain ⟨-, k1_0, k1_1, k1_2, -⟩ := bx3 X1_0
 go_enter Tryd.func48, Tryd.ntmps48
 go_wp2_with fail
 refine (spec_PictureValid_any p a c n _ HN.out nc (r.ext E_0)).mono ?_
 rw [D0.out]
 rintro e w_1 ⟨rfl, e_1⟩
 have X0_1 := e_1.blk X0_0
 have X1_1 := e_1.blk X1_0
 have E_1 := E_0.trans e_1
 clear k0_0 k0_1 k0_2 X0_0 k1_0 k1_1 k1_2 X1_0 E_0 e_1
 obtain ⟨-, k0_0, k0_1, k0_2, -⟩ := bx3 X0_1
 obtain ⟨-, k1_0, k1_1, k1_2, -⟩ := bx3 X1_1
 go_wp2_with fail
 refine (spec_PictureValid_any s b d m _ HM.out mc (q.ext E_1)).mono ?_
 rw [D1.out]
 rintro e w_2 ⟨rfl, e_2⟩
 have X0_2 := e_2.blk X0_1
 have X1_2 := e_2.blk X1_1
 have E_2 := E_1.trans e_2
 clear k0_0 k0_1 k0_2 X0_1 k1_0 k1_1 k1_2 X1_1 E_1 e_2
 obtain ⟨-, k0_0, k0_1, k0_2, -⟩ := bx3 X0_2
 obtain ⟨-, k1_0, k1_1, k1_2, -⟩ := bx3 X1_2
 go_wp2
 go_ret
 exact ⟨rfl, E_2⟩
theorem l1Same_any (p s : Pic) (a b : Option Addr) (c d n m : Nat) (w : World) (hn : n = p.px.length) (hm : m = s.px.length) (nc : n ≤ 9223372036854775807) (mc : m ≤ 9223372036854775807) (r : Sl w a n (p.px.map (Value.int .i64))) (q : Sl w b m (s.px.map (Value.int .i64))) :
 Calls Tryd.prog 48 #[.agg #[.int .i64 p.w, .int .i64 p.h, .slice a n c], .agg #[.int .i64 s.w, .int .i64 s.h, .slice b m d]] w fun e w' => e = .returned (.bool (decide ((p.valid) ∧ (s.valid) ∧ (p.w = s.w) ∧ (p.h = s.h)))) ∧ Ext w w' := by
 by_cases h0 : p.valid
 ·skip
  by_cases h1 : s.valid
  ·skip
   by_cases h2 : p.w = s.w
   ·skip
    by_cases h3 : p.h = s.h
    ·rw [decide_eq_true (show (p.valid) ∧ (s.valid) ∧ (p.w = s.w) ∧ (p.h = s.h) from ⟨h0, h1, h2, h3⟩)]
     exact l1Same_4 p s a b c d n m w hn hm nc mc r q h0 h1 h2 h3
    ·rw [decide_eq_false (show ¬ ((p.valid) ∧ (s.valid) ∧ (p.w = s.w) ∧ (p.h = s.h)) from fun hh => h3 (hh.2.2.2))]
     exact l1Same_3 p s a b c d n m w hn hm nc mc r q h0 h1 h2 h3
   ·rw [decide_eq_false (show ¬ ((p.valid) ∧ (s.valid) ∧ (p.w = s.w) ∧ (p.h = s.h)) from fun hh => h2 (hh.2.2.1))]
    exact l1Same_2 p s a b c d n m w hn hm nc mc r q h0 h1 h2
  ·rw [decide_eq_false (show ¬ ((p.valid) ∧ (s.valid) ∧ (p.w = s.w) ∧ (p.h = s.h)) from fun hh => h1 (hh.2.1))]
   exact l1Same_1 p s a b c d n m w hn hm nc mc r q h0 h1
 ·rw [decide_eq_false (show ¬ ((p.valid) ∧ (s.valid) ∧ (p.w = s.w) ∧ (p.h = s.h)) from fun hh => h0 (hh.1))]
  exact l1Same_0 p s a b c d n m w hn hm nc mc r q h0
set_option maxRecDepth 100000 in
theorem begins_0 (p : Pic) (x y : Int) (a : Option Addr) (c n : Nat) (w : World)  (h0 : ¬ (0 ≤ x)) :
 Calls Tryd.prog 39 #[.agg #[.int .i64 p.w, .int .i64 p.h, .slice a n c], .int .i64 x, .int .i64 y] w fun e w' => e = .returned (.bool false) ∧ Ext w w' := by
 have f0 : decide (0 ≤ x) = false := by simpa using h0
 have X0_0 := blk_new w (.cells #[.int .i64 p.w, .int .i64 p.h, .slice a n c] 25)
 have E_0 := Ext.alloc w (.cells #[.int .i64 p.w, .int .i64 p.h, .slice a n c] 25)
 obtain ⟨-, k0_0, k0_1, k0_2, -⟩ := bx3 X0_0
 go_enter Tryd.func39, Tryd.ntmps39
 go_wp2
 go_ret
 exact ⟨rfl, E_0⟩
set_option maxRecDepth 100000 in
theorem begins_1 (p : Pic) (x y : Int) (a : Option Addr) (c n : Nat) (w : World) (h0 : 0 ≤ x) (h1 : ¬ (x < p.w)) :
 Calls Tryd.prog 39 #[.agg #[.int .i64 p.w, .int .i64 p.h, .slice a n c], .int .i64 x, .int .i64 y] w fun e w' => e = .returned (.bool false) ∧ Ext w w' := by
 have f0 : decide (0 ≤ x) = true := by simpa using h0
 have f1 : decide (x < p.w) = false := by simpa using h1
 have X0_0 := blk_new w (.cells #[.int .i64 p.w, .int .i64 p.h, .slice a n c] 25)
 have E_0 := Ext.alloc w (.cells #[.int .i64 p.w, .int .i64 p.h, .slice a n c] 25)
 clear h1
 obtain ⟨-, k0_0, k0_1, k0_2, -⟩ := bx3 X0_0
 go_enter Tryd.func39, Tryd.ntmps39
 go_wp2
 go_ret
 exact ⟨rfl, E_0⟩
set_option maxRecDepth 100000 in
theorem begins_2 (p : Pic) (x y : Int) (a : Option Addr) (c n : Nat) (w : World) (h0 : 0 ≤ x) (h1 : x < p.w) (h2 : ¬ (x % 8 = 0)) :
 Calls Tryd.prog 39 #[.agg #[.int .i64 p.w, .int .i64 p.h, .slice a n c], .int .i64 x, .int .i64 y] w fun e w' => e = .returned (.bool false) ∧ Ext w w' := by
 have f0 : decide (0 ≤ x) = true := by simpa using h0
 have f1 : decide (x < p.w) = true := by simpa using h1
 have f2 : (x % 8 == 0) = false := by simpa using h2
 have X0_0 := blk_new w (.cells #[.int .i64 p.w, .int .i64 p.h, .slice a n c] 25)
 have E_0 := Ext.alloc w (.cells #[.int .i64 p.w, .int .i64 p.h, .slice a n c] 25)
 clear h1 h2
 obtain ⟨-, k0_0, k0_1, k0_2, -⟩ := bx3 X0_0
 go_enter Tryd.func39, Tryd.ntmps39
 go_wp2
 go_ret
 exact ⟨rfl, E_0⟩
set_option maxRecDepth 100000 in
theorem begins_3 (p : Pic) (x y : Int) (a : Option Addr) (c n : Nat) (w : World) (h0 : 0 ≤ x) (h1 : x < p.w) (h2 : x % 8 = 0) (h3 : ¬ (0 ≤ y)) :
 Calls Tryd.prog 39 #[.agg #[.int .i64 p.w, .int .i64 p.h, .slice a n c], .int .i64 x, .int .i64 y] w fun e w' => e = .returned (.bool false) ∧ Ext w w' := by
 have f0 : decide (0 ≤ x) = true := by simpa using h0
 have f1 : decide (x < p.w) = true := by simpa using h1
 have f2 : (x % 8 == 0) = true := by simpa using h2
 have f3 : decide (0 ≤ y) = false := by simpa using h3
 have X0_0 := blk_new w (.cells #[.int .i64 p.w, .int .i64 p.h, .slice a n c] 25)
 have E_0 := Ext.alloc w (.cells #[.int .i64 p.w, .int .i64 p.h, .slice a n c] 25)
 clear h1 h2
 obtain ⟨-, k0_0, k0_1, k0_2, -⟩ := bx3 X0_0
 go_enter Tryd.func39, Tryd.ntmps39
 go_wp2
 go_ret
 exact ⟨rfl, E_0⟩
set_option maxRecDepth 100000 in
theorem begins_4 (p : Pic) (x y : Int) (a : Option Addr) (c n : Nat) (w : World) (h0 : 0 ≤ x) (h1 : x < p.w) (h2 : x % 8 = 0) (h3 : 0 ≤ y) (h4 : ¬ (y < p.h)) :
 Calls Tryd.prog 39 #[.agg #[.int .i64 p.w, .int .i64 p.h, .slice a n c], .int .i64 x, .int .i64 y] w fun e w' => e = .returned (.bool false) ∧ Ext w w' := by
 have f0 : decide (0 ≤ x) = true := by simpa using h0
 have f1 : decide (x < p.w) = true := by simpa using h1
 have f2 : (x % 8 == 0) = true := by simpa using h2
 have f3 : decide (0 ≤ y) = true := by simpa using h3
 have f4 : decide (y < p.h) = false := by simpa using h4
 have X0_0 := blk_new w (.cells #[.int .i64 p.w, .int .i64 p.h, .slice a n c] 25)
 have E_0 := Ext.alloc w (.cells #[.int .i64 p.w, .int .i64 p.h, .slice a n c] 25)
 clear h1 h2 h4
 obtain ⟨-, k0_0, k0_1, k0_2, -⟩ := bx3 X0_0
 go_enter Tryd.func39, Tryd.ntmps39
 go_wp2
 go_ret
 exact ⟨rfl, E_0⟩
set_option maxRecDepth 100000 in
theorem begins_5 (p : Pic) (x y : Int) (a : Option Addr) (c n : Nat) (w : World) (h0 : 0 ≤ x) (h1 : x < p.w) (h2 : x % 8 = 0) (h3 : 0 ≤ y) (h4 : y < p.h) (h5 : ¬ (y % 8 = 0)) :
 Calls Tryd.prog 39 #[.agg #[.int .i64 p.w, .int .i64 p.h, .slice a n c], .int .i64 x, .int .i64 y] w fun e w' => e = .returned (.bool false) ∧ Ext w w' := by
 have f0 : decide (0 ≤ x) = true := by simpa using h0
 have f1 : decide (x < p.w) = true := by simpa using h1
 have f2 : (x % 8 == 0) = true := by simpa using h2
 have f3 : decide (0 ≤ y) = true := by simpa using h3
 have f4 : decide (y < p.h) = true := by simpa using h4
 have f5 : (y % 8 == 0) = false := by simpa using h5
 have X0_0 := blk_new w (.cells #[.int .i64 p.w, .int .i64 p.h, .slice a n c] 25)
 have E_0 := Ext.alloc w (.cells #[.int .i64 p.w, .int .i64 p.h, .slice a n c] 25)
 clear h1 h2 h4 h5
 obtain ⟨-, k0_0, k0_1, k0_2, -⟩ := bx3 X0_0
 go_enter Tryd.func39, Tryd.ntmps39
 go_wp2
 go_ret
 exact ⟨rfl, E_0⟩
set_option maxRecDepth 100000 in
theorem begins_6 (p : Pic) (x y : Int) (a : Option Addr) (c n : Nat) (w : World) (h0 : 0 ≤ x) (h1 : x < p.w) (h2 : x % 8 = 0) (h3 : 0 ≤ y) (h4 : y < p.h) (h5 : y % 8 = 0) :
 Calls Tryd.prog 39 #[.agg #[.int .i64 p.w, .int .i64 p.h, .slice a n c], .int .i64 x, .int .i64 y] w fun e w' => e = .returned (.bool true) ∧ Ext w w' := by
 have f0 : decide (0 ≤ x) = true := by simpa using h0
 have f1 : decide (x < p.w) = true := by simpa using h1
 have f2 : (x % 8 == 0) = true := by simpa using h2
 have f3 : decide (0 ≤ y) = true := by simpa using h3
 have f4 : decide (y < p.h) = true := by simpa using h4
 have f5 : (y % 8 == 0) = true := by simpa using h5
 have X0_0 := blk_new w (.cells #[.int .i64 p.w, .int .i64 p.h, .slice a n c] 25)
 have E_0 := Ext.alloc w (.cells #[.int .i64 p.w, .int .i64 p.h, .slice a n c] 25)
 clear h1 h2 h4 h5
 obtain ⟨-, k0_0, k0_1, k0_2, -⟩ := bx3 X0_0
 go_enter Tryd.func39, Tryd.ntmps39
 go_wp2
 go_ret
 exact ⟨rfl, E_0⟩
theorem begins_any (p : Pic) (x y : Int) (a : Option Addr) (c n : Nat) (w : World) :
 Calls Tryd.prog 39 #[.agg #[.int .i64 p.w, .int .i64 p.h, .slice a n c], .int .i64 x, .int .i64 y] w fun e w' => e = .returned (.bool (decide ((0 ≤ x) ∧ (x < p.w) ∧ (x % 8 = 0) ∧ (0 ≤ y) ∧ (y < p.h) ∧ (y % 8 = 0)))) ∧ Ext w w' := by
 by_cases h0 : 0 ≤ x
 ·skip
  by_cases h1 : x < p.w
  ·skip
   by_cases h2 : x % 8 = 0
   ·skip
    by_cases h3 : 0 ≤ y
    ·skip
     by_cases h4 : y < p.h
     ·skip
      by_cases h5 : y % 8 = 0
      ·rw [decide_eq_true (show (0 ≤ x) ∧ (x < p.w) ∧ (x % 8 = 0) ∧ (0 ≤ y) ∧ (y < p.h) ∧ (y % 8 = 0) from ⟨h0, h1, h2, h3, h4, h5⟩)]
       exact begins_6 p x y a c n w h0 h1 h2 h3 h4 h5
      ·rw [decide_eq_false (show ¬ ((0 ≤ x) ∧ (x < p.w) ∧ (x % 8 = 0) ∧ (0 ≤ y) ∧ (y < p.h) ∧ (y % 8 = 0)) from fun hh => h5 (hh.2.2.2.2.2))]
       exact begins_5 p x y a c n w h0 h1 h2 h3 h4 h5
     ·rw [decide_eq_false (show ¬ ((0 ≤ x) ∧ (x < p.w) ∧ (x % 8 = 0) ∧ (0 ≤ y) ∧ (y < p.h) ∧ (y % 8 = 0)) from fun hh => h4 (hh.2.2.2.2.1))]
      exact begins_4 p x y a c n w h0 h1 h2 h3 h4
    ·rw [decide_eq_false (show ¬ ((0 ≤ x) ∧ (x < p.w) ∧ (x % 8 = 0) ∧ (0 ≤ y) ∧ (y < p.h) ∧ (y % 8 = 0)) from fun hh => h3 (hh.2.2.2.1))]
     exact begins_3 p x y a c n w h0 h1 h2 h3
   ·rw [decide_eq_false (show ¬ ((0 ≤ x) ∧ (x < p.w) ∧ (x % 8 = 0) ∧ (0 ≤ y) ∧ (y < p.h) ∧ (y % 8 = 0)) from fun hh => h2 (hh.2.2.1))]
    exact begins_2 p x y a c n w h0 h1 h2
  ·rw [decide_eq_false (show ¬ ((0 ≤ x) ∧ (x < p.w) ∧ (x % 8 = 0) ∧ (0 ≤ y) ∧ (y < p.h) ∧ (y % 8 = 0)) from fun hh => h1 (hh.2.1))]
   exact begins_1 p x y a c n w h0 h1
 ·rw [decide_eq_false (show ¬ ((0 ≤ x) ∧ (x < p.w) ∧ (x % 8 = 0) ∧ (0 ≤ y) ∧ (y < p.h) ∧ (y % 8 = 0)) from fun hh => h0 (hh.1))]
  exact begins_0 p x y a c n w h0
set_option maxRecDepth 100000 in
theorem l7Place_0 (p : Pic) (x y : Int) (a : Option Addr) (c n : Nat) (w : World) (hn : n = p.px.length) (nc : n ≤ 9223372036854775807) (r : Sl w a n (p.px.map (Value.int .i64)))  (h0 : ¬ (p.valid)) :
 Calls Tryd.prog 49 #[.agg #[.int .i64 p.w, .int .i64 p.h, .slice a n c], .int .i64 x, .int .i64 y] w fun e w' => e = .returned (.bool false) ∧ Ext w w' := by
 have HN := Lib.hid hn
 clear hn
 have D0 := Lib.hid (show decide (p.valid) = false from decide_eq_false h0)
 have X0_0 := blk_new w (.cells #[.int .i64 p.w, .int .i64 p.h, .slice a n c] 25)
 have E_0 := Ext.alloc w (.cells #[.int .i64 p.w, .int .i64 p.h, .slice a n c] 25)
 clear h0
 obtain ⟨-, k0_0, k0_1, k0_2, -⟩ := bx3 X0_0
 go_enter Tryd.func49, Tryd.ntmps49
 go_wp2_with fail
 refine (spec_PictureValid_any p a c n _ HN.out nc (r.ext E_0)).mono ?_
 rw [D0.out]
 rintro e w_1 ⟨rfl, e_1⟩
 have X0_1 := e_1.blk X0_0
 have E_1 := E_0.trans e_1
 clear k0_0 k0_1 k0_2 X0_0 E_0 e_1
 obtain ⟨-, k0_0, k0_1, k0_2, -⟩ := bx3 X0_1
 go_wp2
 go_ret
 exact ⟨rfl, E_1⟩
set_option maxRecDepth 100000 in
theorem l7Place_1 (p : Pic) (x y : Int) (a : Option Addr) (c n : Nat) (w : World) (hn : n = p.px.length) (nc : n ≤ 9223372036854775807) (r : Sl w a n (p.px.map (Value.int .i64))) (h0 : p.valid) (h1 : ¬ (0 ≤ x ∧ x ≤ p.w - 1)) :
 Calls Tryd.prog 49 #[.agg #[.int .i64 p.w, .int .i64 p.h, .slice a n c], .int .i64 x, .int .i64 y] w fun e w' => e = .returned (.bool false) ∧ Ext w w' := by
 have HN := Lib.hid hn
 clear hn
 have hs1 := h0.1.1
 have hs2 := h0.2.1.1
 have hs3 := h0.1.2.1
 have hs4 := h0.2.1.2.1
 have D0 := Lib.hid (show decide (p.valid) = true from decide_eq_true h0)
 have X0_0 := blk_new w (.cells #[.int .i64 p.w, .int .i64 p.h, .slice a n c] 25)
 have E_0 := Ext.alloc w (.cells #[.int .i64 p.w, .int .i64 p.h, .slice a n c] 25)
 clear h0
 obtain ⟨-, k0_0, k0_1, k0_2, -⟩ := bx3 X0_0
 go_enter Tryd.func49, Tryd.ntmps49
 go_wp2_with fail
 refine (spec_PictureValid_any p a c n _ HN.out nc (r.ext E_0)).mono ?_
 rw [D0.out]
 rintro e w_1 ⟨rfl, e_1⟩
 have X0_1 := e_1.blk X0_0
 have E_1 := E_0.trans e_1
 clear k0_0 k0_1 k0_2 X0_0 E_0 e_1
 obtain ⟨-, k0_0, k0_1, k0_2, -⟩ := bx3 X0_1
 go_wp2_with fail
 refine (l1In_no _ _ _ _ (by omega)).mono ?_
 rintro e w_s1 ⟨rfl, rfl⟩
 go_wp2
 go_ret
 exact ⟨rfl, E_1⟩
set_option maxRecDepth 100000 in
theorem l7Place_2 (p : Pic) (x y : Int) (a : Option Addr) (c n : Nat) (w : World) (hn : n = p.px.length) (nc : n ≤ 9223372036854775807) (r : Sl w a n (p.px.map (Value.int .i64))) (h0 : p.valid) (h1 : 0 ≤ x ∧ x ≤ p.w - 1) (h2 : ¬ (0 ≤ y ∧ y ≤ p.h - 1)) :
 Calls Tryd.prog 49 #[.agg #[.int .i64 p.w, .int .i64 p.h, .slice a n c], .int .i64 x, .int .i64 y] w fun e w' => e = .returned (.bool false) ∧ Ext w w' := by
 have HN := Lib.hid hn
 clear hn
 have hs1 := h0.1.1
 have hs2 := h0.2.1.1
 have hs3 := h0.1.2.1
 have hs4 := h0.2.1.2.1
 have D0 := Lib.hid (show decide (p.valid) = true from decide_eq_true h0)
 have X0_0 := blk_new w (.cells #[.int .i64 p.w, .int .i64 p.h, .slice a n c] 25)
 have E_0 := Ext.alloc w (.cells #[.int .i64 p.w, .int .i64 p.h, .slice a n c] 25)
 clear h0
 obtain ⟨-, k0_0, k0_1, k0_2, -⟩ := bx3 X0_0
 go_enter Tryd.func49, Tryd.ntmps49
 go_wp2_with fail
 refine (spec_PictureValid_any p a c n _ HN.out nc (r.ext E_0)).mono ?_
 rw [D0.out]
 rintro e w_1 ⟨rfl, e_1⟩
 have X0_1 := e_1.blk X0_0
 have E_1 := E_0.trans e_1
 clear k0_0 k0_1 k0_2 X0_0 E_0 e_1
 obtain ⟨-, k0_0, k0_1, k0_2, -⟩ := bx3 X0_1
 go_wp2_with fail
 refine (l1In_yes _ _ _ _ h1.1 h1.2).mono ?_
 rintro e w_s1 ⟨rfl, rfl⟩
 go_wp2_with fail
 refine (l1In_no _ _ _ _ (by omega)).mono ?_
 rintro e w_s2 ⟨rfl, rfl⟩
 go_wp2
 go_ret
 exact ⟨rfl, E_1⟩
set_option maxRecDepth 100000 in
theorem l7Place_3 (p : Pic) (x y : Int) (a : Option Addr) (c n : Nat) (w : World) (hn : n = p.px.length) (nc : n ≤ 9223372036854775807) (r : Sl w a n (p.px.map (Value.int .i64))) (h0 : p.valid) (h1 : 0 ≤ x ∧ x ≤ p.w - 1) (h2 : 0 ≤ y ∧ y ≤ p.h - 1) (h3 : ¬ (x % 8 = 0)) :
 Calls Tryd.prog 49 #[.agg #[.int .i64 p.w, .int .i64 p.h, .slice a n c], .int .i64 x, .int .i64 y] w fun e w' => e = .returned (.bool false) ∧ Ext w w' := by
 have HN := Lib.hid hn
 clear hn
 have hs1 := h0.1.1
 have hs2 := h0.2.1.1
 have hs3 := h0.1.2.1
 have hs4 := h0.2.1.2.1
 have D0 := Lib.hid (show decide (p.valid) = true from decide_eq_true h0)
 have f2 : (x % 8 == 0) = false := by simpa using h3
 have X0_0 := blk_new w (.cells #[.int .i64 p.w, .int .i64 p.h, .slice a n c] 25)
 have E_0 := Ext.alloc w (.cells #[.int .i64 p.w, .int .i64 p.h, .slice a n c] 25)
 clear h0 h3
 obtain ⟨-, k0_0, k0_1, k0_2, -⟩ := bx3 X0_0
 go_enter Tryd.func49, Tryd.ntmps49
 go_wp2_with fail
 refine (spec_PictureValid_any p a c n _ HN.out nc (r.ext E_0)).mono ?_
 rw [D0.out]
 rintro e w_1 ⟨rfl, e_1⟩
 have X0_1 := e_1.blk X0_0
 have E_1 := E_0.trans e_1
 clear k0_0 k0_1 k0_2 X0_0 E_0 e_1
 obtain ⟨-, k0_0, k0_1, k0_2, -⟩ := bx3 X0_1
 go_wp2_with fail
 refine (l1In_yes _ _ _ _ h1.1 h1.2).mono ?_
 rintro e w_s1 ⟨rfl, rfl⟩
 go_wp2_with fail
 refine (l1In_yes _ _ _ _ h2.1 h2.2).mono ?_
 rintro e w_s2 ⟨rfl, rfl⟩
 go_wp2
 go_ret
 exact ⟨rfl, E_1⟩
set_option maxRecDepth 100000 in
theorem l7Place_4 (p : Pic) (x y : Int) (a : Option Addr) (c n : Nat) (w : World) (hn : n = p.px.length) (nc : n ≤ 9223372036854775807) (r : Sl w a n (p.px.map (Value.int .i64))) (h0 : p.valid) (h1 : 0 ≤ x ∧ x ≤ p.w - 1) (h2 : 0 ≤ y ∧ y ≤ p.h - 1) (h3 : x % 8 = 0) (h4 : ¬ (y % 8 = 0)) :
 Calls Tryd.prog 49 #[.agg #[.int .i64 p.w, .int .i64 p.h, .slice a n c], .int .i64 x, .int .i64 y] w fun e w' => e = .returned (.bool false) ∧ Ext w w' := by
 have HN := Lib.hid hn
 clear hn
 have hs1 := h0.1.1
 have hs2 := h0.2.1.1
 have hs3 := h0.1.2.1
 have hs4 := h0.2.1.2.1
 have D0 := Lib.hid (show decide (p.valid) = true from decide_eq_true h0)
 have f2 : (x % 8 == 0) = true := by simpa using h3
 have f5 : (y % 8 == 0) = false := by simpa using h4
 have X0_0 := blk_new w (.cells #[.int .i64 p.w, .int .i64 p.h, .slice a n c] 25)
 have E_0 := Ext.alloc w (.cells #[.int .i64 p.w, .int .i64 p.h, .slice a n c] 25)
 clear h0 h3 h4
 obtain ⟨-, k0_0, k0_1, k0_2, -⟩ := bx3 X0_0
 go_enter Tryd.func49, Tryd.ntmps49
 go_wp2_with fail
 refine (spec_PictureValid_any p a c n _ HN.out nc (r.ext E_0)).mono ?_
 rw [D0.out]
 rintro e w_1 ⟨rfl, e_1⟩
 have X0_1 := e_1.blk X0_0
 have E_1 := E_0.trans e_1
 clear k0_0 k0_1 k0_2 X0_0 E_0 e_1
 obtain ⟨-, k0_0, k0_1, k0_2, -⟩ := bx3 X0_1
 go_wp2_with fail
 refine (l1In_yes _ _ _ _ h1.1 h1.2).mono ?_
 rintro e w_s1 ⟨rfl, rfl⟩
 go_wp2_with fail
 refine (l1In_yes _ _ _ _ h2.1 h2.2).mono ?_
 rintro e w_s2 ⟨rfl, rfl⟩
 go_wp2
 go_ret
 exact ⟨rfl, E_1⟩
set_option maxRecDepth 100000 in
theorem l7Place_5 (p : Pic) (x y : Int) (a : Option Addr) (c n : Nat) (w : World) (hn : n = p.px.length) (nc : n ≤ 9223372036854775807) (r : Sl w a n (p.px.map (Value.int .i64))) (h0 : p.valid) (h1 : 0 ≤ x ∧ x ≤ p.w - 1) (h2 : 0 ≤ y ∧ y ≤ p.h - 1) (h3 : x % 8 = 0) (h4 : y % 8 = 0) :
 Calls Tryd.prog 49 #[.agg #[.int .i64 p.w, .int .i64 p.h, .slice a n c], .int .i64 x, .int .i64 y] w fun e w' => e = .returned (.bool true) ∧ Ext w w' := by
 have HN := Lib.hid hn
 clear hn
 have hs1 := h0.1.1
 have hs2 := h0.2.1.1
 have hs3 := h0.1.2.1
 have hs4 := h0.2.1.2.1
 have D0 := Lib.hid (show decide (p.valid) = true from decide_eq_true h0)
 have f2 : (x % 8 == 0) = true := by simpa using h3
 have f5 : (y % 8 == 0) = true := by simpa using h4
 have X0_0 := blk_new w (.cells #[.int .i64 p.w, .int .i64 p.h, .slice a n c] 25)
 have E_0 := Ext.alloc w (.cells #[.int .i64 p.w, .int .i64 p.h, .slice a n c] 25)
 clear h0 h3 h4
 obtain ⟨-, k0_0, k0_1, k0_2, -⟩ := bx3 X0_0
 go_enter Tryd.func49, Tryd.ntmps49
 go_wp2_with fail
 refine (spec_PictureValid_any p a c n _ HN.out nc (r.ext E_0)).mono ?_
 rw [D0.out]
 rintro e w_1 ⟨rfl, e_1⟩
 have X0_1 := e_1.blk X0_0
 have E_1 := E_0.trans e_1
 clear k0_0 k0_1 k0_2 X0_0 E_0 e_1
 obtain ⟨-, k0_0, k0_1, k0_2, -⟩ := bx3 X0_1
 go_wp2_with fail
 refine (l1In_yes _ _ _ _ h1.1 h1.2).mono ?_
 rintro e w_s1 ⟨rfl, rfl⟩
 go_wp2_with fail
 refine (l1In_yes _ _ _ _ h2.1 h2.2).mono ?_
 rintro e w_s2 ⟨rfl, rfl⟩
 go_wp2
 go_ret
 exact ⟨rfl, E_1⟩
theorem l7Place_any (p : Pic) (x y : Int) (a : Option Addr) (c n : Nat) (w : World) (hn : n = p.px.length) (nc : n ≤ 9223372036854775807) (r : Sl w a n (p.px.map (Value.int .i64))) :
 Calls Tryd.prog 49 #[.agg #[.int .i64 p.w, .int .i64 p.h, .slice a n c], .int .i64 x, .int .i64 y] w fun e w' => e = .returned (.bool (decide ((p.valid) ∧ (0 ≤ x ∧ x ≤ p.w - 1) ∧ (0 ≤ y ∧ y ≤ p.h - 1) ∧ (x % 8 = 0) ∧ (y % 8 = 0)))) ∧ Ext w w' := by
 by_cases h0 : p.valid
 ·skip
  by_cases h1 : 0 ≤ x ∧ x ≤ p.w - 1
  ·skip
   by_cases h2 : 0 ≤ y ∧ y ≤ p.h - 1
   ·skip
    by_cases h3 : x % 8 = 0
    ·skip
     by_cases h4 : y % 8 = 0
     ·rw [decide_eq_true (show (p.valid) ∧ (0 ≤ x ∧ x ≤ p.w - 1) ∧ (0 ≤ y ∧ y ≤ p.h - 1) ∧ (x % 8 = 0) ∧ (y % 8 = 0) from ⟨h0, h1, h2, h3, h4⟩)]
      exact l7Place_5 p x y a c n w hn nc r h0 h1 h2 h3 h4
     ·rw [decide_eq_false (show ¬ ((p.valid) ∧ (0 ≤ x ∧ x ≤ p.w - 1) ∧ (0 ≤ y ∧ y ≤ p.h - 1) ∧ (x % 8 = 0) ∧ (y % 8 = 0)) from fun hh => h4 (hh.2.2.2.2))]
      exact l7Place_4 p x y a c n w hn nc r h0 h1 h2 h3 h4
    ·rw [decide_eq_false (show ¬ ((p.valid) ∧ (0 ≤ x ∧ x ≤ p.w - 1) ∧ (0 ≤ y ∧ y ≤ p.h - 1) ∧ (x % 8 = 0) ∧ (y % 8 = 0)) from fun hh => h3 (hh.2.2.2.1))]
     exact l7Place_3 p x y a c n w hn nc r h0 h1 h2 h3
   ·rw [decide_eq_false (show ¬ ((p.valid) ∧ (0 ≤ x ∧ x ≤ p.w - 1) ∧ (0 ≤ y ∧ y ≤ p.h - 1) ∧ (x % 8 = 0) ∧ (y % 8 = 0)) from fun hh => h2 (hh.2.2.1))]
    exact l7Place_2 p x y a c n w hn nc r h0 h1 h2
  ·rw [decide_eq_false (show ¬ ((p.valid) ∧ (0 ≤ x ∧ x ≤ p.w - 1) ∧ (0 ≤ y ∧ y ≤ p.h - 1) ∧ (x % 8 = 0) ∧ (y % 8 = 0)) from fun hh => h1 (hh.2.1))]
   exact l7Place_1 p x y a c n w hn nc r h0 h1
 ·rw [decide_eq_false (show ¬ ((p.valid) ∧ (0 ≤ x ∧ x ≤ p.w - 1) ∧ (0 ≤ y ∧ y ≤ p.h - 1) ∧ (x % 8 = 0) ∧ (y % 8 = 0)) from fun hh => h0 (hh.1))]
  exact l7Place_0 p x y a c n w hn nc r h0
theorem partAt_any (k : Nat) (w : World) (hk : k < 4) :
 Calls Tryd.prog 43 #[.int .i64 (k : Nat)] w fun e w' => e = .returned (.tuple #[.int .i64 ((k % 2 * 4 : Nat) : Int), .int .i64 ((k / 2 * 4 : Nat) : Int)]) ∧ w = w' := by
 go_enter Tryd.func43, Tryd.ntmps43
 go_wp2
 go_ret2
 exact ⟨by congr 1, rfl⟩
end Go.Proofs.YtbnhaegidfbgbaaDoor
