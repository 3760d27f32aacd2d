/- MacroCost, both sides. | Words for the laws with pictures: what changes in a range of blocks; boxes. | toMacro. | Equality of macroblocks in the laws: of the same. -/
import Derived.Test.YtbnhaegidfbgbaaDoorQg15
import Derived.Deep.Cut
namespace Go.Proofs.YtbnhaegidfbgbaaDoor
open Go.RowKit
set_option maxHeartbeats 1000000
theorem costP_no1 {t ref p : Pic} {x y : Int} {m : Mac} {q top : Int} (h : ¬ alikeP t p) : costP t ref p x y m q top = -1 := if_neg (fun k => h k.1)
theorem costP_no2 {t ref p : Pic} {x y : Int} {m : Mac} {q top : Int} (h : ¬ okR ref p x y m q top) : costP t ref p x y m q top = -1 := if_neg (fun k => h k.2)
theorem costP_yes {t ref p : Pic} {x y : Int} {m : Mac} {q top : Int} (h : alikeP t p) (k : okR ref p x y m q top) : costP t ref p x y m q top = sqS t (recD ref p x y m q top) x y 64 + stp q.toNat * (macN m : Int) := if_pos ⟨h, k⟩
set_option maxRecDepth 100000 in
theorem impl_MacroCost_0 (t ref p : Pic) (x y : Int) (m : Mac) (q top : Int) (at1 a b : Option Addr) (tc c d tn n l : Nat) (w : World) (hT : TabQ w) (htn : tn = t.px.length) (hn : n = ref.px.length) (hl : l = p.px.length) (tnc : tn ≤ 9223372036854775807) (nc : n ≤ 9223372036854775807) (lc : l ≤ 9223372036854775807) (rt : Sl w at1 tn (t.px.map (Value.int .i64))) (r : Sl w a n (ref.px.map (Value.int .i64))) (s : Sl w b l (p.px.map (Value.int .i64))) (hm : m.ok) (ha : ¬ alikeP t p) :
 Calls Tryd.prog 32 #[.agg #[.int .i64 t.w, .int .i64 t.h, .slice at1 tn tc], .agg #[.int .i64 ref.w, .int .i64 ref.h, .slice a n c], .agg #[.int .i64 p.w, .int .i64 p.h, .slice b l d], .int .i64 x, .int .i64 y, .agg (ic m.zs), .int .i64 q, .int .i64 top] w fun e w' => e = .returned (.int .i64 (costP t ref p x y m q top)) ∧ Ext w w' := by
 have Htn := Lib.hid htn
 have Hn := Lib.hid hn
 have HL := Lib.hid hl
 have Hm := Lib.hid hm
 have Hl := Lib.hid (Mac.zs_len hm)
 have HA := Lib.hid (show decide (alikeP t p) = false from decide_eq_false ha)
 have HC := Lib.hid (show costP t ref p x y m q top = -1 from costP_no1 ha)
 clear htn hn hl hm ha
 have a2 := Ext.alloc (w.alloc (.cells #[.int .i64 t.w, .int .i64 t.h, .slice at1 tn tc] 25)) (.cells #[.int .i64 ref.w, .int .i64 ref.h, .slice a n c] 25)
 have a3 := Ext.alloc ((w.alloc (.cells #[.int .i64 t.w, .int .i64 t.h, .slice at1 tn tc] 25)).alloc (.cells #[.int .i64 ref.w, .int .i64 ref.h, .slice a n c] 25)) (.cells #[.int .i64 p.w, .int .i64 p.h, .slice b l d] 25)
 have a4 := Ext.alloc (((w.alloc (.cells #[.int .i64 t.w, .int .i64 t.h, .slice at1 tn tc] 25)).alloc (.cells #[.int .i64 ref.w, .int .i64 ref.h, .slice a n c] 25)).alloc (.cells #[.int .i64 p.w, .int .i64 p.h, .slice b l d] 25)) (.cells (ic m.zs) 34)
 have p0 := a4.blk (a3.blk (a2.blk (blk_new w (.cells #[.int .i64 t.w, .int .i64 t.h, .slice at1 tn tc] 25))))
 have p1 := a4.blk (a3.blk (blk_new (w.alloc (.cells #[.int .i64 t.w, .int .i64 t.h, .slice at1 tn tc] 25)) (.cells #[.int .i64 ref.w, .int .i64 ref.h, .slice a n c] 25)))
 have p2 := a4.blk (blk_new ((w.alloc (.cells #[.int .i64 t.w, .int .i64 t.h, .slice at1 tn tc] 25)).alloc (.cells #[.int .i64 ref.w, .int .i64 ref.h, .slice a n c] 25)) (.cells #[.int .i64 p.w, .int .i64 p.h, .slice b l d] 25))
 have p3 := IB.new (((w.alloc (.cells #[.int .i64 t.w, .int .i64 t.h, .slice at1 tn tc] 25)).alloc (.cells #[.int .i64 ref.w, .int .i64 ref.h, .slice a n c] 25)).alloc (.cells #[.int .i64 p.w, .int .i64 p.h, .slice b l d] 25)) 34 m.zs
 have E1 := (((Ext.alloc w (.cells #[.int .i64 t.w, .int .i64 t.h, .slice at1 tn tc] 25)).trans a2).trans a3).trans a4
 simp only [World.size_alloc] at p1 p2 p3
 clear a2 a3 a4
 obtain ⟨B, hB⟩ : ∃ B, B = w.heap.size := ⟨_, rfl⟩
 rw [← hB] at p0 p1 p2 p3
 have HB := Lib.hid hB
 go_enter Tryd.func32, Tryd.ntmps32
 go_upto_region 1 with fail
 try simp only [World.size_alloc]
 rw [← hB]
 clear hB
 generalize (((w.alloc (.cells #[.int .i64 t.w, .int .i64 t.h, .slice at1 tn tc] 25)).alloc (.cells #[.int .i64 ref.w, .int .i64 ref.h, .slice a n c] 25)).alloc (.cells #[.int .i64 p.w, .int .i64 p.h, .slice b l d] 25)).alloc (.cells (ic m.zs) 34) = w1 at *
 obtain ⟨-, i0, i1, i2, -⟩ := bx3 p0
 obtain ⟨-, j0, j1, j2, -⟩ := bx3 p2
 go_wp2_with fail
 refine (alike_at t p at1 b tc d tn l _ Htn.out HL.out tnc lc (rt.ext E1) (s.ext E1)).mono ?_
 rw [HA.out]
 rintro e w2 ⟨rfl, e2⟩
 have r0 := e2.blk p0
 have r1 := e2.blk p1
 have r2 := e2.blk p2
 have r3 := p3.ext e2
 have E2 := E1.trans e2
 clear p0 p1 p2 p3 E1 e2 i0 i1 i2 j0 j1 j2
 go_wp2
 go_ret
 exact ⟨ret_int (by rw [HC.out]), E2⟩
set_option maxRecDepth 100000 in
theorem impl_MacroCost_1 (t ref p : Pic) (x y : Int) (m : Mac) (q top : Int) (at1 a b : Option Addr) (tc c d tn n l : Nat) (w : World) (hT : TabQ w) (htn : tn = t.px.length) (hn : n = ref.px.length) (hl : l = p.px.length) (tnc : tn ≤ 9223372036854775807) (nc : n ≤ 9223372036854775807) (lc : l ≤ 9223372036854775807) (rt : Sl w at1 tn (t.px.map (Value.int .i64))) (r : Sl w a n (ref.px.map (Value.int .i64))) (s : Sl w b l (p.px.map (Value.int .i64))) (hm : m.ok) (ha : alikeP t p) (ho : ¬ okR ref p x y m q top) :
 Calls Tryd.prog 32 #[.agg #[.int .i64 t.w, .int .i64 t.h, .slice at1 tn tc], .agg #[.int .i64 ref.w, .int .i64 ref.h, .slice a n c], .agg #[.int .i64 p.w, .int .i64 p.h, .slice b l d], .int .i64 x, .int .i64 y, .agg (ic m.zs), .int .i64 q, .int .i64 top] w fun e w' => e = .returned (.int .i64 (costP t ref p x y m q top)) ∧ Ext w w' := by
 have Htn := Lib.hid htn
 have Hn := Lib.hid hn
 have HL := Lib.hid hl
 have Hm := Lib.hid hm
 have Hl := Lib.hid (Mac.zs_len hm)
 have HA := Lib.hid (show decide (alikeP t p) = true from decide_eq_true ha)
 have HO := Lib.hid (show decide (okR ref p x y m q top) = false from decide_eq_false ho)
 have HC := Lib.hid (show costP t ref p x y m q top = -1 from costP_no2 ho)
 clear htn hn hl hm ha ho
 have a2 := Ext.alloc (w.alloc (.cells #[.int .i64 t.w, .int .i64 t.h, .slice at1 tn tc] 25)) (.cells #[.int .i64 ref.w, .int .i64 ref.h, .slice a n c] 25)
 have a3 := Ext.alloc ((w.alloc (.cells #[.int .i64 t.w, .int .i64 t.h, .slice at1 tn tc] 25)).alloc (.cells #[.int .i64 ref.w, .int .i64 ref.h, .slice a n c] 25)) (.cells #[.int .i64 p.w, .int .i64 p.h, .slice b l d] 25)
 have a4 := Ext.alloc (((w.alloc (.cells #[.int .i64 t.w, .int .i64 t.h, .slice at1 tn tc] 25)).alloc (.cells #[.int .i64 ref.w, .int .i64 ref.h, .slice a n c] 25)).alloc (.cells #[.int .i64 p.w, .int .i64 p.h, .slice b l d] 25)) (.cells (ic m.zs) 34)
 have p0 := a4.blk (a3.blk (a2.blk (blk_new w (.cells #[.int .i64 t.w, .int .i64 t.h, .slice at1 tn tc] 25))))
 have p1 := a4.blk (a3.blk (blk_new (w.alloc (.cells #[.int .i64 t.w, .int .i64 t.h, .slice at1 tn tc] 25)) (.cells #[.int .i64 ref.w, .int .i64 ref.h, .slice a n c] 25)))
 have p2 := a4.blk (blk_new ((w.alloc (.cells #[.int .i64 t.w, .int .i64 t.h, .slice at1 tn tc] 25)).alloc (.cells #[.int .i64 ref.w, .int .i64 ref.h, .slice a n c] 25)) (.cells #[.int .i64 p.w, .int .i64 p.h, .slice b l d] 25))
 have p3 := IB.new (((w.alloc (.cells #[.int .i64 t.w, .int .i64 t.h, .slice at1 tn tc] 25)).alloc (.cells #[.int .i64 ref.w, .int .i64 ref.h, .slice a n c] 25)).alloc (.cells #[.int .i64 p.w, .int .i64 p.h, .slice b l d] 25)) 34 m.zs
 have E1 := (((Ext.alloc w (.cells #[.int .i64 t.w, .int .i64 t.h, .slice at1 tn tc] 25)).trans a2).trans a3).trans a4
 simp only [World.size_alloc] at p1 p2 p3
 clear a2 a3 a4
 obtain ⟨B, hB⟩ : ∃ B, B = w.heap.size := ⟨_, rfl⟩
 rw [← hB] at p0 p1 p2 p3
 have HB := Lib.hid hB
 go_enter Tryd.func32, Tryd.ntmps32
 go_upto_region 1 with fail
 try simp only [World.size_alloc]
 rw [← hB]
 clear hB
 generalize (((w.alloc (.cells #[.int .i64 t.w, .int .i64 t.h, .slice at1 tn tc] 25)).alloc (.cells #[.int .i64 ref.w, .int .i64 ref.h, .slice a n c] 25)).alloc (.cells #[.int .i64 p.w, .int .i64 p.h, .slice b l d] 25)).alloc (.cells (ic m.zs) 34) = w1 at *
 obtain ⟨-, i0, i1, i2, -⟩ := bx3 p0
 obtain ⟨-, j0, j1, j2, -⟩ := bx3 p2
 go_wp2_with fail
 refine (alike_at t p at1 b tc d tn l _ Htn.out HL.out tnc lc (rt.ext E1) (s.ext E1)).mono ?_
 rw [HA.out]
 rintro e w2 ⟨rfl, e2⟩
 have r0 := e2.blk p0
 have r1 := e2.blk p1
 have r2 := e2.blk p2
 have r3 := p3.ext e2
 have E2 := E1.trans e2
 clear p0 p1 p2 p3 E1 e2 i0 i1 i2 j0 j1 j2
 obtain ⟨-, i0, i1, i2, -⟩ := bx3 r1
 obtain ⟨-, j0, j1, j2, -⟩ := bx3 r2
 go_wp2_with (refine wpList_iload 34 _ rfl rfl r3 0 71 rfl _ Tryd.underlying34 rfl size_Macro (by rw [Hl.out]; omega) _ (by rw [sub_all _ _ Hl.out]) ?_)
 refine (reconstructs_any ref p x y m q top a b c d n l _ Hn.out HL.out nc lc (r.ext E2) (s.ext E2) Hm.out).mono ?_
 rw [HO.out]
 rintro e w3 ⟨rfl, e3⟩
 have z0 := e3.blk r0
 have z1 := e3.blk r1
 have z2 := e3.blk r2
 have z3 := r3.ext e3
 have E3 := E2.trans e3
 clear r0 r1 r2 r3 E2 e3 i0 i1 i2 j0 j1 j2
 go_wp2
 go_ret
 exact ⟨ret_int (by rw [HC.out]), E3⟩
set_option maxRecDepth 100000 in
theorem impl_MacroCost_2 (t ref p : Pic) (x y : Int) (m : Mac) (q top : Int) (at1 a b : Option Addr) (tc c d tn n l : Nat) (w : World) (hT : TabQ w) (htn : tn = t.px.length) (hn : n = ref.px.length) (hl : l = p.px.length) (tnc : tn ≤ 9223372036854775807) (nc : n ≤ 9223372036854775807) (lc : l ≤ 9223372036854775807) (rt : Sl w at1 tn (t.px.map (Value.int .i64))) (r : Sl w a n (ref.px.map (Value.int .i64))) (s : Sl w b l (p.px.map (Value.int .i64))) (hm : m.ok) (ha : alikeP t p) (ho : okR ref p x y m q top) :
 Calls Tryd.prog 32 #[.agg #[.int .i64 t.w, .int .i64 t.h, .slice at1 tn tc], .agg #[.int .i64 ref.w, .int .i64 ref.h, .slice a n c], .agg #[.int .i64 p.w, .int .i64 p.h, .slice b l d], .int .i64 x, .int .i64 y, .agg (ic m.zs), .int .i64 q, .int .i64 top] w fun e w' => e = .returned (.int .i64 (costP t ref p x y m q top)) ∧ Ext w w' := by
 have Htn := Lib.hid htn
 have Hn := Lib.hid hn
 have HL := Lib.hid hl
 have Hm := Lib.hid hm
 have Hl := Lib.hid (Mac.zs_len hm)
 have HA := Lib.hid (show decide (alikeP t p) = true from decide_eq_true ha)
 have HO := Lib.hid (show decide (okR ref p x y m q top) = true from decide_eq_true ho)
 have HC := Lib.hid (show costP t ref p x y m q top = _ from costP_yes ha ho)
 have Hav := Lib.hid ha
 have Hok := Lib.hid ho
 clear htn hn hl hm ha ho
 have a2 := Ext.alloc (w.alloc (.cells #[.int .i64 t.w, .int .i64 t.h, .slice at1 tn tc] 25)) (.cells #[.int .i64 ref.w, .int .i64 ref.h, .slice a n c] 25)
 have a3 := Ext.alloc ((w.alloc (.cells #[.int .i64 t.w, .int .i64 t.h, .slice at1 tn tc] 25)).alloc (.cells #[.int .i64 ref.w, .int .i64 ref.h, .slice a n c] 25)) (.cells #[.int .i64 p.w, .int .i64 p.h, .slice b l d] 25)
 have a4 := Ext.alloc (((w.alloc (.cells #[.int .i64 t.w, .int .i64 t.h, .slice at1 tn tc] 25)).alloc (.cells #[.int .i64 ref.w, .int .i64 ref.h, .slice a n c] 25)).alloc (.cells #[.int .i64 p.w, .int .i64 p.h, .slice b l d] 25)) (.cells (ic m.zs) 34)
 have p0 := a4.blk (a3.blk (a2.blk (blk_new w (.cells #[.int .i64 t.w, .int .i64 t.h, .slice at1 tn tc] 25))))
 have p1 := a4.blk (a3.blk (blk_new (w.alloc (.cells #[.int .i64 t.w, .int .i64 t.h, .slice at1 tn tc] 25)) (.cells #[.int .i64 ref.w, .int .i64 ref.h, .slice a n c] 25)))
 have p2 := a4.blk (blk_new ((w.alloc (.cells #[.int .i64 t.w, .int .i64 t.h, .slice at1 tn tc] 25)).alloc (.cells #[.int .i64 ref.w, .int .i64 ref.h, .slice a n c] 25)) (.cells #[.int .i64 p.w, .int .i64 p.h, .slice b l d] 25))
 have p3 := IB.new (((w.alloc (.cells #[.int .i64 t.w, .int .i64 t.h, .slice at1 tn tc] 25)).alloc (.cells #[.int .i64 ref.w, .int .i64 ref.h, .slice a n c] 25)).alloc (.cells #[.int .i64 p.w, .int .i64 p.h, .slice b l d] 25)) 34 m.zs
 have E1 := (((Ext.alloc w (.cells #[.int .i64 t.w, .int .i64 t.h, .slice at1 tn tc] 25)).trans a2).trans a3).trans a4
 simp only [World.size_alloc] at p1 p2 p3
 clear a2 a3 a4
 obtain ⟨B, hB⟩ : ∃ B, B = w.heap.size := ⟨_, rfl⟩
 rw [← hB] at p0 p1 p2 p3
 have HB := Lib.hid hB
 go_enter Tryd.func32, Tryd.ntmps32
 go_upto_region 1 with fail
 try simp only [World.size_alloc]
 rw [← hB]
 clear hB
 generalize (((w.alloc (.cells #[.int .i64 t.w, .int .i64 t.h, .slice at1 tn tc] 25)).alloc (.cells #[.int .i64 ref.w, .int .i64 ref.h, .slice a n c] 25)).alloc (.cells #[.int .i64 p.w, .int .i64 p.h, .slice b l d] 25)).alloc (.cells (ic m.zs) 34) = w1 at *
 obtain ⟨-, i0, i1, i2, -⟩ := bx3 p0
 obtain ⟨-, j0, j1, j2, -⟩ := bx3 p2
 go_wp2_with fail
 refine (alike_at t p at1 b tc d tn l _ Htn.out HL.out tnc lc (rt.ext E1) (s.ext E1)).mono ?_
 rw [HA.out]
 rintro e w2 ⟨rfl, e2⟩
 have r0 := e2.blk p0
 have r1 := e2.blk p1
 have r2 := e2.blk p2
 have r3 := p3.ext e2
 have E2 := E1.trans e2
 clear p0 p1 p2 p3 E1 e2 i0 i1 i2 j0 j1 j2
 obtain ⟨-, i0, i1, i2, -⟩ := bx3 r1
 obtain ⟨-, j0, j1, j2, -⟩ := bx3 r2
 go_wp2_with (refine wpList_iload 34 _ rfl rfl r3 0 71 rfl _ Tryd.underlying34 rfl size_Macro (by rw [Hl.out]; omega) _ (by rw [sub_all _ _ Hl.out]) ?_)
 refine (reconstructs_any ref p x y m q top a b c d n l _ Hn.out HL.out nc lc (r.ext E2) (s.ext E2) Hm.out).mono ?_
 rw [HO.out]
 rintro e w3 ⟨rfl, e3⟩
 have z0 := e3.blk r0
 have z1 := e3.blk r1
 have z2 := e3.blk r2
 have z3 := r3.ext e3
 have E3 := E2.trans e3
 clear r0 r1 r2 r3 E2 e3 i0 i1 i2 j0 j1 j2
 obtain ⟨-, i0, i1, i2, -⟩ := bx3 z0
 obtain ⟨-, j0, j1, j2, -⟩ := bx3 z1
 obtain ⟨-, k0, k1, k2, -⟩ := bx3 z2
 go_wp2_with (refine wpList_iload 34 _ rfl rfl z3 0 71 rfl _ Tryd.underlying34 rfl size_Macro (by rw [Hl.out]; omega) _ (by rw [sub_all _ _ Hl.out]) ?_)
 have hc : Calls Tryd.prog 84 #[.agg #[.int .i64 t.w, .int .i64 t.h, .slice at1 tn tc], .agg #[.int .i64 ref.w, .int .i64 ref.h, .slice a n c], .agg #[.int .i64 p.w, .int .i64 p.h, .slice b l d], .int .i64 x, .int .i64 y, .agg (ic m.zs), .int .i64 q, .int .i64 top] w3 fun e w' => e = .returned (.int .i64 (costP t ref p x y m q top)) ∧ Ext w3 w' := by
  rw [HC.out]
  clear HC HA HO
  have ho := Hok.out
  have ha := Hav.out
  have hl := HL.out
  have s' := s.ext E3
  clear Hok Hav HL s z0 z1 z2 z3 i0 i1 i2 j0 j1 j2 k0 k1 k2
  obtain ⟨W, hW⟩ : ∃ W : Nat, p.w = W := ⟨p.w.toNat, by have := ho.1.1.1.1; omega⟩
  obtain ⟨H, hH⟩ : ∃ H : Nat, p.h = H := ⟨p.h.toNat, by have := ho.1.1.2.1.1; omega⟩
  obtain ⟨pw, ph, px⟩ := p
  simp only at hW hH hl s' ho ⊢
  subst hW hH
  have x0 := ho.1.2.1
  have y0 := ho.1.2.2.2.2.1
  have q0 := ho.2.2.1.1
  have h2 := impl_cost_in t ref W H x.toNat y.toNat px m q.toNat top at1 a b tc c d tn n l w3 (hT.ext E3) Htn.out Hn.out hl nc (rt.ext E3) (r.ext E3) s' Hm.out ha.1 (by rw [show ((x.toNat : Nat) : Int) = x by omega, show ((y.toNat : Nat) : Int) = y by omega, show ((q.toNat : Nat) : Int) = q by omega]; exact ho)
  rw [show ((x.toNat : Nat) : Int) = x by omega, show ((y.toNat : Nat) : Int) = y by omega, show ((q.toNat : Nat) : Int) = q by omega] at h2
  exact h2
 refine hc.mono ?_
 rintro e w4 ⟨rfl, e4⟩
 clear hc
 have E4 := E3.trans e4
 obtain ⟨C, hC⟩ : ∃ C, C = costP t ref p x y m q top := ⟨_, rfl⟩
 rw [← hC]
 have HC2 := Lib.hid hC
 clear hC
 go_wp2
 go_ret
 exact ⟨ret_int HC2.out, E4⟩
theorem impl_MacroCost_any (t ref p : Pic) (x y : Int) (m : Mac) (q top : Int) (at1 a b : Option Addr) (tc c d tn n l : Nat) (w : World) (hT : TabQ w) (htn : tn = t.px.length) (hn : n = ref.px.length) (hl : l = p.px.length) (tnc : tn ≤ 9223372036854775807) (nc : n ≤ 9223372036854775807) (lc : l ≤ 9223372036854775807) (rt : Sl w at1 tn (t.px.map (Value.int .i64))) (r : Sl w a n (ref.px.map (Value.int .i64))) (s : Sl w b l (p.px.map (Value.int .i64))) (hm : m.ok) :
 Calls Tryd.prog 32 #[.agg #[.int .i64 t.w, .int .i64 t.h, .slice at1 tn tc], .agg #[.int .i64 ref.w, .int .i64 ref.h, .slice a n c], .agg #[.int .i64 p.w, .int .i64 p.h, .slice b l d], .int .i64 x, .int .i64 y, .agg (ic m.zs), .int .i64 q, .int .i64 top] w fun e w' => e = .returned (.int .i64 (costP t ref p x y m q top)) ∧ Ext w w' := by
 by_cases ha : alikeP t p
 ·by_cases ho : okR ref p x y m q top
  ·exact impl_MacroCost_2 t ref p x y m q top at1 a b tc c d tn n l w hT htn hn hl tnc nc lc rt r s hm ha ho
  ·exact impl_MacroCost_1 t ref p x y m q top at1 a b tc c d tn n l w hT htn hn hl tnc nc lc rt r s hm ha ho
 ·exact impl_MacroCost_0 t ref p x y m q top at1 a b tc c d tn n l w hT htn hn hl tnc nc lc rt r s hm ha
set_option maxRecDepth 100000 in
theorem spec_MacroCost_0 (t ref p : Pic) (x y : Int) (m : Mac) (q top : Int) (at1 a b : Option Addr) (tc c d tn n l : Nat) (w : World) (htn : tn = t.px.length) (hn : n = ref.px.length) (hl : l = p.px.length) (tnc : tn ≤ 9223372036854775807) (nc : n ≤ 9223372036854775807) (lc : l ≤ 9223372036854775807) (rt : Sl w at1 tn (t.px.map (Value.int .i64))) (r : Sl w a n (ref.px.map (Value.int .i64))) (s : Sl w b l (p.px.map (Value.int .i64))) (hm : m.ok) (ha : ¬ alikeP t p) :
 Calls Tryd.prog 31 #[.agg #[.int .i64 t.w, .int .i64 t.h, .slice at1 tn tc], .agg #[.int .i64 ref.w, .int .i64 ref.h, .slice a n c], .agg #[.int .i64 p.w, .int .i64 p.h, .slice b l d], .int .i64 x, .int .i64 y, .agg (ic m.zs), .int .i64 q, .int .i64 top] w fun e w' => e = .returned (.int .i64 (costP t ref p x y m q top)) ∧ Ext w w' := by
 have Htn := Lib.hid htn
 have Hn := Lib.hid hn
 have HL := Lib.hid hl
 have Hm := Lib.hid hm
 have Hl := Lib.hid (Mac.zs_len hm)
 have HA := Lib.hid (show decide (alikeP t p) = false from decide_eq_false ha)
 have HC := Lib.hid (show costP t ref p x y m q top = -1 from costP_no1 ha)
 clear htn hn hl hm ha
 have a2 := Ext.alloc (w.alloc (.cells #[.int .i64 t.w, .int .i64 t.h, .slice at1 tn tc] 25)) (.cells #[.int .i64 ref.w, .int .i64 ref.h, .slice a n c] 25)
 have a3 := Ext.alloc ((w.alloc (.cells #[.int .i64 t.w, .int .i64 t.h, .slice at1 tn tc] 25)).alloc (.cells #[.int .i64 ref.w, .int .i64 ref.h, .slice a n c] 25)) (.cells #[.int .i64 p.w, .int .i64 p.h, .slice b l d] 25)
 have a4 := Ext.alloc (((w.alloc (.cells #[.int .i64 t.w, .int .i64 t.h, .slice at1 tn tc] 25)).alloc (.cells #[.int .i64 ref.w, .int .i64 ref.h, .slice a n c] 25)).alloc (.cells #[.int .i64 p.w, .int .i64 p.h, .slice b l d] 25)) (.cells (ic m.zs) 34)
 have p0 := a4.blk (a3.blk (a2.blk (blk_new w (.cells #[.int .i64 t.w, .int .i64 t.h, .slice at1 tn tc] 25))))
 have p1 := a4.blk (a3.blk (blk_new (w.alloc (.cells #[.int .i64 t.w, .int .i64 t.h, .slice at1 tn tc] 25)) (.cells #[.int .i64 ref.w, .int .i64 ref.h, .slice a n c] 25)))
 have p2 := a4.blk (blk_new ((w.alloc (.cells #[.int .i64 t.w, .int .i64 t.h, .slice at1 tn tc] 25)).alloc (.cells #[.int .i64 ref.w, .int .i64 ref.h, .slice a n c] 25)) (.cells #[.int .i64 p.w, .int .i64 p.h, .slice b l d] 25))
 have p3 := IB.new (((w.alloc (.cells #[.int .i64 t.w, .int .i64 t.h, .slice at1 tn tc] 25)).alloc (.cells #[.int .i64 ref.w, .int .i64 ref.h, .slice a n c] 25)).alloc (.cells #[.int .i64 p.w, .int .i64 p.h, .slice b l d] 25)) 34 m.zs
 have E1 := (((Ext.alloc w (.cells #[.int .i64 t.w, .int .i64 t.h, .slice at1 tn tc] 25)).trans a2).trans a3).trans a4
 simp only [World.size_alloc] at p1 p2 p3
 clear a2 a3 a4
 obtain ⟨B, hB⟩ : ∃ B, B = w.heap.size := ⟨_, rfl⟩
 rw [← hB] at p0 p1 p2 p3
 have HB := Lib.hid hB
 go_enter Tryd.func31, Tryd.ntmps31
 go_upto_region 1 with fail
 try simp only [World.size_alloc]
 rw [← hB]
 clear hB
 generalize (((w.alloc (.cells #[.int .i64 t.w, .int .i64 t.h, .slice at1 tn tc] 25)).alloc (.cells #[.int .i64 ref.w, .int .i64 ref.h, .slice a n c] 25)).alloc (.cells #[.int .i64 p.w, .int .i64 p.h, .slice b l d] 25)).alloc (.cells (ic m.zs) 34) = w1 at *
 obtain ⟨-, i0, i1, i2, -⟩ := bx3 p0
 obtain ⟨-, j0, j1, j2, -⟩ := bx3 p2
 go_wp2_with fail
 refine (l1Same_at t p at1 b tc d tn l _ Htn.out HL.out tnc lc (rt.ext E1) (s.ext E1)).mono ?_
 rw [HA.out]
 rintro e w2 ⟨rfl, e2⟩
 have r0 := e2.blk p0
 have r1 := e2.blk p1
 have r2 := e2.blk p2
 have r3 := p3.ext e2
 have E2 := E1.trans e2
 clear p0 p1 p2 p3 E1 e2 i0 i1 i2 j0 j1 j2
 go_wp2
 go_ret
 exact ⟨ret_int (by rw [HC.out]), E2⟩
set_option maxRecDepth 100000 in
theorem spec_MacroCost_1 (t ref p : Pic) (x y : Int) (m : Mac) (q top : Int) (at1 a b : Option Addr) (tc c d tn n l : Nat) (w : World) (htn : tn = t.px.length) (hn : n = ref.px.length) (hl : l = p.px.length) (tnc : tn ≤ 9223372036854775807) (nc : n ≤ 9223372036854775807) (lc : l ≤ 9223372036854775807) (rt : Sl w at1 tn (t.px.map (Value.int .i64))) (r : Sl w a n (ref.px.map (Value.int .i64))) (s : Sl w b l (p.px.map (Value.int .i64))) (hm : m.ok) (ha : alikeP t p) (ho : ¬ okR ref p x y m q top) :
 Calls Tryd.prog 31 #[.agg #[.int .i64 t.w, .int .i64 t.h, .slice at1 tn tc], .agg #[.int .i64 ref.w, .int .i64 ref.h, .slice a n c], .agg #[.int .i64 p.w, .int .i64 p.h, .slice b l d], .int .i64 x, .int .i64 y, .agg (ic m.zs), .int .i64 q, .int .i64 top] w fun e w' => e = .returned (.int .i64 (costP t ref p x y m q top)) ∧ Ext w w' := by
 have Htn := Lib.hid htn
 have Hn := Lib.hid hn
 have HL := Lib.hid hl
 have Hm := Lib.hid hm
 have Hl := Lib.hid (Mac.zs_len hm)
 have HA := Lib.hid (show decide (alikeP t p) = true from decide_eq_true ha)
 have HO := Lib.hid (show decide (okR ref p x y m q top) = false from decide_eq_false ho)
 have HC := Lib.hid (show costP t ref p x y m q top = -1 from costP_no2 ho)
 clear htn hn hl hm ha ho
 have a2 := Ext.alloc (w.alloc (.cells #[.int .i64 t.w, .int .i64 t.h, .slice at1 tn tc] 25)) (.cells #[.int .i64 ref.w, .int .i64 ref.h, .slice a n c] 25)
 have a3 := Ext.alloc ((w.alloc (.cells #[.int .i64 t.w, .int .i64 t.h, .slice at1 tn tc] 25)).alloc (.cells #[.int .i64 ref.w, .int .i64 ref.h, .slice a n c] 25)) (.cells #[.int .i64 p.w, .int .i64 p.h, .slice b l d] 25)
 have a4 := Ext.alloc (((w.alloc (.cells #[.int .i64 t.w, .int .i64 t.h, .slice at1 tn tc] 25)).alloc (.cells #[.int .i64 ref.w, .int .i64 ref.h, .slice a n c] 25)).alloc (.cells #[.int .i64 p.w, .int .i64 p.h, .slice b l d] 25)) (.cells (ic m.zs) 34)
 have p0 := a4.blk (a3.blk (a2.blk (blk_new w (.cells #[.int .i64 t.w, .int .i64 t.h, .slice at1 tn tc] 25))))
 have p1 := a4.blk (a3.blk (blk_new (w.alloc (.cells #[.int .i64 t.w, .int .i64 t.h, .slice at1 tn tc] 25)) (.cells #[.int .i64 ref.w, .int .i64 ref.h, .slice a n c] 25)))
 have p2 := a4.blk (blk_new ((w.alloc (.cells #[.int .i64 t.w, .int .i64 t.h, .slice at1 tn tc] 25)).alloc (.cells #[.int .i64 ref.w, .int .i64 ref.h, .slice a n c] 25)) (.cells #[.int .i64 p.w, .int .i64 p.h, .slice b l d] 25))
 have p3 := IB.new (((w.alloc (.cells #[.int .i64 t.w, .int .i64 t.h, .slice at1 tn tc] 25)).alloc (.cells #[.int .i64 ref.w, .int .i64 ref.h, .slice a n c] 25)).alloc (.cells #[.int .i64 p.w, .int .i64 p.h, .slice b l d] 25)) 34 m.zs
 have E1 := (((Ext.alloc w (.cells #[.int .i64 t.w, .int .i64 t.h, .slice at1 tn tc] 25)).trans a2).trans a3).trans a4
 simp only [World.size_alloc] at p1 p2 p3
 clear a2 a3 a4
 obtain ⟨B, hB⟩ : ∃ B, B = w.heap.size := ⟨_, rfl⟩
 rw [← hB] at p0 p1 p2 p3
 have HB := Lib.hid hB
 go_enter Tryd.func31, Tryd.ntmps31
 go_upto_region 1 with fail
 try simp only [World.size_alloc]
 rw [← hB]
 clear hB
 generalize (((w.alloc (.cells #[.int .i64 t.w, .int .i64 t.h, .slice at1 tn tc] 25)).alloc (.cells #[.int .i64 ref.w, .int .i64 ref.h, .slice a n c] 25)).alloc (.cells #[.int .i64 p.w, .int .i64 p.h, .slice b l d] 25)).alloc (.cells (ic m.zs) 34) = w1 at *
 obtain ⟨-, i0, i1, i2, -⟩ := bx3 p0
 obtain ⟨-, j0, j1, j2, -⟩ := bx3 p2
 go_wp2_with fail
 refine (l1Same_at t p at1 b tc d tn l _ Htn.out HL.out tnc lc (rt.ext E1) (s.ext E1)).mono ?_
 rw [HA.out]
 rintro e w2 ⟨rfl, e2⟩
 have r0 := e2.blk p0
 have r1 := e2.blk p1
 have r2 := e2.blk p2
 have r3 := p3.ext e2
 have E2 := E1.trans e2
 clear p0 p1 p2 p3 E1 e2 i0 i1 i2 j0 j1 j2
 obtain ⟨-, i0, i1, i2, -⟩ := bx3 r1
 obtain ⟨-, j0, j1, j2, -⟩ := bx3 r2
 go_wp2_with (refine wpList_iload 34 _ rfl rfl r3 0 71 rfl _ Tryd.underlying34 rfl size_Macro (by rw [Hl.out]; omega) _ (by rw [sub_all _ _ Hl.out]) ?_)
 refine (l8Ok_any ref p x y m q top a b c d n l _ Hn.out HL.out nc lc (r.ext E2) (s.ext E2) Hm.out).mono ?_
 rw [HO.out]
 rintro e w3 ⟨rfl, e3⟩
 have z0 := e3.blk r0
 have z1 := e3.blk r1
 have z2 := e3.blk r2
 have z3 := r3.ext e3
 have E3 := E2.trans e3
 clear r0 r1 r2 r3 E2 e3 i0 i1 i2 j0 j1 j2
 go_wp2
 go_ret
 exact ⟨ret_int (by rw [HC.out]), E3⟩
set_option maxRecDepth 100000 in
theorem spec_MacroCost_2 (t ref p : Pic) (x y : Int) (m : Mac) (q top : Int) (at1 a b : Option Addr) (tc c d tn n l : Nat) (w : World) (htn : tn = t.px.length) (hn : n = ref.px.length) (hl : l = p.px.length) (tnc : tn ≤ 9223372036854775807) (nc : n ≤ 9223372036854775807) (lc : l ≤ 9223372036854775807) (rt : Sl w at1 tn (t.px.map (Value.int .i64))) (r : Sl w a n (ref.px.map (Value.int .i64))) (s : Sl w b l (p.px.map (Value.int .i64))) (hm : m.ok) (ha : alikeP t p) (ho : okR ref p x y m q top) :
 Calls Tryd.prog 31 #[.agg #[.int .i64 t.w, .int .i64 t.h, .slice at1 tn tc], .agg #[.int .i64 ref.w, .int .i64 ref.h, .slice a n c], .agg #[.int .i64 p.w, .int .i64 p.h, .slice b l d], .int .i64 x, .int .i64 y, .agg (ic m.zs), .int .i64 q, .int .i64 top] w fun e w' => e = .returned (.int .i64 (costP t ref p x y m q top)) ∧ Ext w w' := by
 have Htn := Lib.hid htn
 have Hn := Lib.hid hn
 have HL := Lib.hid hl
 have Hm := Lib.hid hm
 have Hl := Lib.hid (Mac.zs_len hm)
 have HA := Lib.hid (show decide (alikeP t p) = true from decide_eq_true ha)
 have HO := Lib.hid (show decide (okR ref p x y m q top) = true from decide_eq_true ho)
 have HC := Lib.hid (show costP t ref p x y m q top = _ from costP_yes ha ho)
 have Hav := Lib.hid ha
 have Hok := Lib.hid ho
 clear htn hn hl hm ha ho
 have a2 := Ext.alloc (w.alloc (.cells #[.int .i64 t.w, .int .i64 t.h, .slice at1 tn tc] 25)) (.cells #[.int .i64 ref.w, .int .i64 ref.h, .slice a n c] 25)
 have a3 := Ext.alloc ((w.alloc (.cells #[.int .i64 t.w, .int .i64 t.h, .slice at1 tn tc] 25)).alloc (.cells #[.int .i64 ref.w, .int .i64 ref.h, .slice a n c] 25)) (.cells #[.int .i64 p.w, .int .i64 p.h, .slice b l d] 25)
 have a4 := Ext.alloc (((w.alloc (.cells #[.int .i64 t.w, .int .i64 t.h, .slice at1 tn tc] 25)).alloc (.cells #[.int .i64 ref.w, .int .i64 ref.h, .slice a n c] 25)).alloc (.cells #[.int .i64 p.w, .int .i64 p.h, .slice b l d] 25)) (.cells (ic m.zs) 34)
 have p0 := a4.blk (a3.blk (a2.blk (blk_new w (.cells #[.int .i64 t.w, .int .i64 t.h, .slice at1 tn tc] 25))))
 have p1 := a4.blk (a3.blk (blk_new (w.alloc (.cells #[.int .i64 t.w, .int .i64 t.h, .slice at1 tn tc] 25)) (.cells #[.int .i64 ref.w, .int .i64 ref.h, .slice a n c] 25)))
 have p2 := a4.blk (blk_new ((w.alloc (.cells #[.int .i64 t.w, .int .i64 t.h, .slice at1 tn tc] 25)).alloc (.cells #[.int .i64 ref.w, .int .i64 ref.h, .slice a n c] 25)) (.cells #[.int .i64 p.w, .int .i64 p.h, .slice b l d] 25))
 have p3 := IB.new (((w.alloc (.cells #[.int .i64 t.w, .int .i64 t.h, .slice at1 tn tc] 25)).alloc (.cells #[.int .i64 ref.w, .int .i64 ref.h, .slice a n c] 25)).alloc (.cells #[.int .i64 p.w, .int .i64 p.h, .slice b l d] 25)) 34 m.zs
 have E1 := (((Ext.alloc w (.cells #[.int .i64 t.w, .int .i64 t.h, .slice at1 tn tc] 25)).trans a2).trans a3).trans a4
 simp only [World.size_alloc] at p1 p2 p3
 clear a2 a3 a4
 obtain ⟨B, hB⟩ : ∃ B, B = w.heap.size := ⟨_, rfl⟩
 rw [← hB] at p0 p1 p2 p3
 have HB := Lib.hid hB
 go_enter Tryd.func31, Tryd.ntmps31
 go_upto_region 1 with fail
 try simp only [World.size_alloc]
 rw [← hB]
 clear hB
 generalize (((w.alloc (.cells #[.int .i64 t.w, .int .i64 t.h, .slice at1 tn tc] 25)).alloc (.cells #[.int .i64 ref.w, .int .i64 ref.h, .slice a n c] 25)).alloc (.cells #[.int .i64 p.w, .int .i64 p.h, .slice b l d] 25)).alloc (.cells (ic m.zs) 34) = w1 at *
 obtain ⟨-, i0, i1, i2, -⟩ := bx3 p0
 obtain ⟨-, j0, j1, j2, -⟩ := bx3 p2
 go_wp2_with fail
 refine (l1Same_at t p at1 b tc d tn l _ Htn.out HL.out tnc lc (rt.ext E1) (s.ext E1)).mono ?_
 rw [HA.out]
 rintro e w2 ⟨rfl, e2⟩
 have r0 := e2.blk p0
 have r1 := e2.blk p1
 have r2 := e2.blk p2
 have r3 := p3.ext e2
 have E2 := E1.trans e2
 clear p0 p1 p2 p3 E1 e2 i0 i1 i2 j0 j1 j2
 obtain ⟨-, i0, i1, i2, -⟩ := bx3 r1
 obtain ⟨-, j0, j1, j2, -⟩ := bx3 r2
 go_wp2_with (refine wpList_iload 34 _ rfl rfl r3 0 71 rfl _ Tryd.underlying34 rfl size_Macro (by rw [Hl.out]; omega) _ (by rw [sub_all _ _ Hl.out]) ?_)
 refine (l8Ok_any ref p x y m q top a b c d n l _ Hn.out HL.out nc lc (r.ext E2) (s.ext E2) Hm.out).mono ?_
 rw [HO.out]
 rintro e w3 ⟨rfl, e3⟩
 have z0 := e3.blk r0
 have z1 := e3.blk r1
 have z2 := e3.blk r2
 have z3 := r3.ext e3
 have E3 := E2.trans e3
 clear r0 r1 r2 r3 E2 e3 i0 i1 i2 j0 j1 j2
 obtain ⟨-, i0, i1, i2, -⟩ := bx3 z0
 obtain ⟨-, j0, j1, j2, -⟩ := bx3 z1
 obtain ⟨-, k0, k1, k2, -⟩ := bx3 z2
 go_wp2_with (refine wpList_iload 34 _ rfl rfl z3 0 71 rfl _ Tryd.underlying34 rfl size_Macro (by rw [Hl.out]; omega) _ (by rw [sub_all _ _ Hl.out]) ?_)
 have hc : Calls Tryd.prog 83 #[.agg #[.int .i64 t.w, .int .i64 t.h, .slice at1 tn tc], .agg #[.int .i64 ref.w, .int .i64 ref.h, .slice a n c], .agg #[.int .i64 p.w, .int .i64 p.h, .slice b l d], .int .i64 x, .int .i64 y, .agg (ic m.zs), .int .i64 q, .int .i64 top] w3 fun e w' => e = .returned (.int .i64 (costP t ref p x y m q top)) ∧ Ext w3 w' := by
  rw [HC.out]
  clear HC HA HO
  have ho := Hok.out
  have ha := Hav.out
  have hl := HL.out
  have s' := s.ext E3
  clear Hok Hav HL s z0 z1 z2 z3 i0 i1 i2 j0 j1 j2 k0 k1 k2
  obtain ⟨W, hW⟩ : ∃ W : Nat, p.w = W := ⟨p.w.toNat, by have := ho.1.1.1.1; omega⟩
  obtain ⟨H, hH⟩ : ∃ H : Nat, p.h = H := ⟨p.h.toNat, by have := ho.1.1.2.1.1; omega⟩
  obtain ⟨pw, ph, px⟩ := p
  simp only at hW hH hl s' ho ⊢
  subst hW hH
  have x0 := ho.1.2.1
  have y0 := ho.1.2.2.2.2.1
  have q0 := ho.2.2.1.1
  have h2 := spec_cost_in t ref W H x.toNat y.toNat px m q.toNat top at1 a b tc c d tn n l w3 Htn.out Hn.out hl nc (rt.ext E3) (r.ext E3) s' Hm.out ha.1 (by rw [show ((x.toNat : Nat) : Int) = x by omega, show ((y.toNat : Nat) : Int) = y by omega, show ((q.toNat : Nat) : Int) = q by omega]; exact ho)
  rw [show ((x.toNat : Nat) : Int) = x by omega, show ((y.toNat : Nat) : Int) = y by omega, show ((q.toNat : Nat) : Int) = q by omega] at h2
  exact h2
 refine hc.mono ?_
 rintro e w4 ⟨rfl, e4⟩
 clear hc
 have E4 := E3.trans e4
 obtain ⟨C, hC⟩ : ∃ C, C = costP t ref p x y m q top := ⟨_, rfl⟩
 rw [← hC]
 have HC2 := Lib.hid hC
 clear hC
 go_wp2
 go_ret
 exact ⟨ret_int HC2.out, E4⟩
theorem spec_MacroCost_any (t ref p : Pic) (x y : Int) (m : Mac) (q top : Int) (at1 a b : Option Addr) (tc c d tn n l : Nat) (w : World) (htn : tn = t.px.length) (hn : n = ref.px.length) (hl : l = p.px.length) (tnc : tn ≤ 9223372036854775807) (nc : n ≤ 9223372036854775807) (lc : l ≤ 9223372036854775807) (rt : Sl w at1 tn (t.px.map (Value.int .i64))) (r : Sl w a n (ref.px.map (Value.int .i64))) (s : Sl w b l (p.px.map (Value.int .i64))) (hm : m.ok) :
 Calls Tryd.prog 31 #[.agg #[.int .i64 t.w, .int .i64 t.h, .slice at1 tn tc], .agg #[.int .i64 ref.w, .int .i64 ref.h, .slice a n c], .agg #[.int .i64 p.w, .int .i64 p.h, .slice b l d], .int .i64 x, .int .i64 y, .agg (ic m.zs), .int .i64 q, .int .i64 top] w fun e w' => e = .returned (.int .i64 (costP t ref p x y m q top)) ∧ Ext w w' := by
 by_cases ha : alikeP t p
 ·by_cases ho : okR ref p x y m q top
  ·exact spec_MacroCost_2 t ref p x y m q top at1 a b tc c d tn n l w htn hn hl tnc nc lc rt r s hm ha ho
  ·exact spec_MacroCost_1 t ref p x y m q top at1 a b tc c d tn n l w htn hn hl tnc nc lc rt r s hm ha ho
 ·exact spec_MacroCost_0 t ref p x y m q top at1 a b tc c d tn n l w htn hn hl tnc nc lc rt r s hm ha
end Go.Proofs.YtbnhaegidfbgbaaDoor
namespace Go.Proofs.YtbnhaegidfbgbaaDoor
open Go.RowKit
set_option maxHeartbeats 1000000
/-- Of what was there only blocks lo..hi-1 have changed. -/
def Tc (lo hi : Nat) (w w' : World) : Prop := ∃ row, w.grownBy w' row ∧ ∀ k, row = some k → lo ≤ k ∧ k < hi
section
variable {w w' W : World} {lo hi : Nat}
theorem Tc.ext (h : Tc lo hi w w') (e : Ext W w) (hl : W.heap.size ≤ lo) : Ext W w' := by
 obtain ⟨row, g, hr⟩ := h
 exact Ext.grown e g (fun k hk => by have := (hr k hk).1; omega)
theorem Tc.size (h : Tc lo hi w w') : w.heap.size ≤ w'.heap.size := by obtain ⟨row, g, -⟩ := h; exact g.size
theorem Tc.blk (h : Tc lo hi w w') {b : Nat} {o : Obj} (hb : w.heap[b]? = some o) (hn : b < lo ∨ hi ≤ b) : w'.heap[b]? = some o := by
 obtain ⟨row, g, hr⟩ := h
 exact blk_gr hb g (fun e => by have := hr b e; omega)
theorem Tc.own (h : Tc lo hi w w') {base e s n : Nat} {v : Value} {xs : List Value} (ho : w.ownsRow base e s v n xs) (hn : ∀ k, v.ownBlock = some k → k < lo ∨ hi ≤ k) : w'.ownsRow base e s v n xs := by
 obtain ⟨row, g, hr⟩ := h
 refine ho.kept g ?_
 cases hv : v.ownBlock with
 | none => exact .inl rfl
 | some k => right; intro e2; have := hr k e2.symm; have := hn k hv; omega
theorem Tc.ib (h : Tc lo hi w w') {b T : Nat} {zs : List Int} (hb : IB w b T zs) (hn : b < lo ∨ hi ≤ b) : IB w' b T zs := h.blk hb hn
theorem Tc.of {row : Option Nat} (g : w.grownBy w' row) (hr : ∀ k, row = some k → lo ≤ k ∧ k < hi) : Tc lo hi w w' := ⟨row, g, hr⟩
end
/-- A picture's box. -/
def PX (w : World) (b : Nat) (x y : Int) (a : Option Addr) (n c : Nat) : Prop := w.heap[b]? = some (.cells #[.int .i64 x, .int .i64 y, .slice a n c] 25 (0, 0))
theorem PX.ext {w w' : World} {b : Nat} {x y : Int} {a : Option Addr} {n c : Nat} (h : PX w b x y a n c) (e : Ext w w') : PX w' b x y a n c := e.blk h
theorem PX.cells {w : World} {b : Nat} {x y : Int} {a : Option Addr} {n c : Nat} (h : PX w b x y a n c) : w.cell? ⟨b, 0, none⟩ = some (.int .i64 x) ∧ w.cell? ⟨b, 1, none⟩ = some (.int .i64 y) ∧ w.cell? ⟨b, 2, none⟩ = some (.slice a n c) := by
 obtain ⟨-, h0, h1, h2, -⟩ := bx3 h
 exact ⟨h0, h1, h2⟩
/-- A box of three cells of type Picture. -/
def PZ (w : World) (b : Nat) : Prop := ∃ x y z : Value, w.heap[b]? = some (.cells #[x, y, z] 25 (0, 0))
theorem PZ.ext {w w' : World} {b : Nat} (h : PZ w b) (e : Ext w w') : PZ w' b := by
 obtain ⟨x, y, z, h⟩ := h; exact ⟨x, y, z, e.blk h⟩
theorem PX.z {w : World} {b : Nat} {x y : Int} {a : Option Addr} {n c : Nat} (h : PX w b x y a n c) : PZ w b := ⟨_, _, _, h⟩
/-- The three stores into a box. -/
def st3 (w : World) (b : Nat) (x y z : Value) : World := ((w.setCell ⟨b, 0, none⟩ x).setCell ⟨b, 1, none⟩ y).setCell ⟨b, 2, none⟩ z
end Go.Proofs.YtbnhaegidfbgbaaDoor
namespace Go.Proofs.YtbnhaegidfbgbaaDoor
open Go.RowKit
set_option maxHeartbeats 400000
theorem mac_built (m : Mac) (h : m.ok) : spl (spl (spl ((List.replicate 71 (0 : Int)).set 0 m.kind) 1 [m.x, m.y]) 3 m.modes) 7 m.lv = m.zs := by
 obtain ⟨k, x, y, md, lv⟩ := m
 obtain ⟨h1, h2⟩ := h
 simp only at h1 h2
 match md, h1 with
 | [a, b, c, d], _ =>
  have e1 : (List.replicate 71 (0 : Int)).set 0 k = k :: 0 :: 0 :: 0 :: 0 :: 0 :: 0 :: List.replicate 64 0 := rfl
  simp only [e1]
  unfold spl Mac.zs
  simp [h2]
theorem size_lMacro : (Tryd.prog.info? 45).map (·.size) = some 71 := by kernel_rfl
theorem zero_Macro : (Tryd.prog.info? 34).map (·.zero) = some (some (.agg (ic (List.replicate 71 0)))) := by kernel_rfl
theorem size_lVector : (Tryd.prog.info? 43).map (·.size) = some 2 := by kernel_rfl
set_option maxRecDepth 100000 in
theorem toMacro_any (m : Mac) (w : World) (h : m.ok) :
 Calls Tryd.prog 20 #[.agg (ic m.zs)] w fun e w' => e = .returned (.agg (ic m.zs)) ∧ Ext w w' := by
 have Hl := Lib.hid (Mac.zs_len h)
 have Hm := Lib.hid h
 clear h
 go_enter Tryd.func20, Tryd.ntmps20
 go_upto_region 2 with (refine wpList_ialloc 34 rfl rfl 71 zero_Macro ?_)
 obtain ⟨W, p0, p1, p2, E1, hW⟩ : ∃ W, IB W w.heap.size 45 m.zs ∧ IB W (w.heap.size + 1) 34 (List.replicate 71 0) ∧ IB W (w.heap.size + 1 + 1) 34 (List.replicate 71 0) ∧ Ext w W ∧ ((w.alloc (.cells (ic m.zs) 45)).alloc (.cells (ic (List.replicate 71 0)) 34)).alloc (.cells (ic (List.replicate 71 0)) 34) = W := by
  refine ⟨_, ?_, ?_, ?_, ?_, rfl⟩
  ·exact ((IB.new w 45 m.zs).alloc _).alloc _
  ·have := (IB.new (w.alloc (.cells (ic m.zs) 45)) 34 (List.replicate 71 0)).alloc (.cells (ic (List.replicate 71 0)) 34)
   simp only [World.size_alloc] at this
   exact this
  ·have := IB.new ((w.alloc (.cells (ic m.zs) 45)).alloc (.cells (ic (List.replicate 71 0)) 34)) 34 (List.replicate 71 0)
   simp only [World.size_alloc] at this
   exact this
  ·exact ((Ext.alloc _ _).trans (Ext.alloc _ _)).trans (Ext.alloc _ _)
 rw [hW]
 clear hW
 have k0 := p0.cell (i := 0) (by rw [Hl.out]; omega)
 rw [Mac.zs_kind] at k0
 have d0 := p2.cell (i := 0) (by simp)
 have f0 := p2.frozen 0
 go_upto_region 3 with (fail)
 have E2 := Ext.grown E1 (gr_set W (w.heap.size + 1 + 1) 0 (.int .i64 m.kind)) (fun q hq => by cases hq; omega)
 have r0 := p0.set_other (c := w.heap.size + 1 + 1) (i := 0) (v := .int .i64 m.kind) (by omega)
 have r1 := p1.set_other (c := w.heap.size + 1 + 1) (i := 0) (v := .int .i64 m.kind) (by omega)
 have r2 := p2.set 0 m.kind
 generalize W.setCell ⟨w.heap.size + 1 + 1, 0, none⟩ (.int .i64 m.kind) = W2 at *
 clear p0 p1 p2 k0 d0 f0 E1
 go_wp2_with (refine wpList_iload 43 _ rfl rfl r0 1 2 rfl _ Tryd.underlying43 rfl size_lVector (by rw [Hl.out]; omega) _ Mac.zs_mv ?_)
 refine (toVector_any m.x m.y _).mono ?_
 rintro e w3 ⟨rfl, e3⟩
 have E3 := E2.trans e3
 have q0 := r0.ext e3
 have q1 := r1.ext e3
 have q2 := r2.ext e3
 clear r0 r1 r2 E2 e3
 go_wp2_with (first | (refine wpList_istore 27 _ _ rfl rfl q2 1 2 rfl _ rfl [m.x, m.y] rfl size_Vector rfl (by simp) ?_; intro w4 p4 g4; refine Hid.out ?_))
 have E4 := Ext.grown E3 g4 (fun q hq => by cases hq; omega)
 have s0 := q0.gr g4 (by simp; omega)
 have s1 := q1.gr g4 (by simp)
 clear q0 q1 q2 E3 g4
 refine Lib.hid ?_
 go_wp2_with (refine wpList_iload 30 _ rfl rfl s0 3 4 rfl _ Tryd.underlying30 rfl size_A4 (by rw [Hl.out]; omega) _ (by rw [Mac.zs_modes Hm.out]) ?_)
 refine (toIntA4_any m.modes _ Hm.out.modes).mono ?_
 rintro e w5 ⟨rfl, e5⟩
 have E5 := E4.trans e5
 have t0 := s0.ext e5
 have t1 := s1.ext e5
 have t2 := p4.ext e5
 clear s0 s1 p4 E4 e5
 have L1 : Hid ((spl ((List.replicate 71 (0 : Int)).set 0 m.kind) 1 [m.x, m.y]).length = 71) := Lib.hid (by rw [spl_len (by simp)]; simp)
 go_wp2_with (first | (refine wpList_istore 30 _ _ rfl rfl t2 3 4 rfl _ rfl m.modes rfl size_A4 Hm.out.modes (by rw [L1.out]; omega) ?_; intro w6 p6 g6; refine Hid.out ?_))
 have E6 := Ext.grown E5 g6 (fun q hq => by cases hq; omega)
 have v0 := t0.gr g6 (by simp; omega)
 have v1 := t1.gr g6 (by simp)
 clear t0 t1 t2 E5 g6
 refine Lib.hid ?_
 go_wp2_with (refine wpList_iload 32 _ rfl rfl v0 7 64 rfl _ Tryd.underlying32 rfl size_A16A4 (by rw [Hl.out]; omega) _ (by rw [Mac.zs_lv Hm.out]) ?_)
 refine (toIntA16A4_any m.lv _ Hm.out.lv).mono ?_
 rintro e w7 ⟨rfl, e7⟩
 have E7 := E6.trans e7
 have x1 := v1.ext e7
 have x2 := p6.ext e7
 clear v0 v1 p6 E6 e7
 have L2 : Hid ((spl (spl ((List.replicate 71 (0 : Int)).set 0 m.kind) 1 [m.x, m.y]) 3 m.modes).length = 71) := Lib.hid (by rw [spl_len (by rw [L1.out, Hm.out.modes]; omega), L1.out])
 go_wp2_with (first | (refine wpList_istore 32 _ _ rfl rfl x2 7 64 rfl _ rfl m.lv rfl size_A16A4 Hm.out.lv (by rw [L2.out]; omega) ?_; intro w8 p8 g8; refine Hid.out ?_))
 rw [mac_built m Hm.out] at p8
 have E8 := Ext.grown E7 g8 (fun q hq => by cases hq; omega)
 have y1 := x1.gr g8 (by simp)
 clear x1 x2 E7 g8 L1 L2
 refine Lib.hid ?_
 go_wp2_with (first | (refine wpList_iload 34 _ rfl rfl p8 0 71 rfl _ Tryd.underlying34 rfl size_Macro (by rw [Hl.out]; omega) _ (by rw [sub_all _ _ Hl.out]) ?_) | (refine wpList_istore 34 _ _ rfl rfl y1 0 71 rfl _ rfl m.zs rfl size_Macro Hl.out (by simp) ?_; intro w9 p9 g9; refine Hid.out ?_))
 rw [spl_all (by rw [Hl.out]; simp)] at p9
 have E9 := Ext.grown E8 g9 (fun q hq => by cases hq; omega)
 refine Lib.hid ?_
 go_wp2
 exact bodyPost_ret (v := .agg (ic m.zs)) (results_cell_row rfl _ _ (w.heap.size + 1) 34 (ic m.zs) (0, 0) _ rfl p9 Tryd.underlying34 rfl (by rw [ic_size, Hl.out]; exact size_Macro)) rfl ⟨rfl, E9⟩
end Go.Proofs.YtbnhaegidfbgbaaDoor
namespace Go.Proofs.YtbnhaegidfbgbaaDoor
open Go.RowKit
set_option maxHeartbeats 1000000
end Go.Proofs.YtbnhaegidfbgbaaDoor
