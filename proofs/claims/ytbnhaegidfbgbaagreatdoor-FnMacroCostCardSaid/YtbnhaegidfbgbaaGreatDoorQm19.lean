/- MacroCost, both sides. | InterMacro, both sides. | The cost of a difference and the validity of the samples around a block, both sides. | The best prediction mode, both sides. | The intra macroblock: plain law, and the memory of both walks. | The intra macroblock: the program's. | Plain: a rebuilt picture inside and outside the macroblock; fine intra coding is lossless. | MotionBlock on valid arguments; the laws' comparisons. | FnMacroCost: the cost is the error plus the step times the decisions; the walk of the law. | From the reading of an argument to the walks' words. -/
import Derived.Test.YtbnhaegidfbgbaaGreatDoorQm18
import Derived.Deep.CutRange
import Derived.ProofKit
import Derived.OpenShut
import Derived.ShutString
import Derived.ChangeOld
import Derived.Deep.Slices
import Derived.Lib.SmallJoins
set_option linter.unusedVariables false
set_option linter.unusedSimpArgs false
namespace Go.Proofs.YtbnhaegidfbgbaaGreatDoor
open Go.RowKit
set_option maxHeartbeats 1000000
theorem costP_no1 {t ref p : Pic} {x y : Int} {m : Mac} {q top : Int} (h : ¬ alikeP t p) : costP t ref p x y m q top = -1 := if_neg (fun k => h k.1)
theorem costP_no2 {t ref p : Pic} {x y : Int} {m : Mac} {q top : Int} (h : ¬ okR ref p x y m q top) : costP t ref p x y m q top = -1 := if_neg (fun k => h k.2)
theorem costP_yes {t ref p : Pic} {x y : Int} {m : Mac} {q top : Int} (h : alikeP t p) (k : okR ref p x y m q top) : costP t ref p x y m q top = sqS t (recD ref p x y m q top) x y 64 + stp q.toNat * (macN m : Int) := if_pos ⟨h, k⟩
set_option maxRecDepth 100000 in
theorem impl_MacroCost_0 (t ref p : Pic) (x y : Int) (m : Mac) (q top : Int) (at1 a b : Option Addr) (tc c d tn n l : Nat) (w : World) (hT : TabQ w) (htn : tn = t.px.length) (hn : n = ref.px.length) (hl : l = p.px.length) (tnc : tn ≤ 9223372036854775807) (nc : n ≤ 9223372036854775807) (lc : l ≤ 9223372036854775807) (rt : Sl w at1 tn (t.px.map (Value.int .i64))) (r : Sl w a n (ref.px.map (Value.int .i64))) (s : Sl w b l (p.px.map (Value.int .i64))) (hm : m.ok) (ha : ¬ alikeP t p) :
 Calls Tryz.prog 8 #[.agg #[.int .i64 t.w, .int .i64 t.h, .slice at1 tn tc], .agg #[.int .i64 ref.w, .int .i64 ref.h, .slice a n c], .agg #[.int .i64 p.w, .int .i64 p.h, .slice b l d], .int .i64 x, .int .i64 y, .agg (ic m.zs), .int .i64 q, .int .i64 top] w fun e w' => e = .returned (.int .i64 (costP t ref p x y m q top)) ∧ Ext w w' := by
 have Htn := Lib.hid htn
 have Hn := Lib.hid hn
 have HL := Lib.hid hl
 have Hm := Lib.hid hm
 have Hl := Lib.hid (Mac.zs_len hm)
 have HA := Lib.hid (show decide (alikeP t p) = false from decide_eq_false ha)
 have HC := Lib.hid (show costP t ref p x y m q top = -1 from costP_no1 ha)
 clear htn hn hl hm ha
 have a2 := Ext.alloc (w.alloc (.cells #[.int .i64 t.w, .int .i64 t.h, .slice at1 tn tc] 25)) (.cells #[.int .i64 ref.w, .int .i64 ref.h, .slice a n c] 25)
 have a3 := Ext.alloc ((w.alloc (.cells #[.int .i64 t.w, .int .i64 t.h, .slice at1 tn tc] 25)).alloc (.cells #[.int .i64 ref.w, .int .i64 ref.h, .slice a n c] 25)) (.cells #[.int .i64 p.w, .int .i64 p.h, .slice b l d] 25)
 have a4 := Ext.alloc (((w.alloc (.cells #[.int .i64 t.w, .int .i64 t.h, .slice at1 tn tc] 25)).alloc (.cells #[.int .i64 ref.w, .int .i64 ref.h, .slice a n c] 25)).alloc (.cells #[.int .i64 p.w, .int .i64 p.h, .slice b l d] 25)) (.cells (ic m.zs) 32)
 have p0 := a4.blk (a3.blk (a2.blk (blk_new w (.cells #[.int .i64 t.w, .int .i64 t.h, .slice at1 tn tc] 25))))
 have p1 := a4.blk (a3.blk (blk_new (w.alloc (.cells #[.int .i64 t.w, .int .i64 t.h, .slice at1 tn tc] 25)) (.cells #[.int .i64 ref.w, .int .i64 ref.h, .slice a n c] 25)))
 have p2 := a4.blk (blk_new ((w.alloc (.cells #[.int .i64 t.w, .int .i64 t.h, .slice at1 tn tc] 25)).alloc (.cells #[.int .i64 ref.w, .int .i64 ref.h, .slice a n c] 25)) (.cells #[.int .i64 p.w, .int .i64 p.h, .slice b l d] 25))
 have p3 := IB.new (((w.alloc (.cells #[.int .i64 t.w, .int .i64 t.h, .slice at1 tn tc] 25)).alloc (.cells #[.int .i64 ref.w, .int .i64 ref.h, .slice a n c] 25)).alloc (.cells #[.int .i64 p.w, .int .i64 p.h, .slice b l d] 25)) 32 m.zs
 have E1 := (((Ext.alloc w (.cells #[.int .i64 t.w, .int .i64 t.h, .slice at1 tn tc] 25)).trans a2).trans a3).trans a4
 simp only [World.size_alloc] at p1 p2 p3
 clear a2 a3 a4
 obtain ⟨B, hB⟩ : ∃ B, B = w.heap.size := ⟨_, rfl⟩
 rw [← hB] at p0 p1 p2 p3
 have HB := Lib.hid hB
 go_enter Tryz.func8, Tryz.ntmps8
 go_upto_region 1 with fail
 try simp only [World.size_alloc]
 rw [← hB]
 clear hB
 generalize (((w.alloc (.cells #[.int .i64 t.w, .int .i64 t.h, .slice at1 tn tc] 25)).alloc (.cells #[.int .i64 ref.w, .int .i64 ref.h, .slice a n c] 25)).alloc (.cells #[.int .i64 p.w, .int .i64 p.h, .slice b l d] 25)).alloc (.cells (ic m.zs) 32) = w1 at *
 obtain ⟨-, i0, i1, i2, -⟩ := bx3 p0
 obtain ⟨-, j0, j1, j2, -⟩ := bx3 p2
 go_wp2_with fail
 refine (alike_at t p at1 b tc d tn l _ Htn.out HL.out tnc lc (rt.ext E1) (s.ext E1)).mono ?_
 rw [HA.out]
 rintro e w2 ⟨rfl, e2⟩
 have r0 := e2.blk p0
 have r1 := e2.blk p1
 have r2 := e2.blk p2
 have r3 := p3.ext e2
 have E2 := E1.trans e2
 clear p0 p1 p2 p3 E1 e2 i0 i1 i2 j0 j1 j2
 go_wp2
 go_ret
 exact ⟨ret_int (by rw [HC.out]), E2⟩
set_option maxRecDepth 100000 in
theorem impl_MacroCost_1 (t ref p : Pic) (x y : Int) (m : Mac) (q top : Int) (at1 a b : Option Addr) (tc c d tn n l : Nat) (w : World) (hT : TabQ w) (htn : tn = t.px.length) (hn : n = ref.px.length) (hl : l = p.px.length) (tnc : tn ≤ 9223372036854775807) (nc : n ≤ 9223372036854775807) (lc : l ≤ 9223372036854775807) (rt : Sl w at1 tn (t.px.map (Value.int .i64))) (r : Sl w a n (ref.px.map (Value.int .i64))) (s : Sl w b l (p.px.map (Value.int .i64))) (hm : m.ok) (ha : alikeP t p) (ho : ¬ okR ref p x y m q top) :
 Calls Tryz.prog 8 #[.agg #[.int .i64 t.w, .int .i64 t.h, .slice at1 tn tc], .agg #[.int .i64 ref.w, .int .i64 ref.h, .slice a n c], .agg #[.int .i64 p.w, .int .i64 p.h, .slice b l d], .int .i64 x, .int .i64 y, .agg (ic m.zs), .int .i64 q, .int .i64 top] w fun e w' => e = .returned (.int .i64 (costP t ref p x y m q top)) ∧ Ext w w' := by
 have Htn := Lib.hid htn
 have Hn := Lib.hid hn
 have HL := Lib.hid hl
 have Hm := Lib.hid hm
 have Hl := Lib.hid (Mac.zs_len hm)
 have HA := Lib.hid (show decide (alikeP t p) = true from decide_eq_true ha)
 have HO := Lib.hid (show decide (okR ref p x y m q top) = false from decide_eq_false ho)
 have HC := Lib.hid (show costP t ref p x y m q top = -1 from costP_no2 ho)
 clear htn hn hl hm ha ho
 have a2 := Ext.alloc (w.alloc (.cells #[.int .i64 t.w, .int .i64 t.h, .slice at1 tn tc] 25)) (.cells #[.int .i64 ref.w, .int .i64 ref.h, .slice a n c] 25)
 have a3 := Ext.alloc ((w.alloc (.cells #[.int .i64 t.w, .int .i64 t.h, .slice at1 tn tc] 25)).alloc (.cells #[.int .i64 ref.w, .int .i64 ref.h, .slice a n c] 25)) (.cells #[.int .i64 p.w, .int .i64 p.h, .slice b l d] 25)
 have a4 := Ext.alloc (((w.alloc (.cells #[.int .i64 t.w, .int .i64 t.h, .slice at1 tn tc] 25)).alloc (.cells #[.int .i64 ref.w, .int .i64 ref.h, .slice a n c] 25)).alloc (.cells #[.int .i64 p.w, .int .i64 p.h, .slice b l d] 25)) (.cells (ic m.zs) 32)
 have p0 := a4.blk (a3.blk (a2.blk (blk_new w (.cells #[.int .i64 t.w, .int .i64 t.h, .slice at1 tn tc] 25))))
 have p1 := a4.blk (a3.blk (blk_new (w.alloc (.cells #[.int .i64 t.w, .int .i64 t.h, .slice at1 tn tc] 25)) (.cells #[.int .i64 ref.w, .int .i64 ref.h, .slice a n c] 25)))
 have p2 := a4.blk (blk_new ((w.alloc (.cells #[.int .i64 t.w, .int .i64 t.h, .slice at1 tn tc] 25)).alloc (.cells #[.int .i64 ref.w, .int .i64 ref.h, .slice a n c] 25)) (.cells #[.int .i64 p.w, .int .i64 p.h, .slice b l d] 25))
 have p3 := IB.new (((w.alloc (.cells #[.int .i64 t.w, .int .i64 t.h, .slice at1 tn tc] 25)).alloc (.cells #[.int .i64 ref.w, .int .i64 ref.h, .slice a n c] 25)).alloc (.cells #[.int .i64 p.w, .int .i64 p.h, .slice b l d] 25)) 32 m.zs
 have E1 := (((Ext.alloc w (.cells #[.int .i64 t.w, .int .i64 t.h, .slice at1 tn tc] 25)).trans a2).trans a3).trans a4
 simp only [World.size_alloc] at p1 p2 p3
 clear a2 a3 a4
 obtain ⟨B, hB⟩ : ∃ B, B = w.heap.size := ⟨_, rfl⟩
 rw [← hB] at p0 p1 p2 p3
 have HB := Lib.hid hB
 go_enter Tryz.func8, Tryz.ntmps8
 go_upto_region 1 with fail
 try simp only [World.size_alloc]
 rw [← hB]
 clear hB
 generalize (((w.alloc (.cells #[.int .i64 t.w, .int .i64 t.h, .slice at1 tn tc] 25)).alloc (.cells #[.int .i64 ref.w, .int .i64 ref.h, .slice a n c] 25)).alloc (.cells #[.int .i64 p.w, .int .i64 p.h, .slice b l d] 25)).alloc (.cells (ic m.zs) 32) = w1 at *
 obtain ⟨-, i0, i1, i2, -⟩ := bx3 p0
 obtain ⟨-, j0, j1, j2, -⟩ := bx3 p2
 go_wp2_with fail
 refine (alike_at t p at1 b tc d tn l _ Htn.out HL.out tnc lc (rt.ext E1) (s.ext E1)).mono ?_
 rw [HA.out]
 rintro e w2 ⟨rfl, e2⟩
 have r0 := e2.blk p0
 have r1 := e2.blk p1
 have r2 := e2.blk p2
 have r3 := p3.ext e2
 have E2 := E1.trans e2
 clear p0 p1 p2 p3 E1 e2 i0 i1 i2 j0 j1 j2
 obtain ⟨-, i0, i1, i2, -⟩ := bx3 r1
 obtain ⟨-, j0, j1, j2, -⟩ := bx3 r2
 go_wp2_with (refine wpList_iload 32 _ rfl rfl r3 0 71 rfl _ Tryz.underlying32 rfl size_Macro (by rw [Hl.out]; omega) _ (by rw [sub_all _ _ Hl.out]) ?_)
 refine (reconstructs_any ref p x y m q top a b c d n l _ Hn.out HL.out nc lc (r.ext E2) (s.ext E2) Hm.out).mono ?_
 rw [HO.out]
 rintro e w3 ⟨rfl, e3⟩
 have z0 := e3.blk r0
 have z1 := e3.blk r1
 have z2 := e3.blk r2
 have z3 := r3.ext e3
 have E3 := E2.trans e3
 clear r0 r1 r2 r3 E2 e3 i0 i1 i2 j0 j1 j2
 go_wp2
 go_ret
 exact ⟨ret_int (by rw [HC.out]), E3⟩
set_option maxRecDepth 100000 in
theorem impl_MacroCost_2 (t ref p : Pic) (x y : Int) (m : Mac) (q top : Int) (at1 a b : Option Addr) (tc c d tn n l : Nat) (w : World) (hT : TabQ w) (htn : tn = t.px.length) (hn : n = ref.px.length) (hl : l = p.px.length) (tnc : tn ≤ 9223372036854775807) (nc : n ≤ 9223372036854775807) (lc : l ≤ 9223372036854775807) (rt : Sl w at1 tn (t.px.map (Value.int .i64))) (r : Sl w a n (ref.px.map (Value.int .i64))) (s : Sl w b l (p.px.map (Value.int .i64))) (hm : m.ok) (ha : alikeP t p) (ho : okR ref p x y m q top) :
 Calls Tryz.prog 8 #[.agg #[.int .i64 t.w, .int .i64 t.h, .slice at1 tn tc], .agg #[.int .i64 ref.w, .int .i64 ref.h, .slice a n c], .agg #[.int .i64 p.w, .int .i64 p.h, .slice b l d], .int .i64 x, .int .i64 y, .agg (ic m.zs), .int .i64 q, .int .i64 top] w fun e w' => e = .returned (.int .i64 (costP t ref p x y m q top)) ∧ Ext w w' := by
 have Htn := Lib.hid htn
 have Hn := Lib.hid hn
 have HL := Lib.hid hl
 have Hm := Lib.hid hm
 have Hl := Lib.hid (Mac.zs_len hm)
 have HA := Lib.hid (show decide (alikeP t p) = true from decide_eq_true ha)
 have HO := Lib.hid (show decide (okR ref p x y m q top) = true from decide_eq_true ho)
 have HC := Lib.hid (show costP t ref p x y m q top = _ from costP_yes ha ho)
 have Hav := Lib.hid ha
 have Hok := Lib.hid ho
 clear htn hn hl hm ha ho
 have a2 := Ext.alloc (w.alloc (.cells #[.int .i64 t.w, .int .i64 t.h, .slice at1 tn tc] 25)) (.cells #[.int .i64 ref.w, .int .i64 ref.h, .slice a n c] 25)
 have a3 := Ext.alloc ((w.alloc (.cells #[.int .i64 t.w, .int .i64 t.h, .slice at1 tn tc] 25)).alloc (.cells #[.int .i64 ref.w, .int .i64 ref.h, .slice a n c] 25)) (.cells #[.int .i64 p.w, .int .i64 p.h, .slice b l d] 25)
 have a4 := Ext.alloc (((w.alloc (.cells #[.int .i64 t.w, .int .i64 t.h, .slice at1 tn tc] 25)).alloc (.cells #[.int .i64 ref.w, .int .i64 ref.h, .slice a n c] 25)).alloc (.cells #[.int .i64 p.w, .int .i64 p.h, .slice b l d] 25)) (.cells (ic m.zs) 32)
 have p0 := a4.blk (a3.blk (a2.blk (blk_new w (.cells #[.int .i64 t.w, .int .i64 t.h, .slice at1 tn tc] 25))))
 have p1 := a4.blk (a3.blk (blk_new (w.alloc (.cells #[.int .i64 t.w, .int .i64 t.h, .slice at1 tn tc] 25)) (.cells #[.int .i64 ref.w, .int .i64 ref.h, .slice a n c] 25)))
 have p2 := a4.blk (blk_new ((w.alloc (.cells #[.int .i64 t.w, .int .i64 t.h, .slice at1 tn tc] 25)).alloc (.cells #[.int .i64 ref.w, .int .i64 ref.h, .slice a n c] 25)) (.cells #[.int .i64 p.w, .int .i64 p.h, .slice b l d] 25))
 have p3 := IB.new (((w.alloc (.cells #[.int .i64 t.w, .int .i64 t.h, .slice at1 tn tc] 25)).alloc (.cells #[.int .i64 ref.w, .int .i64 ref.h, .slice a n c] 25)).alloc (.cells #[.int .i64 p.w, .int .i64 p.h, .slice b l d] 25)) 32 m.zs
 have E1 := (((Ext.alloc w (.cells #[.int .i64 t.w, .int .i64 t.h, .slice at1 tn tc] 25)).trans a2).trans a3).trans a4
 simp only [World.size_alloc] at p1 p2 p3
 clear a2 a3 a4
 obtain ⟨B, hB⟩ : ∃ B, B = w.heap.size := ⟨_, rfl⟩
 rw [← hB] at p0 p1 p2 p3
 have HB := Lib.hid hB
 go_enter Tryz.func8, Tryz.ntmps8
 go_upto_region 1 with fail
 try simp only [World.size_alloc]
 rw [← hB]
 clear hB
 generalize (((w.alloc (.cells #[.int .i64 t.w, .int .i64 t.h, .slice at1 tn tc] 25)).alloc (.cells #[.int .i64 ref.w, .int .i64 ref.h, .slice a n c] 25)).alloc (.cells #[.int .i64 p.w, .int .i64 p.h, .slice b l d] 25)).alloc (.cells (ic m.zs) 32) = w1 at *
 obtain ⟨-, i0, i1, i2, -⟩ := bx3 p0
 obtain ⟨-, j0, j1, j2, -⟩ := bx3 p2
 go_wp2_with fail
 refine (alike_at t p at1 b tc d tn l _ Htn.out HL.out tnc lc (rt.ext E1) (s.ext E1)).mono ?_
 rw [HA.out]
 rintro e w2 ⟨rfl, e2⟩
 have r0 := e2.blk p0
 have r1 := e2.blk p1
 have r2 := e2.blk p2
 have r3 := p3.ext e2
 have E2 := E1.trans e2
 clear p0 p1 p2 p3 E1 e2 i0 i1 i2 j0 j1 j2
 obtain ⟨-, i0, i1, i2, -⟩ := bx3 r1
 obtain ⟨-, j0, j1, j2, -⟩ := bx3 r2
 go_wp2_with (refine wpList_iload 32 _ rfl rfl r3 0 71 rfl _ Tryz.underlying32 rfl size_Macro (by rw [Hl.out]; omega) _ (by rw [sub_all _ _ Hl.out]) ?_)
 refine (reconstructs_any ref p x y m q top a b c d n l _ Hn.out HL.out nc lc (r.ext E2) (s.ext E2) Hm.out).mono ?_
 rw [HO.out]
 rintro e w3 ⟨rfl, e3⟩
 have z0 := e3.blk r0
 have z1 := e3.blk r1
 have z2 := e3.blk r2
 have z3 := r3.ext e3
 have E3 := E2.trans e3
 clear r0 r1 r2 r3 E2 e3 i0 i1 i2 j0 j1 j2
 obtain ⟨-, i0, i1, i2, -⟩ := bx3 z0
 obtain ⟨-, j0, j1, j2, -⟩ := bx3 z1
 obtain ⟨-, k0, k1, k2, -⟩ := bx3 z2
 go_wp2_with (refine wpList_iload 32 _ rfl rfl z3 0 71 rfl _ Tryz.underlying32 rfl size_Macro (by rw [Hl.out]; omega) _ (by rw [sub_all _ _ Hl.out]) ?_)
 have hc : Calls Tryz.prog 40 #[.agg #[.int .i64 t.w, .int .i64 t.h, .slice at1 tn tc], .agg #[.int .i64 ref.w, .int .i64 ref.h, .slice a n c], .agg #[.int .i64 p.w, .int .i64 p.h, .slice b l d], .int .i64 x, .int .i64 y, .agg (ic m.zs), .int .i64 q, .int .i64 top] w3 fun e w' => e = .returned (.int .i64 (costP t ref p x y m q top)) ∧ Ext w3 w' := by
  rw [HC.out]
  clear HC HA HO
  have ho := Hok.out
  have ha := Hav.out
  have hl := HL.out
  have s' := s.ext E3
  clear Hok Hav HL s z0 z1 z2 z3 i0 i1 i2 j0 j1 j2 k0 k1 k2
  obtain ⟨W, hW⟩ : ∃ W : Nat, p.w = W := ⟨p.w.toNat, by have := ho.1.1.1.1; omega⟩
  obtain ⟨H, hH⟩ : ∃ H : Nat, p.h = H := ⟨p.h.toNat, by have := ho.1.1.2.1.1; omega⟩
  obtain ⟨pw, ph, px⟩ := p
  simp only at hW hH hl s' ho ⊢
  subst hW hH
  have x0 := ho.1.2.1
  have y0 := ho.1.2.2.2.2.1
  have q0 := ho.2.2.1.1
  have h2 := impl_cost_in t ref W H x.toNat y.toNat px m q.toNat top at1 a b tc c d tn n l w3 (hT.ext E3) Htn.out Hn.out hl nc (rt.ext E3) (r.ext E3) s' Hm.out ha.1 (by rw [show ((x.toNat : Nat) : Int) = x by omega, show ((y.toNat : Nat) : Int) = y by omega, show ((q.toNat : Nat) : Int) = q by omega]; exact ho)
  rw [show ((x.toNat : Nat) : Int) = x by omega, show ((y.toNat : Nat) : Int) = y by omega, show ((q.toNat : Nat) : Int) = q by omega] at h2
  exact h2
 refine hc.mono ?_
 rintro e w4 ⟨rfl, e4⟩
 clear hc
 have E4 := E3.trans e4
 obtain ⟨C, hC⟩ : ∃ C, C = costP t ref p x y m q top := ⟨_, rfl⟩
 rw [← hC]
 have HC2 := Lib.hid hC
 clear hC
 go_wp2
 go_ret
 exact ⟨ret_int HC2.out, E4⟩
theorem impl_MacroCost_any (t ref p : Pic) (x y : Int) (m : Mac) (q top : Int) (at1 a b : Option Addr) (tc c d tn n l : Nat) (w : World) (hT : TabQ w) (htn : tn = t.px.length) (hn : n = ref.px.length) (hl : l = p.px.length) (tnc : tn ≤ 9223372036854775807) (nc : n ≤ 9223372036854775807) (lc : l ≤ 9223372036854775807) (rt : Sl w at1 tn (t.px.map (Value.int .i64))) (r : Sl w a n (ref.px.map (Value.int .i64))) (s : Sl w b l (p.px.map (Value.int .i64))) (hm : m.ok) :
 Calls Tryz.prog 8 #[.agg #[.int .i64 t.w, .int .i64 t.h, .slice at1 tn tc], .agg #[.int .i64 ref.w, .int .i64 ref.h, .slice a n c], .agg #[.int .i64 p.w, .int .i64 p.h, .slice b l d], .int .i64 x, .int .i64 y, .agg (ic m.zs), .int .i64 q, .int .i64 top] w fun e w' => e = .returned (.int .i64 (costP t ref p x y m q top)) ∧ Ext w w' := by
 by_cases ha : alikeP t p
 ·by_cases ho : okR ref p x y m q top
  ·exact impl_MacroCost_2 t ref p x y m q top at1 a b tc c d tn n l w hT htn hn hl tnc nc lc rt r s hm ha ho
  ·exact impl_MacroCost_1 t ref p x y m q top at1 a b tc c d tn n l w hT htn hn hl tnc nc lc rt r s hm ha ho
 ·exact impl_MacroCost_0 t ref p x y m q top at1 a b tc c d tn n l w hT htn hn hl tnc nc lc rt r s hm ha
set_option maxRecDepth 100000 in
theorem spec_MacroCost_0 (t ref p : Pic) (x y : Int) (m : Mac) (q top : Int) (at1 a b : Option Addr) (tc c d tn n l : Nat) (w : World) (htn : tn = t.px.length) (hn : n = ref.px.length) (hl : l = p.px.length) (tnc : tn ≤ 9223372036854775807) (nc : n ≤ 9223372036854775807) (lc : l ≤ 9223372036854775807) (rt : Sl w at1 tn (t.px.map (Value.int .i64))) (r : Sl w a n (ref.px.map (Value.int .i64))) (s : Sl w b l (p.px.map (Value.int .i64))) (hm : m.ok) (ha : ¬ alikeP t p) :
 Calls Tryz.prog 9 #[.agg #[.int .i64 t.w, .int .i64 t.h, .slice at1 tn tc], .agg #[.int .i64 ref.w, .int .i64 ref.h, .slice a n c], .agg #[.int .i64 p.w, .int .i64 p.h, .slice b l d], .int .i64 x, .int .i64 y, .agg (ic m.zs), .int .i64 q, .int .i64 top] w fun e w' => e = .returned (.int .i64 (costP t ref p x y m q top)) ∧ Ext w w' := by
 have Htn := Lib.hid htn
 have Hn := Lib.hid hn
 have HL := Lib.hid hl
 have Hm := Lib.hid hm
 have Hl := Lib.hid (Mac.zs_len hm)
 have HA := Lib.hid (show decide (alikeP t p) = false from decide_eq_false ha)
 have HC := Lib.hid (show costP t ref p x y m q top = -1 from costP_no1 ha)
 clear htn hn hl hm ha
 have a2 := Ext.alloc (w.alloc (.cells #[.int .i64 t.w, .int .i64 t.h, .slice at1 tn tc] 25)) (.cells #[.int .i64 ref.w, .int .i64 ref.h, .slice a n c] 25)
 have a3 := Ext.alloc ((w.alloc (.cells #[.int .i64 t.w, .int .i64 t.h, .slice at1 tn tc] 25)).alloc (.cells #[.int .i64 ref.w, .int .i64 ref.h, .slice a n c] 25)) (.cells #[.int .i64 p.w, .int .i64 p.h, .slice b l d] 25)
 have a4 := Ext.alloc (((w.alloc (.cells #[.int .i64 t.w, .int .i64 t.h, .slice at1 tn tc] 25)).alloc (.cells #[.int .i64 ref.w, .int .i64 ref.h, .slice a n c] 25)).alloc (.cells #[.int .i64 p.w, .int .i64 p.h, .slice b l d] 25)) (.cells (ic m.zs) 32)
 have p0 := a4.blk (a3.blk (a2.blk (blk_new w (.cells #[.int .i64 t.w, .int .i64 t.h, .slice at1 tn tc] 25))))
 have p1 := a4.blk (a3.blk (blk_new (w.alloc (.cells #[.int .i64 t.w, .int .i64 t.h, .slice at1 tn tc] 25)) (.cells #[.int .i64 ref.w, .int .i64 ref.h, .slice a n c] 25)))
 have p2 := a4.blk (blk_new ((w.alloc (.cells #[.int .i64 t.w, .int .i64 t.h, .slice at1 tn tc] 25)).alloc (.cells #[.int .i64 ref.w, .int .i64 ref.h, .slice a n c] 25)) (.cells #[.int .i64 p.w, .int .i64 p.h, .slice b l d] 25))
 have p3 := IB.new (((w.alloc (.cells #[.int .i64 t.w, .int .i64 t.h, .slice at1 tn tc] 25)).alloc (.cells #[.int .i64 ref.w, .int .i64 ref.h, .slice a n c] 25)).alloc (.cells #[.int .i64 p.w, .int .i64 p.h, .slice b l d] 25)) 32 m.zs
 have E1 := (((Ext.alloc w (.cells #[.int .i64 t.w, .int .i64 t.h, .slice at1 tn tc] 25)).trans a2).trans a3).trans a4
 simp only [World.size_alloc] at p1 p2 p3
 clear a2 a3 a4
 obtain ⟨B, hB⟩ : ∃ B, B = w.heap.size := ⟨_, rfl⟩
 rw [← hB] at p0 p1 p2 p3
 have HB := Lib.hid hB
 go_enter Tryz.func9, Tryz.ntmps9
 go_upto_region 1 with fail
 try simp only [World.size_alloc]
 rw [← hB]
 clear hB
 generalize (((w.alloc (.cells #[.int .i64 t.w, .int .i64 t.h, .slice at1 tn tc] 25)).alloc (.cells #[.int .i64 ref.w, .int .i64 ref.h, .slice a n c] 25)).alloc (.cells #[.int .i64 p.w, .int .i64 p.h, .slice b l d] 25)).alloc (.cells (ic m.zs) 32) = w1 at *
 obtain ⟨-, i0, i1, i2, -⟩ := bx3 p0
 obtain ⟨-, j0, j1, j2, -⟩ := bx3 p2
 go_wp2_with fail
 refine (l1Same_at t p at1 b tc d tn l _ Htn.out HL.out tnc lc (rt.ext E1) (s.ext E1)).mono ?_
 rw [HA.out]
 rintro e w2 ⟨rfl, e2⟩
 have r0 := e2.blk p0
 have r1 := e2.blk p1
 have r2 := e2.blk p2
 have r3 := p3.ext e2
 have E2 := E1.trans e2
 clear p0 p1 p2 p3 E1 e2 i0 i1 i2 j0 j1 j2
 go_wp2
 go_ret
 exact ⟨ret_int (by rw [HC.out]), E2⟩
set_option maxRecDepth 100000 in
theorem spec_MacroCost_1 (t ref p : Pic) (x y : Int) (m : Mac) (q top : Int) (at1 a b : Option Addr) (tc c d tn n l : Nat) (w : World) (htn : tn = t.px.length) (hn : n = ref.px.length) (hl : l = p.px.length) (tnc : tn ≤ 9223372036854775807) (nc : n ≤ 9223372036854775807) (lc : l ≤ 9223372036854775807) (rt : Sl w at1 tn (t.px.map (Value.int .i64))) (r : Sl w a n (ref.px.map (Value.int .i64))) (s : Sl w b l (p.px.map (Value.int .i64))) (hm : m.ok) (ha : alikeP t p) (ho : ¬ okR ref p x y m q top) :
 Calls Tryz.prog 9 #[.agg #[.int .i64 t.w, .int .i64 t.h, .slice at1 tn tc], .agg #[.int .i64 ref.w, .int .i64 ref.h, .slice a n c], .agg #[.int .i64 p.w, .int .i64 p.h, .slice b l d], .int .i64 x, .int .i64 y, .agg (ic m.zs), .int .i64 q, .int .i64 top] w fun e w' => e = .returned (.int .i64 (costP t ref p x y m q top)) ∧ Ext w w' := by
 have Htn := Lib.hid htn
 have Hn := Lib.hid hn
 have HL := Lib.hid hl
 have Hm := Lib.hid hm
 have Hl := Lib.hid (Mac.zs_len hm)
 have HA := Lib.hid (show decide (alikeP t p) = true from decide_eq_true ha)
 have HO := Lib.hid (show decide (okR ref p x y m q top) = false from decide_eq_false ho)
 have HC := Lib.hid (show costP t ref p x y m q top = -1 from costP_no2 ho)
 clear htn hn hl hm ha ho
 have a2 := Ext.alloc (w.alloc (.cells #[.int .i64 t.w, .int .i64 t.h, .slice at1 tn tc] 25)) (.cells #[.int .i64 ref.w, .int .i64 ref.h, .slice a n c] 25)
 have a3 := Ext.alloc ((w.alloc (.cells #[.int .i64 t.w, .int .i64 t.h, .slice at1 tn tc] 25)).alloc (.cells #[.int .i64 ref.w, .int .i64 ref.h, .slice a n c] 25)) (.cells #[.int .i64 p.w, .int .i64 p.h, .slice b l d] 25)
 have a4 := Ext.alloc (((w.alloc (.cells #[.int .i64 t.w, .int .i64 t.h, .slice at1 tn tc] 25)).alloc (.cells #[.int .i64 ref.w, .int .i64 ref.h, .slice a n c] 25)).alloc (.cells #[.int .i64 p.w, .int .i64 p.h, .slice b l d] 25)) (.cells (ic m.zs) 32)
 have p0 := a4.blk (a3.blk (a2.blk (blk_new w (.cells #[.int .i64 t.w, .int .i64 t.h, .slice at1 tn tc] 25))))
 have p1 := a4.blk (a3.blk (blk_new (w.alloc (.cells #[.int .i64 t.w, .int .i64 t.h, .slice at1 tn tc] 25)) (.cells #[.int .i64 ref.w, .int .i64 ref.h, .slice a n c] 25)))
 have p2 := a4.blk (blk_new ((w.alloc (.cells #[.int .i64 t.w, .int .i64 t.h, .slice at1 tn tc] 25)).alloc (.cells #[.int .i64 ref.w, .int .i64 ref.h, .slice a n c] 25)) (.cells #[.int .i64 p.w, .int .i64 p.h, .slice b l d] 25))
 have p3 := IB.new (((w.alloc (.cells #[.int .i64 t.w, .int .i64 t.h, .slice at1 tn tc] 25)).alloc (.cells #[.int .i64 ref.w, .int .i64 ref.h, .slice a n c] 25)).alloc (.cells #[.int .i64 p.w, .int .i64 p.h, .slice b l d] 25)) 32 m.zs
 have E1 := (((Ext.alloc w (.cells #[.int .i64 t.w, .int .i64 t.h, .slice at1 tn tc] 25)).trans a2).trans a3).trans a4
 simp only [World.size_alloc] at p1 p2 p3
 clear a2 a3 a4
 obtain ⟨B, hB⟩ : ∃ B, B = w.heap.size := ⟨_, rfl⟩
 rw [← hB] at p0 p1 p2 p3
 have HB := Lib.hid hB
 go_enter Tryz.func9, Tryz.ntmps9
 go_upto_region 1 with fail
 try simp only [World.size_alloc]
 rw [← hB]
 clear hB
 generalize (((w.alloc (.cells #[.int .i64 t.w, .int .i64 t.h, .slice at1 tn tc] 25)).alloc (.cells #[.int .i64 ref.w, .int .i64 ref.h, .slice a n c] 25)).alloc (.cells #[.int .i64 p.w, .int .i64 p.h, .slice b l d] 25)).alloc (.cells (ic m.zs) 32) = w1 at *
 obtain ⟨-, i0, i1, i2, -⟩ := bx3 p0
 obtain ⟨-, j0, j1, j2, -⟩ := bx3 p2
 go_wp2_with fail
 refine (l1Same_at t p at1 b tc d tn l _ Htn.out HL.out tnc lc (rt.ext E1) (s.ext E1)).mono ?_
 rw [HA.out]
 rintro e w2 ⟨rfl, e2⟩
 have r0 := e2.blk p0
 have r1 := e2.blk p1
 have r2 := e2.blk p2
 have r3 := p3.ext e2
 have E2 := E1.trans e2
 clear p0 p1 p2 p3 E1 e2 i0 i1 i2 j0 j1 j2
 obtain ⟨-, i0, i1, i2, -⟩ := bx3 r1
 obtain ⟨-, j0, j1, j2, -⟩ := bx3 r2
 go_wp2_with (refine wpList_iload 32 _ rfl rfl r3 0 71 rfl _ Tryz.underlying32 rfl size_Macro (by rw [Hl.out]; omega) _ (by rw [sub_all _ _ Hl.out]) ?_)
 refine (l8Ok_any ref p x y m q top a b c d n l _ Hn.out HL.out nc lc (r.ext E2) (s.ext E2) Hm.out).mono ?_
 rw [HO.out]
 rintro e w3 ⟨rfl, e3⟩
 have z0 := e3.blk r0
 have z1 := e3.blk r1
 have z2 := e3.blk r2
 have z3 := r3.ext e3
 have E3 := E2.trans e3
 clear r0 r1 r2 r3 E2 e3 i0 i1 i2 j0 j1 j2
 go_wp2
 go_ret
 exact ⟨ret_int (by rw [HC.out]), E3⟩
set_option maxRecDepth 100000 in
theorem spec_MacroCost_2 (t ref p : Pic) (x y : Int) (m : Mac) (q top : Int) (at1 a b : Option Addr) (tc c d tn n l : Nat) (w : World) (htn : tn = t.px.length) (hn : n = ref.px.length) (hl : l = p.px.length) (tnc : tn ≤ 9223372036854775807) (nc : n ≤ 9223372036854775807) (lc : l ≤ 9223372036854775807) (rt : Sl w at1 tn (t.px.map (Value.int .i64))) (r : Sl w a n (ref.px.map (Value.int .i64))) (s : Sl w b l (p.px.map (Value.int .i64))) (hm : m.ok) (ha : alikeP t p) (ho : okR ref p x y m q top) :
 Calls Tryz.prog 9 #[.agg #[.int .i64 t.w, .int .i64 t.h, .slice at1 tn tc], .agg #[.int .i64 ref.w, .int .i64 ref.h, .slice a n c], .agg #[.int .i64 p.w, .int .i64 p.h, .slice b l d], .int .i64 x, .int .i64 y, .agg (ic m.zs), .int .i64 q, .int .i64 top] w fun e w' => e = .returned (.int .i64 (costP t ref p x y m q top)) ∧ Ext w w' := by
 have Htn := Lib.hid htn
 have Hn := Lib.hid hn
 have HL := Lib.hid hl
 have Hm := Lib.hid hm
 have Hl := Lib.hid (Mac.zs_len hm)
 have HA := Lib.hid (show decide (alikeP t p) = true from decide_eq_true ha)
 have HO := Lib.hid (show decide (okR ref p x y m q top) = true from decide_eq_true ho)
 have HC := Lib.hid (show costP t ref p x y m q top = _ from costP_yes ha ho)
 have Hav := Lib.hid ha
 have Hok := Lib.hid ho
 clear htn hn hl hm ha ho
 have a2 := Ext.alloc (w.alloc (.cells #[.int .i64 t.w, .int .i64 t.h, .slice at1 tn tc] 25)) (.cells #[.int .i64 ref.w, .int .i64 ref.h, .slice a n c] 25)
 have a3 := Ext.alloc ((w.alloc (.cells #[.int .i64 t.w, .int .i64 t.h, .slice at1 tn tc] 25)).alloc (.cells #[.int .i64 ref.w, .int .i64 ref.h, .slice a n c] 25)) (.cells #[.int .i64 p.w, .int .i64 p.h, .slice b l d] 25)
 have a4 := Ext.alloc (((w.alloc (.cells #[.int .i64 t.w, .int .i64 t.h, .slice at1 tn tc] 25)).alloc (.cells #[.int .i64 ref.w, .int .i64 ref.h, .slice a n c] 25)).alloc (.cells #[.int .i64 p.w, .int .i64 p.h, .slice b l d] 25)) (.cells (ic m.zs) 32)
 have p0 := a4.blk (a3.blk (a2.blk (blk_new w (.cells #[.int .i64 t.w, .int .i64 t.h, .slice at1 tn tc] 25))))
 have p1 := a4.blk (a3.blk (blk_new (w.alloc (.cells #[.int .i64 t.w, .int .i64 t.h, .slice at1 tn tc] 25)) (.cells #[.int .i64 ref.w, .int .i64 ref.h, .slice a n c] 25)))
 have p2 := a4.blk (blk_new ((w.alloc (.cells #[.int .i64 t.w, .int .i64 t.h, .slice at1 tn tc] 25)).alloc (.cells #[.int .i64 ref.w, .int .i64 ref.h, .slice a n c] 25)) (.cells #[.int .i64 p.w, .int .i64 p.h, .slice b l d] 25))
 have p3 := IB.new (((w.alloc (.cells #[.int .i64 t.w, .int .i64 t.h, .slice at1 tn tc] 25)).alloc (.cells #[.int .i64 ref.w, .int .i64 ref.h, .slice a n c] 25)).alloc (.cells #[.int .i64 p.w, .int .i64 p.h, .slice b l d] 25)) 32 m.zs
 have E1 := (((Ext.alloc w (.cells #[.int .i64 t.w, .int .i64 t.h, .slice at1 tn tc] 25)).trans a2).trans a3).trans a4
 simp only [World.size_alloc] at p1 p2 p3
 clear a2 a3 a4
 obtain ⟨B, hB⟩ : ∃ B, B = w.heap.size := ⟨_, rfl⟩
 rw [← hB] at p0 p1 p2 p3
 have HB := Lib.hid hB
 go_enter Tryz.func9, Tryz.ntmps9
 go_upto_region 1 with fail
 try simp only [World.size_alloc]
 rw [← hB]
 clear hB
 generalize (((w.alloc (.cells #[.int .i64 t.w, .int .i64 t.h, .slice at1 tn tc] 25)).alloc (.cells #[.int .i64 ref.w, .int .i64 ref.h, .slice a n c] 25)).alloc (.cells #[.int .i64 p.w, .int .i64 p.h, .slice b l d] 25)).alloc (.cells (ic m.zs) 32) = w1 at *
 obtain ⟨-, i0, i1, i2, -⟩ := bx3 p0
 obtain ⟨-, j0, j1, j2, -⟩ := bx3 p2
 go_wp2_with fail
 refine (l1Same_at t p at1 b tc d tn l _ Htn.out HL.out tnc lc (rt.ext E1) (s.ext E1)).mono ?_
 rw [HA.out]
 rintro e w2 ⟨rfl, e2⟩
 have r0 := e2.blk p0
 have r1 := e2.blk p1
 have r2 := e2.blk p2
 have r3 := p3.ext e2
 have E2 := E1.trans e2
 clear p0 p1 p2 p3 E1 e2 i0 i1 i2 j0 j1 j2
 obtain ⟨-, i0, i1, i2, -⟩ := bx3 r1
 obtain ⟨-, j0, j1, j2, -⟩ := bx3 r2
 go_wp2_with (refine wpList_iload 32 _ rfl rfl r3 0 71 rfl _ Tryz.underlying32 rfl size_Macro (by rw [Hl.out]; omega) _ (by rw [sub_all _ _ Hl.out]) ?_)
 refine (l8Ok_any ref p x y m q top a b c d n l _ Hn.out HL.out nc lc (r.ext E2) (s.ext E2) Hm.out).mono ?_
 rw [HO.out]
 rintro e w3 ⟨rfl, e3⟩
 have z0 := e3.blk r0
 have z1 := e3.blk r1
 have z2 := e3.blk r2
 have z3 := r3.ext e3
 have E3 := E2.trans e3
 clear r0 r1 r2 r3 E2 e3 i0 i1 i2 j0 j1 j2
 obtain ⟨-, i0, i1, i2, -⟩ := bx3 z0
 obtain ⟨-, j0, j1, j2, -⟩ := bx3 z1
 obtain ⟨-, k0, k1, k2, -⟩ := bx3 z2
 go_wp2_with (refine wpList_iload 32 _ rfl rfl z3 0 71 rfl _ Tryz.underlying32 rfl size_Macro (by rw [Hl.out]; omega) _ (by rw [sub_all _ _ Hl.out]) ?_)
 have hc : Calls Tryz.prog 43 #[.agg #[.int .i64 t.w, .int .i64 t.h, .slice at1 tn tc], .agg #[.int .i64 ref.w, .int .i64 ref.h, .slice a n c], .agg #[.int .i64 p.w, .int .i64 p.h, .slice b l d], .int .i64 x, .int .i64 y, .agg (ic m.zs), .int .i64 q, .int .i64 top] w3 fun e w' => e = .returned (.int .i64 (costP t ref p x y m q top)) ∧ Ext w3 w' := by
  rw [HC.out]
  clear HC HA HO
  have ho := Hok.out
  have ha := Hav.out
  have hl := HL.out
  have s' := s.ext E3
  clear Hok Hav HL s z0 z1 z2 z3 i0 i1 i2 j0 j1 j2 k0 k1 k2
  obtain ⟨W, hW⟩ : ∃ W : Nat, p.w = W := ⟨p.w.toNat, by have := ho.1.1.1.1; omega⟩
  obtain ⟨H, hH⟩ : ∃ H : Nat, p.h = H := ⟨p.h.toNat, by have := ho.1.1.2.1.1; omega⟩
  obtain ⟨pw, ph, px⟩ := p
  simp only at hW hH hl s' ho ⊢
  subst hW hH
  have x0 := ho.1.2.1
  have y0 := ho.1.2.2.2.2.1
  have q0 := ho.2.2.1.1
  have h2 := spec_cost_in t ref W H x.toNat y.toNat px m q.toNat top at1 a b tc c d tn n l w3 Htn.out Hn.out hl nc (rt.ext E3) (r.ext E3) s' Hm.out ha.1 (by rw [show ((x.toNat : Nat) : Int) = x by omega, show ((y.toNat : Nat) : Int) = y by omega, show ((q.toNat : Nat) : Int) = q by omega]; exact ho)
  rw [show ((x.toNat : Nat) : Int) = x by omega, show ((y.toNat : Nat) : Int) = y by omega, show ((q.toNat : Nat) : Int) = q by omega] at h2
  exact h2
 refine hc.mono ?_
 rintro e w4 ⟨rfl, e4⟩
 clear hc
 have E4 := E3.trans e4
 obtain ⟨C, hC⟩ : ∃ C, C = costP t ref p x y m q top := ⟨_, rfl⟩
 rw [← hC]
 have HC2 := Lib.hid hC
 clear hC
 go_wp2
 go_ret
 exact ⟨ret_int HC2.out, E4⟩
theorem spec_MacroCost_any (t ref p : Pic) (x y : Int) (m : Mac) (q top : Int) (at1 a b : Option Addr) (tc c d tn n l : Nat) (w : World) (htn : tn = t.px.length) (hn : n = ref.px.length) (hl : l = p.px.length) (tnc : tn ≤ 9223372036854775807) (nc : n ≤ 9223372036854775807) (lc : l ≤ 9223372036854775807) (rt : Sl w at1 tn (t.px.map (Value.int .i64))) (r : Sl w a n (ref.px.map (Value.int .i64))) (s : Sl w b l (p.px.map (Value.int .i64))) (hm : m.ok) :
 Calls Tryz.prog 9 #[.agg #[.int .i64 t.w, .int .i64 t.h, .slice at1 tn tc], .agg #[.int .i64 ref.w, .int .i64 ref.h, .slice a n c], .agg #[.int .i64 p.w, .int .i64 p.h, .slice b l d], .int .i64 x, .int .i64 y, .agg (ic m.zs), .int .i64 q, .int .i64 top] w fun e w' => e = .returned (.int .i64 (costP t ref p x y m q top)) ∧ Ext w w' := by
 by_cases ha : alikeP t p
 ·by_cases ho : okR ref p x y m q top
  ·exact spec_MacroCost_2 t ref p x y m q top at1 a b tc c d tn n l w htn hn hl tnc nc lc rt r s hm ha ho
  ·exact spec_MacroCost_1 t ref p x y m q top at1 a b tc c d tn n l w htn hn hl tnc nc lc rt r s hm ha ho
 ·exact spec_MacroCost_0 t ref p x y m q top at1 a b tc c d tn n l w htn hn hl tnc nc lc rt r s hm ha
end Go.Proofs.YtbnhaegidfbgbaaGreatDoor
namespace Go.Proofs.YtbnhaegidfbgbaaGreatDoor
open Go.RowKit
set_option maxHeartbeats 1000000
/-- The levels of an inter macroblock, of the first k blocks. -/
def intL (t r : Pic) (x y : Nat) (vx vy : Int) (q : Nat) : Nat → List Int
 | 0 => zl 64
 | k + 1 => spl (intL t r x y vx vy q k) (k * 16) (cod (dif (prt t ((x + k % 2 * 4 : Nat) : Int) ((y + k / 2 * 4 : Nat) : Int)) (pof (blkL r x y vx vy) (k % 2 * 4) (k / 2 * 4))) q)
/-- The arguments of InterMacro are valid. -/
def okI (t r : Pic) (x y vx vy q : Int) : Prop := alikeP t r ∧ placeP t x y ∧ vv vx vy ∧ (0 ≤ q ∧ q ≤ 15)
noncomputable instance (t r : Pic) (x y vx vy q : Int) : Decidable (okI t r x y vx vy q) := Classical.propDecidable _
noncomputable def interP (t r : Pic) (x y vx vy q : Int) : Mac := if okI t r x y vx vy q then ⟨1, vx, vy, zero4, intL t r x.toNat y.toNat vx vy q.toNat 4⟩ else mac0
def macI (vx vy : Int) (L : List Int) : Mac := ⟨1, vx, vy, zero4, L⟩
end Go.Proofs.YtbnhaegidfbgbaaGreatDoor
namespace Go.Proofs.YtbnhaegidfbgbaaGreatDoor
open Go.RowKit
set_option maxHeartbeats 1000000
def absZ (n : Int) : Int := if n < 0 then -n else n
def sumA (c : List Int) (k : Nat) : Int := sumZ (fun i => absZ (nth c i)) k
def tcost (a b : List Int) : Int := sumA (had (dif a b)) 16 / 4
theorem IB.sl {w : World} {b T n : Nat} {zs : List Int} (h : IB w b T zs) (hl : zs.length = n) : Sl w (some ⟨b, 0, none⟩) n (zs.map (Value.int .i64)) := by
 refine ⟨by simp [hl], fun i hi => ⟨b, 0, rfl, ?_⟩⟩
 rw [Nat.zero_add, h.cell (i := i) (by omega)]
 simp [nth, show i < zs.length by omega]
end Go.Proofs.YtbnhaegidfbgbaaGreatDoor
namespace Go.Proofs.YtbnhaegidfbgbaaGreatDoor
open Go.RowKit
set_option maxHeartbeats 1000000
/-- The best of the first modes, and its cost. -/
def bb (a : List Int) (e : Ed) : Nat → Nat × Int
 | 0 => (0, 0)
 | k + 1 => if k = 0 ∨ tcost a (prd k e) < (bb a e k).2 then (k, tcost a (prd k e)) else bb a e k
def bst (a : List Int) (e : Ed) : Nat := (bb a e 5).1
end Go.Proofs.YtbnhaegidfbgbaaGreatDoor
namespace Go.Proofs.YtbnhaegidfbgbaaGreatDoor
open Go.RowKit
set_option maxHeartbeats 1000000
section
variable (t p : Pic) (x y q : Nat) (top : Int)
def inE (Z : List Int) (k : Nat) : Ed := edg ⟨p.w, p.h, Z⟩ ((x + k % 2 * 4 : Nat) : Int) ((y + k / 2 * 4 : Nat) : Int) top
def inU (k : Nat) : List Int := prt t ((x + k % 2 * 4 : Nat) : Int) ((y + k / 2 * 4 : Nat) : Int)
def inM (Z : List Int) (k : Nat) : Nat := bst (inU t x y k) (inE p x y top Z k)
def inP (Z : List Int) (k : Nat) : List Int := prd (inM t p x y top Z k) (inE p x y top Z k)
def inL (Z : List Int) (k : Nat) : List Int := cod (dif (inU t x y k) (inP t p x y top Z k)) q
/-- Of the first k blocks: the picture, the modes, the levels. -/
def inS : Nat → List Int × List Int × List Int
 | 0 => (p.px, zero4, zl 64)
 | k + 1 => (putS (inS k).1 p.w.toNat (x + k % 2 * 4) (y + k / 2 * 4) (inP t p x y top (inS k).1 k) (dec (inL t p x y q top (inS k).1 k) q) 16,
  (inS k).2.1.set k (inM t p x y top (inS k).1 k : Nat), spl (inS k).2.2 (k * 16) (inL t p x y q top (inS k).1 k))
def inMac (k : Nat) : Mac := ⟨2, 0, 0, (inS t p x y q top k).2.1, (inS t p x y q top k).2.2⟩
end
def okN (t p : Pic) (x y q top : Int) : Prop := alikeP t p ∧ placeP t x y ∧ (0 ≤ q ∧ q ≤ 15) ∧ (0 ≤ top ∧ top ≤ y)
noncomputable instance (t p : Pic) (x y q top : Int) : Decidable (okN t p x y q top) := Classical.propDecidable _
noncomputable def intraP (t p : Pic) (x y q top : Int) : Mac := if okN t p x y q top then inMac t p x.toNat y.toNat q.toNat top 4 else mac0
/-- What both walks keep: the copy (a row and its structure), the macroblock, the two zero places. -/
structure NS (w : World) (g n c : Nat) (tw th : Int) (a : Option Addr) (nt ct W H B O M : Nat) (Z ms : List Int) (wx : World) : Prop where
 ex : Ext w wx
 own : wx.ownsRow w.heap.size 3 1 (.slice (some ⟨g, 0, none⟩) n c) n (Z.map (Value.int .i64))
 bt : wx.heap[B]? = some (.cells #[.int .i64 tw, .int .i64 th, .slice a nt ct] 25 (0, 0))
 br : wx.heap[O]? = some (.cells #[.int .i64 W, .int .i64 H, .slice (some ⟨g, 0, none⟩) n c] 25 (0, 0))
 bz : IB wx (B + 1 + 1) 32 (zl 71)
 bm : IB wx M 32 ms
 h1 : w.heap.size ≤ B ∧ w.heap.size ≤ g ∧ w.heap.size ≤ O ∧ w.heap.size ≤ M
 h2 : B ≠ g ∧ O ≠ g ∧ B + 1 + 1 ≠ g ∧ M ≠ g ∧ M ≠ B ∧ M ≠ O ∧ M ≠ B + 1 + 1
section
variable {w wx wy : World} {g n c nt ct W H B O M : Nat} {tw th : Int} {a : Option Addr} {Z Z' ms ms' : List Int}
theorem NS.e (h : NS w g n c tw th a nt ct W H B O M Z ms wx) (e : Ext wx wy) : NS w g n c tw th a nt ct W H B O M Z ms wy :=
 ⟨h.ex.trans e, owns_ext h.own e, e.blk h.bt, e.blk h.br, h.bz.ext e, h.bm.ext e, h.h1, h.h2⟩
theorem NS.lt (h : NS w g n c tw th a nt ct W H B O M Z ms wx) : B < wx.heap.size ∧ g < wx.heap.size ∧ O < wx.heap.size ∧ M < wx.heap.size ∧ B + 1 + 1 < wx.heap.size :=
 ⟨lt_of_block h.bt, (h.own.lt g rfl).2, lt_of_block h.br, h.bm.lt, h.bz.lt⟩
theorem NS.put (h : NS w g n c tw th a nt ct W H B O M Z ms wx) (gr : wx.grownBy wy (some g)) (own : wy.ownsRow w.heap.size 3 1 (.slice (some ⟨g, 0, none⟩) n c) n (Z'.map (Value.int .i64))) : NS w g n c tw th a nt ct W H B O M Z' ms wy := by
 have a1 := h.h1
 have a2 := h.h2
 exact ⟨Ext.grown h.ex gr (fun k hk => by cases hk; omega), own, blk_gr h.bt gr (by simp; omega), blk_gr h.br gr (by simp; omega), h.bz.gr gr (by simp; omega), h.bm.gr gr (by simp; omega), a1, a2⟩
theorem NS.loc {b K : Nat} (h : NS w g n c tw th a nt ct W H B O M Z ms wx) (gr : wx.grownBy wy (some b)) (hb : K ≤ b) (hK : w.heap.size ≤ K ∧ B < K ∧ g < K ∧ O < K ∧ M < K ∧ B + 1 + 1 < K) : NS w g n c tw th a nt ct W H B O M Z ms wy := by
 have a1 := h.h1
 exact ⟨Ext.grown h.ex gr (fun k hk => by cases hk; omega), h.own.kept gr (.inr (by simp [Value.ownBlock]; omega)), blk_gr h.bt gr (by simp; omega), blk_gr h.br gr (by simp; omega), h.bz.gr gr (by simp; omega), h.bm.gr gr (by simp; omega), a1, h.h2⟩
/-- A place for a block of integers, or for the samples around a block, that came to be behind K. -/
def IA (w : World) (K : Nat) (v : Value) : Prop := ∃ (b : Nat) (us : List Int), v = .pointer (some ⟨b, 0, none⟩) ∧ K ≤ b ∧ IB w b 29 us ∧ us.length = 16
def EA (w : World) (K : Nat) (v : Value) : Prop := ∃ (b : Nat) (u : Ed), v = .pointer (some ⟨b, 0, none⟩) ∧ K ≤ b ∧ EB w b u ∧ u.ln
def IS (w : World) (K : Nat) (v : Value) (U : List Int) : Prop := ∃ b : Nat, v = .pointer (some ⟨b, 0, none⟩) ∧ K ≤ b ∧ IB w b 29 U
def ES (w : World) (K : Nat) (v : Value) (E : Ed) : Prop := ∃ b : Nat, v = .pointer (some ⟨b, 0, none⟩) ∧ K ≤ b ∧ EB w b E
/-- One block of integers, or one of samples around a block, was written. -/
def StI (wx wy : World) : Prop := ∃ (b : Nat) (us vs : List Int), wx.grownBy wy (some b) ∧ IB wx b 29 us ∧ IB wy b 29 vs ∧ vs.length = 16
def StE (wx wy : World) : Prop := ∃ (b : Nat) (u v : Ed), wx.grownBy wy (some b) ∧ EB wx b u ∧ EB wy b v ∧ v.ln
variable {K : Nat} {v : Value} {U : List Int} {E : Ed}
theorem IA.ext (h : IA wx K v) (e : Ext wx wy) : IA wy K v := by obtain ⟨b, us, h1, h2, h3, h4⟩ := h; exact ⟨b, us, h1, h2, h3.ext e, h4⟩
theorem EA.ext (h : EA wx K v) (e : Ext wx wy) : EA wy K v := by obtain ⟨b, us, h1, h2, h3, h4⟩ := h; exact ⟨b, us, h1, h2, h3.ext e, h4⟩
theorem IS.ext (h : IS wx K v U) (e : Ext wx wy) : IS wy K v U := by obtain ⟨b, h1, h2, h3⟩ := h; exact ⟨b, h1, h2, h3.ext e⟩
theorem ES.ext (h : ES wx K v E) (e : Ext wx wy) : ES wy K v E := by obtain ⟨b, h1, h2, h3⟩ := h; exact ⟨b, h1, h2, h3.ext e⟩
end
end Go.Proofs.YtbnhaegidfbgbaaGreatDoor
namespace Go.Proofs.YtbnhaegidfbgbaaGreatDoor
open Go.RowKit
set_option maxHeartbeats 1000000
end Go.Proofs.YtbnhaegidfbgbaaGreatDoor
namespace Go.Proofs.YtbnhaegidfbgbaaGreatDoor
open Go.RowKit
set_option maxHeartbeats 1000000
end Go.Proofs.YtbnhaegidfbgbaaGreatDoor
namespace Go.Proofs.YtbnhaegidfbgbaaGreatDoor
open Go.RowKit
set_option maxHeartbeats 1000000
set_option maxRecDepth 100000 in
theorem MotionBlock_yes (p : Pic) (x y : Nat) (vx vy : Int) (a : Option Addr) (c n : Nat) (w : World) (hv : p.valid) (hn : n = p.px.length) (s : Sl w a n (p.px.map (Value.int .i64))) (hvv : vv vx vy) (hb : (0 ≤ (x : Int)) ∧ ((x : Int) < p.w) ∧ ((x : Int) % 8 = 0) ∧ (0 ≤ (y : Int)) ∧ ((y : Int) < p.h) ∧ ((y : Int) % 8 = 0)) :
 Calls Tryz.prog 12 #[.agg #[.int .i64 p.w, .int .i64 p.h, .slice a n c], .int .i64 (x : Nat), .int .i64 (y : Nat), .agg #[.int .i64 vx, .int .i64 vy]] w fun e w' => ∃ a' c', e = .returned (.slice a' 64 c') ∧ w'.ownsRow w.heap.size 3 1 (.slice a' 64 c') 64 ((blkL p x y vx vy).map (Value.int .i64)) ∧ Ext w w' := by
 have HN := Lib.hid hn
 have hl := Pic.len_le hv
 rw [← hn] at hl
 have hx100 : x ≤ 24 := by have h1 := hv.1.2.1; have h2 := hb.2.1; have h3 := hb.2.2.1; omega
 have hy100 : y ≤ 24 := by have h1 := hv.2.1.2.1; have h2 := hb.2.2.2.2.1; have h3 := hb.2.2.2.2.2; omega
 have HV := Lib.hid hv
 have HVV := Lib.hid hvv
 have D0 := Lib.hid (show decide p.valid = true from decide_eq_true hv)
 have D2 := Lib.hid (show decide ((0 ≤ (x : Int)) ∧ ((x : Int) < p.w) ∧ ((x : Int) % 8 = 0) ∧ (0 ≤ (y : Int)) ∧ ((y : Int) < p.h) ∧ ((y : Int) % 8 = 0)) = true from decide_eq_true hb)
 clear hn hb hv hvv
 have a0_1 := Ext.alloc (w.alloc (.cells #[.int .i64 p.w, .int .i64 p.h, .slice a n c] 25)) (.cells #[.int .i64 vx, .int .i64 vy] 27)
 have X0_0 := a0_1.blk (blk_new w (.cells #[.int .i64 p.w, .int .i64 p.h, .slice a n c] 25))
 have X1_0 := blk_new (w.alloc (.cells #[.int .i64 p.w, .int .i64 p.h, .slice a n c] 25)) (.cells #[.int .i64 vx, .int .i64 vy] 27)
 have E_0 := (Ext.alloc w (.cells #[.int .i64 p.w, .int .i64 p.h, .slice a n c] 25)).trans (Ext.alloc (w.alloc (.cells #[.int .i64 p.w, .int .i64 p.h, .slice a n c] 25)) (.cells #[.int .i64 vx, .int .i64 vy] 27))
 simp only [World.size_alloc] at X1_0
 clear a0_1
 obtain ⟨-, k0_0, k0_1, k0_2, -⟩ := bx3 X0_0
 obtain ⟨-, k1_0, k1_1, -⟩ := bx2 X1_0
 go_enter Tryz.func12, Tryz.ntmps12
 go_wp2_with fail
 refine (impl_PictureValid_any p a c n _ HN.out (by omega) (s.ext E_0)).mono ?_
 rw [D0.out]
 rintro e w_1 ⟨rfl, e_1⟩
 have X0_1 := e_1.blk X0_0
 have X1_1 := e_1.blk X1_0
 have E_1 := E_0.trans e_1
 clear k0_0 k0_1 k0_2 X0_0 k1_0 k1_1 X1_0 E_0 e_1
 obtain ⟨-, k0_0, k0_1, k0_2, -⟩ := bx3 X0_1
 obtain ⟨-, k1_0, k1_1, -⟩ := bx2 X1_1
 go_wp2_with fail
 refine (impl_VectorValid_yes vx vy _ HVV.out).mono ?_
 rintro e w_2 ⟨rfl, e_2⟩
 have X0_2 := e_2.blk X0_1
 have X1_2 := e_2.blk X1_1
 have E_2 := E_1.trans e_2
 clear k0_0 k0_1 k0_2 X0_1 k1_0 k1_1 X1_1 E_1 e_2
 obtain ⟨-, k0_0, k0_1, k0_2, -⟩ := bx3 X0_2
 obtain ⟨-, k1_0, k1_1, -⟩ := bx2 X1_2
 go_wp2_with fail
 refine (begins_any p x y a c n _).mono ?_
 rw [D2.out]
 rintro e w_3 ⟨rfl, e_3⟩
 have X0_3 := e_3.blk X0_2
 have X1_3 := e_3.blk X1_2
 have E_3 := E_2.trans e_3
 clear k0_0 k0_1 k0_2 X0_2 k1_0 k1_1 X1_2 E_2 e_3
 obtain ⟨-, k0_0, k0_1, k0_2, -⟩ := bx3 X0_3
 obtain ⟨-, k1_0, k1_1, -⟩ := bx2 X1_3
 go_wp2_with fail
 have hvv := HVV.out
 refine (moved_any p x y vx vy a c n _ HV.out HN.out (s.ext E_3) (by omega) (by omega) (by omega) (by omega) hvv.1 hvv.2.1 hvv.2.2.1 hvv.2.2.2).mono ?_
 rintro e w6 ⟨a6, c6, rfl, o6, e6⟩
 have E6 := E_3.trans e6
 have o7 := owns_mono o6 E_3.size
 clear E_3 e6 o6 hvv
 go_wp2
 go_ret
 exact ⟨a6, c6, rfl, o7, E6⟩
end Go.Proofs.YtbnhaegidfbgbaaGreatDoor
namespace Go.Proofs.YtbnhaegidfbgbaaGreatDoor
open Go.RowKit
set_option maxHeartbeats 1000000
set_option maxRecDepth 100000 in
set_option maxHeartbeats 8000000 in
theorem law_FnMacroCost (s : Option Addr) (cc m : Nat) (bs : List Int) (w : World) (hT : TabQ w) (hn0 : m ≤ cc ∧ cc ≤ maxLen) (sl : Sl w s m (bs.map (Value.int .u8))) (wf : ∀ z ∈ bs, (Lit.int .u8 z).wf = true) :
 Calls Tryz.prog 3 #[.slice s m cc] w fun e w' => e = .returned (.bool true) ∧ Ext w w' := by
 have hn : m ≤ cc ∧ cc ≤ 9223372036854775807 := ⟨hn0.1, hn0.2⟩
 clear hn0
 by_cases hbig : 1048576 < m
 ·clear sl wf hT
  go_enter Tryz.func3, Tryz.ntmps3
  go_wp2
  go_ret
  exact ⟨rfl, Below.refl _ _⟩
 have hz := byte_rangeV wf
 clear wf
 go_enter Tryz.func3, Tryz.ntmps3
 go_wp2_with fail
 refine (DrawMacroCost_any s cc m bs _ hn.1 hn.2 sl hz).mono ?_
 rintro e w1 ⟨t, r, p, a, a2, a3, c, n, c2, n2, c3, n3, x, y, mm, qq, top, rfl, hmo, hqq, ⟨hn1, hn2, s1⟩, ⟨hm1, hm2, s2⟩, ⟨hp1, hp2, s3⟩, E1⟩
 clear sl hz
 have HS := Lib.hid (fun (w : World) (s1 : Sl w a n (t.px.map (Value.int .i64))) (s2 : Sl w a2 n2 (r.px.map (Value.int .i64))) (s3 : Sl w a3 n3 (p.px.map (Value.int .i64))) => spec_MacroCost_any t r p x y mm qq top a a2 a3 c c2 c3 n n2 n3 w hn1 hm1 hp1 (by omega) (by omega) (by omega) s1 s2 s3 hmo)
 have HI := Lib.hid (fun (w : World) (hT : TabQ w) (s1 : Sl w a n (t.px.map (Value.int .i64))) (s2 : Sl w a2 n2 (r.px.map (Value.int .i64))) (s3 : Sl w a3 n3 (p.px.map (Value.int .i64))) => impl_MacroCost_any t r p x y mm qq top a a2 a3 c c2 c3 n n2 n3 w hT hn1 hm1 hp1 (by omega) (by omega) (by omega) s1 s2 s3 hmo)
 have HR := Lib.hid (fun (w : World) (hT : TabQ w) (s2 : Sl w a2 n2 (r.px.map (Value.int .i64))) (s3 : Sl w a3 n3 (p.px.map (Value.int .i64))) => impl_Reconstruct_any r p x y mm qq top a2 a3 c2 c3 n2 n3 w hT hm1 hp1 (by omega) (by omega) s2 s3 hmo)
 obtain ⟨C, hC⟩ : ∃ C, C = costP t r p x y mm qq top := ⟨_, rfl⟩
 rw [← hC] at HS HI
 have HC := Lib.hid hC
 have HN1 := Lib.hid hn1
 have HM1 := Lib.hid hm1
 have HP1 := Lib.hid hp1
 have Hml := Lib.hid (Mac.zs_len hmo)
 have Hmo := Lib.hid hmo
 have L2 : L3 w w1.heap.size t a n c r a2 n2 c2 p a3 n3 c3 (((w1.alloc (.cells #[.int .i64 t.w, .int .i64 t.h, .slice a n c] 25)).alloc (.cells #[.int .i64 r.w, .int .i64 r.h, .slice a2 n2 c2] 25)).alloc (.cells #[.int .i64 p.w, .int .i64 p.h, .slice a3 n3 c3] 25)) := L3.new E1 s1 s2 s3
 have y1 := sl_bound L2.s1
 have y2 := sl_bound L2.s2
 have y3 := sl_bound L2.s3
 have hsz : (((w1.alloc (.cells #[.int .i64 t.w, .int .i64 t.h, .slice a n c] 25)).alloc (.cells #[.int .i64 r.w, .int .i64 r.h, .slice a2 n2 c2] 25)).alloc (.cells #[.int .i64 p.w, .int .i64 p.h, .slice a3 n3 c3] 25)).heap.size = w1.heap.size + 1 + 1 + 1 := by simp only [World.size_alloc]
 have z1 := E1.size
 obtain ⟨O, hO⟩ : ∃ O, O = w1.heap.size := ⟨_, rfl⟩
 rw [← hO] at L2 hsz z1
 have Q3 := IB.new (((w1.alloc (.cells #[.int .i64 t.w, .int .i64 t.h, .slice a n c] 25)).alloc (.cells #[.int .i64 r.w, .int .i64 r.h, .slice a2 n2 c2] 25)).alloc (.cells #[.int .i64 p.w, .int .i64 p.h, .slice a3 n3 c3] 25)) 32 (zl 71)
 have e3 := Ext.alloc (((w1.alloc (.cells #[.int .i64 t.w, .int .i64 t.h, .slice a n c] 25)).alloc (.cells #[.int .i64 r.w, .int .i64 r.h, .slice a2 n2 c2] 25)).alloc (.cells #[.int .i64 p.w, .int .i64 p.h, .slice a3 n3 c3] 25)) (.cells (ic (zl 71)) 32)
 have L4 := L2.e e3
 simp only [World.size_alloc] at Q3
 clear hC hn1 hm1 hp1 s1 s2 s3 E1 L2 e3
 go_wp2_with (first | (refine wpList_iallocz 32 rfl rfl 71 zero_Macz ?_; (try simp only [World.size_alloc])) | (refine wpList_istore 32 _ _ rfl rfl Q3 0 71 rfl _ rfl mm.zs rfl size_Macro Hml.out (by simp [zl]) ?_; intro w5 r5 gg; refine Hid.out ?_))
 rw [spl_all (by rw [Hml.out, zl_len])] at r5
 rw [hsz] at y1 y2 y3
 rw [← hO] at r5 gg
 try simp only [World.size_alloc]
 rw [← hO]
 have L5 := L4.g gg (by omega) (by omega) y1 y2 y3
 clear Q3 L4 y1 y2 y3 gg hO hsz z1
 refine Lib.hid ?_
 obtain ⟨k0, k1, k2⟩ := PBx.cells L5.b1
 obtain ⟨j0, j1, j2⟩ := PBx.cells L5.b2
 obtain ⟨i0, i1, i2⟩ := PBx.cells L5.b3
 go_wp2_with (refine wpList_iload 32 _ rfl rfl r5 0 71 rfl _ Tryz.underlying32 rfl size_Macro (by rw [Hml.out]; omega) _ (by rw [sub_all _ _ Hml.out]) ?_)
 refine (HI.out _ (hT.ext L5.ex) L5.s1 L5.s2 L5.s3).mono ?_
 rintro e w6 ⟨rfl, e6⟩
 have L6 := L5.e e6
 have r6 := r5.ext e6
 clear L5 e6 r5 HI k0 k1 k2 j0 j1 j2 i0 i1 i2
 obtain ⟨k0, k1, k2⟩ := PBx.cells L6.b1
 obtain ⟨j0, j1, j2⟩ := PBx.cells L6.b2
 obtain ⟨i0, i1, i2⟩ := PBx.cells L6.b3
 have hzC := ne_self_false C
 go_wp2_with (refine wpList_iload 32 _ rfl rfl r6 0 71 rfl _ Tryz.underlying32 rfl size_Macro (by rw [Hml.out]; omega) _ (by rw [sub_all _ _ Hml.out]) ?_)
 refine (HS.out _ L6.s1 L6.s2 L6.s3).mono ?_
 rintro e w7 ⟨rfl, e7⟩
 have L7 := L6.e e7
 have r7 := r6.ext e7
 clear L6 e7 r6 HS k0 k1 k2 j0 j1 j2 i0 i1 i2
 by_cases hok : alikeP t p ∧ okR r p x y mm qq top
 ·obtain ⟨ha, ho⟩ := hok
  obtain ⟨X, hX⟩ : ∃ X : Nat, x = X := ⟨x.toNat, by have := ho.1.2.1; omega⟩
  obtain ⟨Y, hY⟩ : ∃ Y : Nat, y = Y := ⟨y.toNat, by have := ho.1.2.2.2.2.1; omega⟩
  obtain ⟨Q, hQ⟩ : ∃ Q : Nat, qq = Q := ⟨qq.toNat, by have := ho.2.2.1; omega⟩
  subst hX hY hQ
  have hq16 : Q < 16 := by have := ho.2.2.1; omega
  have hcy := costP_yes ha ho
  rw [← HC.out, Int.toNat_natCast] at hcy
  have hry := recP_D ho
  rw [hry] at HR
  have hDv := recD_valid ho.1.1 r X Y mm Q top
  have hDl : (recD r p X Y mm Q top).px.length = n3 := by rw [HP1.out, recD_len]
  have hDw : (recD r p X Y mm Q top).w = p.w := recD_w r p X Y mm Q top
  have hDh : (recD r p X Y mm Q top).h = p.h := recD_h r p X Y mm Q top
  obtain ⟨D, hD⟩ : ∃ D, D = recD r p X Y mm Q top := ⟨_, rfl⟩
  rw [← hD] at HR hDv hDl hDw hDh hcy
  rw [hDl] at HR
  have hb1 : (0 ≤ (X : Int)) ∧ ((X : Int) < D.w) ∧ ((X : Int) % 8 = 0) ∧ (0 ≤ (Y : Int)) ∧ ((Y : Int) < D.h) ∧ ((Y : Int) % 8 = 0) := by rw [hDw, hDh]; exact ho.1.2
  have hb2 : (0 ≤ (X : Int)) ∧ ((X : Int) < t.w) ∧ ((X : Int) % 8 = 0) ∧ (0 ≤ (Y : Int)) ∧ ((Y : Int) < t.h) ∧ ((Y : Int) % 8 = 0) := by rw [ha.2.2.1, ha.2.2.2]; exact ho.1.2
  have HM1b := Lib.hid (fun (w : World) (a9 : Option Addr) (c9 : Nat) (s : Sl w a9 n3 (D.px.map (Value.int .i64))) => MotionBlock_yes D X Y 0 0 a9 c9 n3 w hDv hDl.symm s ⟨by omega, by omega, by omega, by omega⟩ hb1)
  have HM2b := Lib.hid (fun (w : World) (s : Sl w a n (t.px.map (Value.int .i64))) => MotionBlock_yes t X Y 0 0 a c n w ha.1 HN1.out s ⟨by omega, by omega, by omega, by omega⟩ hb2)
  have HTv := Lib.hid ha.1
  have HDv := Lib.hid hDv
  have hN := macN_le Hmo.out ho.2.1
  have hN1 := macN_pos mm
  have hsr := stp_rng hq16
  have hrt := rate_rng Hmo.out ho.2.1 hq16
  have hsq := sqS_rng ha.1 hDv X Y 64
  rw [sqS_comm] at hcy hsq
  have hstN : stp Q * 1 ≤ stp Q * (macN mm : Int) := Int.mul_le_mul_of_nonneg_left (by omega) (by omega)
  obtain ⟨s0, hs0⟩ : ∃ s0, s0 = stp Q := ⟨_, rfl⟩
  obtain ⟨N0, hN0⟩ : ∃ N0, N0 = macN mm := ⟨_, rfl⟩
  obtain ⟨R, hR⟩ : ∃ R, R = stp Q * (macN mm : Int) := ⟨_, rfl⟩
  obtain ⟨SS, hSS⟩ : ∃ SS, SS = sqS D t X Y 64 := ⟨_, rfl⟩
  rw [← hR] at hcy hrt hstN
  rw [← hs0] at hsr hstN
  rw [← hN0] at hN hN1
  rw [← hSS] at hcy hsq
  have HRm := Lib.hid (show s0 * (N0 : Int) = R by rw [hs0, hN0, hR])
  have HRw := Lib.hid (show wrap64 (s0 * (N0 : Int)) = R by rw [hs0, hN0, ← hR]; unfold wrap64; omega)
  have HS0 := Lib.hid hs0
  have HN0 := Lib.hid hN0
  have HSS := Lib.hid hSS
  have hMv := ho.2.1
  have HMv := Lib.hid hMv
  have hC0 : ¬ C < 0 := by omega
  have hC1 : s0 ≤ C := by omega
  have HCy := Lib.hid hcy
  have hCr : C ≤ 9000000 := by omega
  clear hD hs0 hN0 hR hSS ha ho hry hDv hDl hDw hDh hcy hb1 hb2 HC hMv HP1
  obtain ⟨k0, k1, k2⟩ := PBx.cells L7.b1
  obtain ⟨j0, j1, j2⟩ := PBx.cells L7.b2
  obtain ⟨i0, i1, i2⟩ := PBx.cells L7.b3
  go_wp2_with (first | (refine wpList_iload 32 _ rfl rfl r7 0 71 rfl _ Tryz.underlying32 rfl size_Macro (by rw [Hml.out]; omega) _ (by rw [sub_all _ _ Hml.out]) ?_) | fail)
  refine (HR.out _ (hT.ext L7.ex) L7.s2 L7.s3).mono ?_
  rintro e w8 ⟨aD, cD, rfl, o8, e8⟩
  have sD := Sl.of_owns o8
  have L8 := L7.e e8
  have r8 := r7.ext e8
  have e9 := Ext.alloc w8 (.cells #[.int .i64 D.w, .int .i64 D.h, .slice aD n3 cD] 25)
  have B9 := blk_new w8 (.cells #[.int .i64 D.w, .int .i64 D.h, .slice aD n3 cD] 25)
  have L9 := L8.e e9
  have r9 := r8.ext e9
  have sD9 := sD.ext e9
  obtain ⟨U, hU⟩ : ∃ U, U = w8.heap.size := ⟨_, rfl⟩
  rw [← hU] at B9
  clear L7 L8 r7 r8 o8 e8 e9 sD HR k0 k1 k2 j0 j1 j2 i0 i1 i2
  go_upto_region 10 with fail
  rw [← hU]
  generalize w8.alloc (.cells #[.int .i64 D.w, .int .i64 D.h, .slice aD n3 cD] 25) = w9 at *
  clear hU
  obtain ⟨-, k0, k1, k2, -⟩ := bx3 B9
  go_wp2_with fail
  refine (HM1b.out _ aD cD sD9).mono ?_
  rintro e wa ⟨aa, ca, rfl, oa, ea⟩
  obtain ⟨g4, rfl⟩ := own_ptr oa (by omega)
  have La := L9.e ea
  have ra := r9.ext ea
  have Sa := Sl.of_owns oa
  clear L9 r9 oa ea B9 sD9 HM1b k0 k1 k2
  obtain ⟨k0, k1, k2⟩ := PBx.cells La.b1
  go_wp2_with fail
  refine (HM2b.out _ La.s1).mono ?_
  rintro e wb ⟨ab', cb, rfl, ob, eb⟩
  obtain ⟨g6, rfl⟩ := own_ptr ob (by omega)
  have Lb := La.e eb
  have rb := ra.ext eb
  have Sb := Sa.ext eb
  have Tb := Sl.of_owns ob
  clear La ra Sa ob eb HM2b k0 k1 k2
  go_wp2_with fail
  go_loopw [15, 16] (fun v i wr => ∃ k : Nat, k ≤ 64 ∧ i = .int .i64 k ∧ v = .int .i64 (sqS D t X Y k) ∧ Ext wb wr) (fun _ i _ => 64 - (intOf i).toNat)
  case atStart => exact ⟨0, by omega, rfl, by simp [sqS], Below.refl _ _⟩
  case round =>
   obtain ⟨k, hk, rfl, rfl, Ek⟩ := hrel
   have hsk := sqS_rng HDv.out HTv.out X Y k
   by_cases hlt : k < 64
   ·have hd : decide ((k : Int) < 64) = true := by simp; omega
    have hpd := pd_rng HDv.out HTv.out ((X : Int) + (k % 8 : Nat)) ((Y : Int) + (k / 8 : Nat))
    have hsq2 := sq_rng hpd.1 hpd.2
    have Hnx := Lib.hid (show sqS D t X Y (k + 1) = _ by rw [sqS])
    obtain ⟨u, hu⟩ : ∃ u, u = pat D ((X : Int) + (k % 8 : Nat)) ((Y : Int) + (k / 8 : Nat)) := ⟨_, rfl⟩
    obtain ⟨v, hv⟩ : ∃ v, v = pat t ((X : Int) + (k % 8 : Nat)) ((Y : Int) + (k / 8 : Nat)) := ⟨_, rfl⟩
    have hp1 := pat_rng HDv.out ((X : Int) + (k % 8 : Nat)) ((Y : Int) + (k / 8 : Nat))
    have hp2 := pat_rng HTv.out ((X : Int) + (k % 8 : Nat)) ((Y : Int) + (k / 8 : Nat))
    rw [← hu] at hp1
    rw [← hv] at hp2
    rw [← hu, ← hv] at hpd hsq2 Hnx
    obtain ⟨S, hS⟩ : ∃ S, S = sqS D t X Y k := ⟨_, rfl⟩
    rw [← hS] at hsk Hnx
    rw [← hS]
    have HcU := Lib.hid (fun (wx : World) (h : Ext wr wx) => cellP (Sb.ext (Ek.trans h)) hlt ((nth_blk0 D X Y hlt).trans hu.symm))
    have HcV := Lib.hid (fun (wx : World) (h : Ext wr wx) => cellP (Tb.ext (Ek.trans h)) hlt ((nth_blk0 t X Y hlt).trans hv.symm))
    obtain ⟨P, hP⟩ : ∃ P, P = (u - v) * (u - v) := ⟨_, rfl⟩
    rw [← hP] at hsq2 Hnx
    have HP := Lib.hid (show (u - v) * (u - v) = P from hP.symm)
    have HPw := Lib.hid (show wrap64 ((u - v) * (u - v)) = P by rw [← hP]; unfold wrap64; omega)
    clear hu hv hS hP
    go_upto_region 16 with fail
    refine wp_region_inv2 (by kernel_rfl) [(15, 21), (78, 0), (79, 1), (80, 2), (81, 3), (82, 4), (83, 5), (84, 6), (85, 7), (86, 8), (87, 9), (88, 10), (89, 11), (90, 12), (91, 13), (92, 14), (93, 15), (94, 16), (95, 17), (96, 18), (97, 19), (98, 20)] [[], [], [], [1, 2], [1, 2, 3], [], [], [5, 6], [5, 6, 7], [1, 2, 3, 4, 5, 6, 7, 8], [], [], [10, 11], [10, 11, 12], [], [], [14, 15], [14, 15, 16], [10, 11, 12, 13, 14, 15, 16, 17], [1, 2, 3, 4, 5, 6, 7, 8, 9, 10, 11, 12, 13, 14, 15, 16, 17, 18], [0, 1, 2, 3, 4, 5, 6, 7, 8, 9, 10, 11, 12, 13, 14, 15, 16, 17, 18, 19], [0, 1, 2, 3, 4, 5, 6, 7, 8, 9, 10, 11, 12, 13, 14, 15, 16, 17, 18, 19, 20]] (fun i own ys wx => match i with | 0 => own = .int .i64 S | 1 => own = .slice (some ⟨g4, 0, none⟩) 64 ca | 2 => own = .int .i64 (k : Nat) | 3 => own = .pointer (some ⟨g4, k, none⟩) | 4 => own = .int .i64 u | 5 => own = .slice (some ⟨g6, 0, none⟩) 64 cb | 6 => own = .int .i64 (k : Nat) | 7 => own = .pointer (some ⟨g6, k, none⟩) | 8 => own = .int .i64 v | 9 => own = .int .i64 (u - v) | 10 => own = .slice (some ⟨g4, 0, none⟩) 64 ca | 11 => own = .int .i64 (k : Nat) | 12 => own = .pointer (some ⟨g4, k, none⟩) | 13 => own = .int .i64 u | 14 => own = .slice (some ⟨g6, 0, none⟩) 64 cb | 15 => own = .int .i64 (k : Nat) | 16 => own = .pointer (some ⟨g6, k, none⟩) | 17 => own = .int .i64 v | 18 => own = .int .i64 (u - v) | 19 => own = .int .i64 P | 20 => own = .int .i64 (S + P) | 21 => own = .int .i64 (S + P) | _ => True) (fun kx wx => Ext wr wx) (by kernel_rfl) (by kernel_rfl) (by kernel_rfl) ?g0_r1 ?gop_r1 ?gend_r1
    case g0_r1 => exact Ext.drewN _ 1
    case gop_r1 =>
     refine ⟨?o0, ?_, ?_, ?o3, ?o4, ?_, ?_, ?o7, ?o8, ?o9, ?_, ?_, ?o12, ?o13, ?_, ?_, ?o16, ?o17, ?o18, ?o19, ?o20, ?o21, trivial⟩ <;> (intro kx xs wx hk hG hD hI Qo Kx hK hQo; simp only [patchS, Nat.reduceAdd, Nat.reduceEqDiff, ↓reduceIte] at hQo ⊢)
     case o0 =>
      have i21 := hI 21 15 rfl rfl
      simp only [List.getD_cons_succ, List.getD_cons_zero] at i21
      clear hD hI
      rw [i21] at hQo ⊢
      clear i21
      go_wp2
      exact hK.out _ _ ⟨rfl, hG, fun _ _ _ _ _ _ h => h⟩
     case o3 =>
      have d1 : _ = _ := hD 1 rfl
      have d2 : _ = _ := hD 2 rfl
      clear hD hI
      generalize xs 1 = y1 at *
      generalize xs 2 = y2 at *
      subst d1 d2
      go_wp2
      exact hK.out _ _ ⟨rfl, hG, fun _ _ _ _ _ _ h => h⟩
     case o4 =>
      have d3 : _ = _ := hD 3 rfl
      clear hD hI
      generalize xs 3 = y3 at *
      subst d3
      have cx := HcU.out wx hG
      go_wp2
      exact hK.out _ _ ⟨rfl, hG, fun _ _ _ _ _ _ h => h⟩
     case o7 =>
      have d5 : _ = _ := hD 5 rfl
      have d6 : _ = _ := hD 6 rfl
      clear hD hI
      generalize xs 5 = y5 at *
      generalize xs 6 = y6 at *
      subst d5 d6
      go_wp2
      exact hK.out _ _ ⟨rfl, hG, fun _ _ _ _ _ _ h => h⟩
     case o8 =>
      have d7 : _ = _ := hD 7 rfl
      clear hD hI
      generalize xs 7 = y7 at *
      subst d7
      have cx := HcV.out wx hG
      go_wp2
      exact hK.out _ _ ⟨rfl, hG, fun _ _ _ _ _ _ h => h⟩
     case o9 =>
      have d4 : _ = _ := hD 4 rfl
      have d8 : _ = _ := hD 8 rfl
      clear hD hI
      generalize xs 4 = y4 at *
      generalize xs 8 = y8 at *
      subst d4 d8
      go_wp2
      exact hK.out _ _ ⟨rfl, hG, fun _ _ _ _ _ _ h => h⟩
     case o12 =>
      have d10 : _ = _ := hD 10 rfl
      have d11 : _ = _ := hD 11 rfl
      clear hD hI
      generalize xs 10 = y10 at *
      generalize xs 11 = y11 at *
      subst d10 d11
      go_wp2
      exact hK.out _ _ ⟨rfl, hG, fun _ _ _ _ _ _ h => h⟩
     case o13 =>
      have d12 : _ = _ := hD 12 rfl
      clear hD hI
      generalize xs 12 = y12 at *
      subst d12
      have cx := HcU.out wx hG
      go_wp2
      exact hK.out _ _ ⟨rfl, hG, fun _ _ _ _ _ _ h => h⟩
     case o16 =>
      have d14 : _ = _ := hD 14 rfl
      have d15 : _ = _ := hD 15 rfl
      clear hD hI
      generalize xs 14 = y14 at *
      generalize xs 15 = y15 at *
      subst d14 d15
      go_wp2
      exact hK.out _ _ ⟨rfl, hG, fun _ _ _ _ _ _ h => h⟩
     case o17 =>
      have d16 : _ = _ := hD 16 rfl
      clear hD hI
      generalize xs 16 = y16 at *
      subst d16
      have cx := HcV.out wx hG
      go_wp2
      exact hK.out _ _ ⟨rfl, hG, fun _ _ _ _ _ _ h => h⟩
     case o18 =>
      have d13 : _ = _ := hD 13 rfl
      have d17 : _ = _ := hD 17 rfl
      clear hD hI
      generalize xs 13 = y13 at *
      generalize xs 17 = y17 at *
      subst d13 d17
      go_wp2
      exact hK.out _ _ ⟨rfl, hG, fun _ _ _ _ _ _ h => h⟩
     case o19 =>
      have d9 : _ = _ := hD 9 rfl
      have d18 : _ = _ := hD 18 rfl
      clear hD hI
      generalize xs 9 = y9 at *
      generalize xs 18 = y18 at *
      subst d9 d18
      go_wp2
      exact hK.out _ _ ⟨by first | rw [HPw.out] | rw [HP.out], hG, fun _ _ _ _ _ _ h => h⟩
     case o20 =>
      have d0 : _ = _ := hD 0 rfl
      have d19 : _ = _ := hD 19 rfl
      clear hD hI
      generalize xs 0 = y0 at *
      generalize xs 19 = y19 at *
      subst d0 d19
      go_wp2
      exact hK.out _ _ ⟨rfl, hG, fun _ _ _ _ _ _ h => h⟩
     case o21 =>
      have d20 : _ = _ := hD 20 rfl
      clear hD hI
      generalize xs 20 = y20 at *
      subst d20
      go_wp2
      exact hK.out _ _ ⟨rfl, hG, fun _ _ _ _ _ _ h => h⟩
     all_goals
      clear hD hI
      go_wp2
      exact hK.out _ _ ⟨rfl, hG, fun _ _ _ _ _ _ h => h⟩
    intro xs wx hV hG
    have d21 : _ = _ := hV 21 (by decide)
    clear hV
    simp only [patchS, Nat.reduceAdd, Nat.reduceEqDiff, ↓reduceIte]
    generalize xs 0 = y0 at *
    generalize xs 1 = y1 at *
    generalize xs 2 = y2 at *
    generalize xs 3 = y3 at *
    generalize xs 4 = y4 at *
    generalize xs 5 = y5 at *
    generalize xs 6 = y6 at *
    generalize xs 7 = y7 at *
    generalize xs 8 = y8 at *
    generalize xs 9 = y9 at *
    generalize xs 10 = y10 at *
    generalize xs 11 = y11 at *
    generalize xs 12 = y12 at *
    generalize xs 13 = y13 at *
    generalize xs 14 = y14 at *
    generalize xs 15 = y15 at *
    generalize xs 16 = y16 at *
    generalize xs 17 = y17 at *
    generalize xs 18 = y18 at *
    generalize xs 19 = y19 at *
    generalize xs 20 = y20 at *
    generalize xs 21 = y21 at *
    replace hG : Ext wr wx := hG
    subst d21
    go_wp2
    go_roundw
    case rel => exact ⟨k + 1, by omega, by go_num, by rw [Hnx.out], Ek.trans hG⟩
    case measure => simp [intOf]; omega
   ·obtain rfl : k = 64 := by omega
    rw [← HSS.out]
    have Lk := Lb.e Ek
    have rk := rb.ext Ek
    have Hge := Lib.hid (show decide (s0 ≤ C) = true from decide_eq_true hC1)
    have Heq := Lib.hid (show (C == SS + R) = true by rw [HCy.out]; simp)
    have hTk := hT.ext Lk.ex
    clear Lb rb Ek hsk
    go_upto_region 17 with fail
    refine wp_region_inv2 (by kernel_rfl) [(2, 16), (99, 0), (100, 1), (101, 2), (102, 3), (103, 4), (104, 5), (105, 6), (106, 7), (107, 8), (108, 9), (109, 10), (110, 11), (111, 12), (112, 13), (113, 14), (114, 15)] [[], [], [], [2], [], [2, 3, 4], [2, 3, 4, 5], [2, 3, 4, 5, 6], [1, 2, 3, 4, 5, 6, 7], [0, 1, 2, 3, 4, 5, 6, 7, 8], [0, 1, 2, 3, 4, 5, 6, 7, 8, 9], [0, 1, 2, 3, 4, 5, 6, 7, 8, 9, 10], [0, 1, 2, 3, 4, 5, 6, 7, 8, 9, 10], [0, 1, 2, 3, 4, 5, 6, 7, 8, 9, 10, 12], [0, 1, 2, 3, 4, 5, 6, 7, 8, 9, 10, 11, 12, 13], [0, 1, 2, 3, 4, 5, 6, 7, 8, 9, 10, 11, 12, 13, 14], [0, 1, 2, 3, 4, 5, 6, 7, 8, 9, 10, 11, 12, 13, 14, 15]] (fun i own ys wx => match i with | 0 => own = .int .i64 C | 1 => own = .int .i64 SS | 2 => own = .int .i64 (Q : Nat) | 3 => own = .int .i64 s0 | 4 => own = .agg (ic mm.zs) | 5 => ∃ (a5 : Option Addr) (c5 : Nat), own = .slice a5 N0 c5 | 6 => own = .int .i64 (N0 : Nat) | 7 => own = .int .i64 R | 8 => own = .int .i64 (SS + R) | 9 => own = .bool true | 10 => own = .bool true | 11 => own = .int .i64 C | 12 => own = .int .i64 (Q : Nat) | 13 => own = .int .i64 s0 | 14 => own = .bool true | 15 => own = .bool true | 16 => own = .bool true | _ => True) (fun kx wx => Ext wr wx) (by kernel_rfl) (by kernel_rfl) (by kernel_rfl) ?g0_r2 ?gop_r2 ?gend_r2
    case g0_r2 => exact Ext.drewN _ 1
    case gop_r2 =>
     refine ⟨?_, ?_, ?_, ?o3, ?o4, ?o5, ?o6, ?o7, ?o8, ?o9, ?o10, ?o11, ?o12, ?o13, ?o14, ?o15, ?o16, trivial⟩ <;> (intro kx xs wx hk hG hD hI Qo Kx hK hQo; simp only [patchS, Nat.reduceAdd, Nat.reduceEqDiff, ↓reduceIte] at hQo ⊢)
     case o3 =>
      have d2 : _ = _ := hD 2 rfl
      clear hD hI
      generalize xs 2 = y2 at *
      subst d2
      go_wp2_with fail
      refine (impl_QuantStep_inC Q _ (hTk.ext hG) hq16).mono ?_
      rintro e wz ⟨rfl, rfl⟩
      rw [← HS0.out]
      go_wp2
      exact hK.out _ _ ⟨rfl, hG, fun _ _ _ _ _ _ h => h⟩
     case o4 =>
      clear hD hI
      have rx := rk.ext hG
      go_wp2_with (refine wpList_iload 32 _ rfl rfl rx 0 71 rfl _ Tryz.underlying32 rfl size_Macro (by rw [Hml.out]; omega) _ (by rw [sub_all _ _ Hml.out]) ?_)
      exact hK.out _ _ ⟨rfl, hG, fun _ _ _ _ _ _ h => h⟩
     case o5 =>
      have d4 : _ = _ := hD 4 rfl
      clear hD hI
      generalize xs 4 = y4 at *
      subst d4
      go_wp2_with fail
      refine (impl_MacroBins_in mm _ Hmo.out HMv.out).mono ?_
      rintro e wz ⟨az, cz, rfl, -, ez⟩
      rw [← HN0.out]
      go_wp2
      exact hK.out _ _ ⟨⟨az, cz, rfl⟩, hG.trans ez, fun _ _ _ _ _ _ h => h⟩
     case o6 =>
      have d5 : ∃ (a5 : Option Addr) (c5 : Nat), (xs 5) = .slice a5 N0 c5 := hD 5 rfl
      clear hD hI
      generalize xs 5 = y5 at *
      obtain ⟨a5, c5, rfl⟩ := d5
      go_wp2
      exact hK.out _ _ ⟨rfl, hG, fun _ _ _ _ _ _ h => h⟩
     case o7 =>
      have d3 : _ = _ := hD 3 rfl
      have d6 : _ = _ := hD 6 rfl
      clear hD hI
      generalize xs 3 = y3 at *
      generalize xs 6 = y6 at *
      subst d3 d6
      go_wp2
      exact hK.out _ _ ⟨by first | rw [HRw.out] | rw [HRm.out], hG, fun _ _ _ _ _ _ h => h⟩
     case o8 =>
      have d1 : _ = _ := hD 1 rfl
      have d7 : _ = _ := hD 7 rfl
      clear hD hI
      generalize xs 1 = y1 at *
      generalize xs 7 = y7 at *
      subst d1 d7
      go_wp2
      exact hK.out _ _ ⟨rfl, hG, fun _ _ _ _ _ _ h => h⟩
     case o9 =>
      have d0 : _ = _ := hD 0 rfl
      have d8 : _ = _ := hD 8 rfl
      clear hD hI
      generalize xs 0 = y0 at *
      generalize xs 8 = y8 at *
      subst d0 d8
      go_wp2
      exact hK.out _ _ ⟨by first | rfl | rw [Heq.out], hG, fun _ _ _ _ _ _ h => h⟩
     case o10 =>
      have d9 : _ = _ := hD 9 rfl
      clear hD hI
      generalize xs 9 = y9 at *
      subst d9
      go_wp2
      exact hK.out _ _ ⟨rfl, hG, fun _ _ _ _ _ _ h => h⟩
     case o11 =>
      have d10 : _ = _ := hD 10 rfl
      clear hD hI
      generalize xs 10 = y10 at *
      subst d10
      go_wp2
      exact hK.out _ _ ⟨rfl, hG, fun _ _ _ _ _ _ h => h⟩
     case o12 =>
      have d10 : _ = _ := hD 10 rfl
      clear hD hI
      generalize xs 10 = y10 at *
      subst d10
      go_wp2
      exact hK.out _ _ ⟨rfl, hG, fun _ _ _ _ _ _ h => h⟩
     case o13 =>
      have d12 : _ = _ := hD 12 rfl
      have d10 : _ = _ := hD 10 rfl
      clear hD hI
      generalize xs 12 = y12 at *
      generalize xs 10 = y10 at *
      subst d12 d10
      go_wp2_with fail
      refine (impl_QuantStep_inC Q _ (hTk.ext hG) hq16).mono ?_
      rintro e wz ⟨rfl, rfl⟩
      rw [← HS0.out]
      go_wp2
      exact hK.out _ _ ⟨rfl, hG, fun _ _ _ _ _ _ h => h⟩
     case o14 =>
      have d11 : _ = _ := hD 11 rfl
      have d13 : _ = _ := hD 13 rfl
      have d10 : _ = _ := hD 10 rfl
      clear hD hI
      generalize xs 11 = y11 at *
      generalize xs 13 = y13 at *
      generalize xs 10 = y10 at *
      subst d11 d13 d10
      go_wp2
      exact hK.out _ _ ⟨by first | rfl | rw [Hge.out], hG, fun _ _ _ _ _ _ h => h⟩
     case o15 =>
      have d10 : _ = _ := hD 10 rfl
      have d14 : _ = _ := hD 14 rfl
      clear hD hI
      generalize xs 10 = y10 at *
      generalize xs 14 = y14 at *
      subst d10 d14
      go_wp2
      exact hK.out _ _ ⟨rfl, hG, fun _ _ _ _ _ _ h => h⟩
     case o16 =>
      have d15 : _ = _ := hD 15 rfl
      clear hD hI
      generalize xs 15 = y15 at *
      subst d15
      go_wp2
      exact hK.out _ _ ⟨rfl, hG, fun _ _ _ _ _ _ h => h⟩
     all_goals
      clear hD hI
      go_wp2
      exact hK.out _ _ ⟨rfl, hG, fun _ _ _ _ _ _ h => h⟩
    intro xs wx hV hG
    have d16 : _ = _ := hV 16 (by decide)
    clear hV
    simp only [patchS, Nat.reduceAdd, Nat.reduceEqDiff, ↓reduceIte]
    generalize xs 0 = y0 at *
    generalize xs 1 = y1 at *
    generalize xs 2 = y2 at *
    generalize xs 3 = y3 at *
    generalize xs 4 = y4 at *
    generalize xs 5 = y5 at *
    generalize xs 6 = y6 at *
    generalize xs 7 = y7 at *
    generalize xs 8 = y8 at *
    generalize xs 9 = y9 at *
    generalize xs 10 = y10 at *
    generalize xs 11 = y11 at *
    generalize xs 12 = y12 at *
    generalize xs 13 = y13 at *
    generalize xs 14 = y14 at *
    generalize xs 15 = y15 at *
    generalize xs 16 = y16 at *
    replace hG : Ext wr wx := hG
    subst d16
    go_wp2
    go_ret
    exact ⟨rfl, Lk.ex.trans hG⟩
 ·have hc : C = -1 := by rw [HC.out]; exact if_neg hok
  subst hc
  clear HC hok
  go_wp2_with fail
  refine (alive_any _).mono ?_
  rintro e w9 ⟨rfl, e9⟩
  go_wp2
  go_ret
  exact ⟨rfl, L7.ex.trans e9⟩
end Go.Proofs.YtbnhaegidfbgbaaGreatDoor
namespace Go.Proofs.YtbnhaegidfbgbaaGreatDoor
open Go.RowKit Go.ChangeShapes Go.WideShapes
section
variable {H : Type} {enc : TypeId × Value → H} {P : Program} {w : World}
/-- The cells cs read as a value of type t. -/
def Cells (enc : TypeId × Value → H) (P : Program) (w : World) (t : TypeId) (cs : List Value) : Prop :=
 ∃ fuel x, DataW.trod enc P w 0 (fun _ => true) true fuel t cs = some x
theorem Cells.of_trod {t : TypeId} {v : Value} {d : DataW H} {ps : List MemPlace} (h : DataW.Trod enc P w 0 (fun _ => true) true t v d ps) : Cells enc P w t v.cells.toList := by
 obtain ⟨fuel, hf⟩ := h
 exact ⟨fuel, _, hf⟩
theorem Cells.int {t : TypeId} {k : IntKind} {cs : List Value} (h : Cells enc P w t cs) (ht : P.underlying t = some (.int k)) : ∃ n, cs = [.int k n] ∧ (Lit.int k n).wf = true := by
 obtain ⟨fuel, x, hf⟩ := h
 obtain ⟨n, h1, -, h2⟩ := DataW.trod_int ht hf
 exact ⟨n, h1, h2⟩
theorem Cells.bool {t : TypeId} {cs : List Value} (h : Cells enc P w t cs) (ht : P.underlying t = some .bool) : ∃ b, cs = [.bool b] := by
 obtain ⟨fuel, x, hf⟩ := h
 obtain ⟨n, h1, -⟩ := DataW.trod_bool ht hf
 exact ⟨n, h1⟩
theorem add_add (a : Addr) (i j : Nat) : a.add (i + j) = (a.add i).add j := by
 unfold Addr.add
 by_cases h1 : i = 0
 ·subst h1; simp
 ·by_cases h2 : j = 0
  ·subst h2; simp
  ·simp [h1, h2, Nat.add_assoc]
/-- A slice whose elements have c cells each: cell j of element i. -/
theorem Cells.slice {t e : TypeId} {c : Nat} {cs : List Value} (h : Cells enc P w t cs) (ht : P.underlying t = some (.slice e)) (hc : P.cellsOf e = c) :
 ∃ a n cap, cs = [.slice a n cap] ∧ (n ≤ cap ∧ cap ≤ maxLen) ∧ ∀ i, i < n → ∃ x es, a = some x ∧ es.length = c ∧ (∀ j, j < c → w.cell? (x.add (i * c + j)) = es[j]?) ∧ Cells enc P w e es := by
 subst hc
 obtain ⟨fuel, x, hf⟩ := h
 rcases Deep.open_slice ht hf with ⟨rfl, -⟩ | ⟨a, len, cap, m, n, D, Pl, rfl, -, hl, hm, hmm, -, hx⟩
 ·exact ⟨none, 0, 0, rfl, ⟨by omega, by simp⟩, fun i hi => by omega⟩
 ·refine ⟨some a, len, cap, rfl, ⟨hl, hm⟩, fun i hi => ?_⟩
  obtain ⟨cs', h1, h2⟩ := hx i (by simp at hmm; omega)
  obtain ⟨-, hlen, hcell⟩ := World.cells?_some h1
  refine ⟨a, cs', rfl, hlen, fun j hj => ?_, ⟨n, _, h2⟩⟩
  have := hcell j hj
  rw [← this, add_add]
theorem Cells.struct {t : TypeId} {fs : Array Field} {cs : List Value} (h : Cells enc P w t cs) (ht : P.underlying t = some (.struct fs)) :
 cs.length = P.cellsOf t ∧ ∀ (i : Nat) (f : Field), fs[i]? = some f → Cells enc P w f.type ((cs.drop f.offset).take (P.cellsOf f.type)) := by
 obtain ⟨fuel, x, hf⟩ := h
 obtain ⟨xs, n, -, -, h1, h2, h3⟩ := DataW.trod_struct ht hf
 refine ⟨h1, fun i f hi => ?_⟩
 have h4 := h3 i f hi
 have hl : i < xs.length := by
  rw [h2]
  exact (Array.getElem?_eq_some_iff.1 hi).1
 exact ⟨n, xs[i], by rw [h4]; simp [hl]⟩
theorem Cells.array {t e : TypeId} {n : Nat} {cs : List Value} (h : Cells enc P w t cs) (ht : P.underlying t = some (.array n e)) :
 cs.length = P.cellsOf t ∧ ∀ i, i < n → Cells enc P w e ((cs.drop (i * P.cellsOf e)).take (P.cellsOf e)) := by
 obtain ⟨fuel, x, hf⟩ := h
 cases fuel with
 | zero => simp [DataW.trod] at hf
 | succ m =>
  unfold DataW.trod at hf
  rw [ht] at hf
  split at hf <;> simp_all
  obtain ⟨hl, xs, hp, hd⟩ := hf
  intro i hi
  have h4 := mapM_some_get hp i i (by simp [hi])
  have hl : i < xs.length := by rw [mapM_some_length hp]; simpa using hi
  exact ⟨m, xs[i], by rw [h4]; simp [hl]⟩
theorem Sl.of_add {a : Addr} {n : Nat} {xs : List Value} (hl : xs.length = n) (h : ∀ i, i < n → w.cell? (a.add i) = some (xs.getD i undef)) : Sl w (some a) n xs := by
 refine ⟨hl, fun i hi => ?_⟩
 obtain ⟨b, off, spot⟩ := a
 have hc := h 0 (by omega)
 have hs : spot = none := by simpa [Addr.add] using World.cell?_spot hc
 subst hs
 exact ⟨b, off, rfl, by rw [← h i hi, Addr.add_lit]⟩
/-- A list out of a choice for each index. -/
theorem list_of {α : Type} (n : Nat) (p : Nat → α → Prop) (h : ∀ i, i < n → ∃ y, p i y) : ∃ ys : List α, ys.length = n ∧ ∀ i (hi : i < ys.length), p i ys[i] := by
 induction n with
 | zero => exact ⟨[], rfl, fun i hi => by simp at hi⟩
 | succ n ih =>
  obtain ⟨ys, hl, hy⟩ := ih (fun i hi => h i (by omega))
  obtain ⟨y, hp⟩ := h n (by omega)
  refine ⟨ys ++ [y], by simp [hl], fun i hi => ?_⟩
  by_cases h1 : i < ys.length
  ·rw [List.getElem_append_left h1]; exact hy i h1
  ·have : i = n := by simp at hi; omega
   subst this
   rw [List.getElem_append_right (by omega)]
   simpa [hl] using hp
/-- A slice of one-cell elements. -/
theorem Cells.slice1 {t e : TypeId} {cs : List Value} (h : Cells enc P w t cs) (ht : P.underlying t = some (.slice e)) (hc : P.cellsOf e = 1) :
 ∃ a n cap xs, cs = [.slice a n cap] ∧ (n ≤ cap ∧ cap ≤ maxLen) ∧ Sl w a n xs ∧ ∀ x ∈ xs, Cells enc P w e [x] := by
 obtain ⟨a, n, cap, rfl, hn, hx⟩ := h.slice ht hc
 obtain ⟨ys, hl, hy⟩ := list_of (α := Value) n (fun i y => (∃ x, a = some x ∧ w.cell? (x.add i) = some y) ∧ Cells enc P w e [y]) (fun i hi => by
  obtain ⟨x, es, ha, h1, h2, h3⟩ := hx i hi
  match es, h1 with
  | [y], _ => exact ⟨y, ⟨x, ha, by simpa using h2 0 (by omega)⟩, h3⟩)
 refine ⟨a, n, cap, ys, rfl, hn, ?_, ?_⟩
 ·cases a with
  | none =>
   refine ⟨hl, fun i hi => ?_⟩
   obtain ⟨⟨x, hx, -⟩, -⟩ := hy i (by omega)
   simp at hx
  | some a =>
   refine Sl.of_add hl fun i hi => ?_
   obtain ⟨⟨x, hx, hc⟩, -⟩ := hy i (by omega)
   simp only [Option.some.injEq] at hx
   subst hx
   rw [hc]
   simp [show i < ys.length by omega]
 ·intro x hx
  obtain ⟨i, hi, rfl⟩ := List.getElem_of_mem hx
  exact (hy i hi).2
theorem map_of {α : Type} (C : α → Value) (p : α → Prop) (xs : List Value) (h : ∀ x ∈ xs, ∃ z, x = C z ∧ p z) : ∃ zs : List α, xs = zs.map C ∧ ∀ z ∈ zs, p z := by
 induction xs with
 | nil => exact ⟨[], rfl, fun z hz => by simp at hz⟩
 | cons x xs ih =>
  obtain ⟨zs, rfl, hz⟩ := ih (fun y hy => h y (by simp [hy]))
  obtain ⟨z, rfl, hp⟩ := h x (by simp)
  refine ⟨z :: zs, rfl, fun y hy => ?_⟩
  rcases List.mem_cons.1 hy with rfl | hy
  ·exact hp
  ·exact hz y hy
theorem Cells.slice_int {t e : TypeId} {k : IntKind} {cs : List Value} (h : Cells enc P w t cs) (ht : P.underlying t = some (.slice e)) (he : P.underlying e = some (.int k)) (hc : P.cellsOf e = 1) :
 ∃ (a : Option Addr) (n cap : Nat) (zs : List Int), cs = [.slice a n cap] ∧ (n ≤ cap ∧ cap ≤ maxLen) ∧ Sl w a n (zs.map (Value.int k)) ∧ ∀ z ∈ zs, (Lit.int k z).wf = true := by
 obtain ⟨a, n, cap, xs, rfl, hn, s, hx⟩ := h.slice1 ht hc
 obtain ⟨zs, rfl, hz⟩ := map_of (Value.int k) (fun z => (Lit.int k z).wf = true) xs (fun x hx' => by
  obtain ⟨z, h1, h2⟩ := (hx x hx').int he
  exact ⟨z, by simpa using h1, h2⟩)
 exact ⟨a, n, cap, zs, rfl, hn, s, hz⟩
theorem Cells.slice_bool {t e : TypeId} {cs : List Value} (h : Cells enc P w t cs) (ht : P.underlying t = some (.slice e)) (he : P.underlying e = some .bool) (hc : P.cellsOf e = 1) :
 ∃ (a : Option Addr) (n cap : Nat) (zs : List Bool), cs = [.slice a n cap] ∧ (n ≤ cap ∧ cap ≤ maxLen) ∧ Sl w a n (zs.map Value.bool) := by
 obtain ⟨a, n, cap, xs, rfl, hn, s, hx⟩ := h.slice1 ht hc
 obtain ⟨zs, rfl, -⟩ := map_of Value.bool (fun _ => True) xs (fun x hx' => by
  obtain ⟨z, h1⟩ := (hx x hx').bool he
  exact ⟨z, by simpa using h1, trivial⟩)
 exact ⟨a, n, cap, zs, rfl, hn, s⟩
theorem open_sl_int {t e : TypeId} {k : IntKind} {v : Value} {d : DataW H} {ps : List MemPlace} (ht : P.underlying t = some (.slice e)) (he : P.underlying e = some (.int k)) (hc : P.cellsOf e = 1)
 (hv : ∃ a len cap, v = .slice a len cap) (h : DataW.Trod enc P w 0 (fun _ => true) true t v d ps) :
 ∃ (a : Option Addr) (n c : Nat) (zs : List Int), v = .slice a n c ∧ Sl w a n (zs.map (Value.int k)) ∧ (n ≤ c ∧ c ≤ maxLen) ∧ ∀ z ∈ zs, (Lit.int k z).wf = true := by
 obtain ⟨a, n, c, rfl⟩ := hv
 obtain ⟨a', n', c', zs, h1, h2, h3, h4⟩ := (Cells.of_trod h).slice_int ht he hc
 simp [Value.cells] at h1
 obtain ⟨rfl, rfl, rfl⟩ := h1
 exact ⟨a, n, c, zs, rfl, h3, h2, h4⟩
theorem open_sl_bool {t e : TypeId} {v : Value} {d : DataW H} {ps : List MemPlace} (ht : P.underlying t = some (.slice e)) (he : P.underlying e = some .bool) (hc : P.cellsOf e = 1)
 (hv : ∃ a len cap, v = .slice a len cap) (h : DataW.Trod enc P w 0 (fun _ => true) true t v d ps) :
 ∃ (a : Option Addr) (n c : Nat) (zs : List Bool), v = .slice a n c ∧ Sl w a n (zs.map Value.bool) ∧ (n ≤ c ∧ c ≤ maxLen) := by
 obtain ⟨a, n, c, rfl⟩ := hv
 obtain ⟨a', n', c', zs, h1, h2, h3⟩ := (Cells.of_trod h).slice_bool ht he hc
 simp [Value.cells] at h1
 obtain ⟨rfl, rfl, rfl⟩ := h1
 exact ⟨a, n, c, zs, rfl, h3, h2⟩
end
end Go.Proofs.YtbnhaegidfbgbaaGreatDoor
