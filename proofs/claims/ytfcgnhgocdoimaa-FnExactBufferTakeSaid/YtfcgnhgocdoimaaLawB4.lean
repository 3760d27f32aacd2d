/- FnExactBufferTake: the walk of the law. -/
import Derived.Test.YtfcgnhgocdoimaaA5
namespace Go.Proofs.Ytfcgnhgocdoimaa
open Go.RowKit
set_option maxHeartbeats 400000

theorem law_FnExactBufferTake (s : Int) (_w0 : (Lit.int .i64 s).wf = true) (r : Int) (_w1 : (Lit.int .i64 r).wf = true) (f : Int) (_w2 : (Lit.int .i64 f).wf = true) (b : Int) (_w3 : (Lit.int .i64 b).wf = true) (w : World) :
    Calls Try.prog 5 #[.agg #[.int .i64 s, .int .i64 r, .int .i64 f], .int .i64 b] w fun e w' => e = .returned (.bool true) ∧ Ext w w' := by
  obtain ⟨x, hx⟩ : ∃ x, x = (btake s r f b).1 := ⟨_, rfl⟩
  obtain ⟨y, hy⟩ : ∃ y, y = (btake s r f b).2 := ⟨_, rfl⟩
  have HX := Lib.hid hx
  have HY := Lib.hid hy
  clear hx hy
  obtain ⟨x0, x1, x2⟩ := x
  go_enter Try.func5, Try.ntmps5
  have p0 := blk_new w (.cells #[.int .i64 s, .int .i64 r, .int .i64 f] 32)
  go_wp2_with fail
  refine (toBuffer_any s r f _).mono ?_
  rintro e w1 ⟨rfl, e1⟩
  have E1 : Ext w w1 := by refine Ext.trans ?_ e1; (repeat (first | exact Below.refl _ _ | assumption | refine below_drewN ?_ _ | refine Below.drew ?_ | refine Below.alloc ?_ (by simp <;> omega) _ | refine Below.setCell ?_ (by simp <;> omega) _))
  have p1 := e1.blk p0
  obtain ⟨q1, q2, q3, q4, -⟩ := bx3 p1
  clear p0 e1
  go_wp2_with fail
  refine (spec_BufferTake_any s r f b _).mono ?_
  rintro e w2 ⟨he, e2⟩
  rw [← HX.out, ← HY.out] at he
  subst he
  unfold btV
  have E2 : Ext w w2 := E1.trans e2
  have p2 := e2.blk p1
  clear q1 q2 q3 q4 p1 e2
  obtain ⟨q1, q2, q3, q4, -⟩ := bx3 p2
  have r2 := blk_new w2 (.cells #[.int .i64 x0, .int .i64 x1, .int .i64 x2] 33)
  go_wp2_with fail
  refine (toBuffer_any s r f _).mono ?_
  rintro e w3 ⟨rfl, e3⟩
  have E3 : Ext w w3 := E2.trans (by refine Ext.trans ?_ e3; (repeat (first | exact Below.refl _ _ | assumption | refine below_drewN ?_ _ | refine Below.drew ?_ | refine Below.alloc ?_ (by simp <;> omega) _ | refine Below.setCell ?_ (by simp <;> omega) _)))
  have r3 := e3.blk r2
  clear q1 q2 q3 q4 p2 e3 r2
  go_wp2_with fail
  refine (impl_BufferTake_any s r f b _).mono ?_
  rintro e w4 ⟨he, e4⟩
  rw [← HX.out, ← HY.out] at he
  subst he
  unfold btV
  have E4 : Ext w w4 := E3.trans e4
  have r4 := e4.blk r3
  obtain ⟨q1, q2, q3, q4, -⟩ := bx3 r4
  clear e4 r3 r4
  go_wp2_with fail
  refine (eqBuffer_same x0 x1 x2 _).mono ?_
  rintro e w5 ⟨rfl, e5⟩
  have E5 : Ext w w5 := E4.trans (by refine Ext.trans ?_ e5; (repeat (first | exact Below.refl _ _ | assumption | refine below_drewN ?_ _ | refine Below.drew ?_ | refine Below.alloc ?_ (by simp <;> omega) _ | refine Below.setCell ?_ (by simp <;> omega) _)))
  go_wp2
  go_ret
  exact ⟨rfl, E5⟩
end Go.Proofs.Ytfcgnhgocdoimaa
