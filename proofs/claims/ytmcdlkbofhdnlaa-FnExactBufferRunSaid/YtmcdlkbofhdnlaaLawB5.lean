/- FnExactBufferRun: the walk of the law. -/
import Derived.Test.YtmcdlkbofhdnlaaA6
namespace Go.Proofs.Ytmcdlkbofhdnlaa
open Go.RowKit
set_option maxHeartbeats 400000

theorem law_FnExactBufferRun (s : Int) (_w0 : (Lit.int .i64 s).wf = true) (r : Int) (_w1 : (Lit.int .i64 r).wf = true) (f : Int) (_w2 : (Lit.int .i64 f).wf = true) (a : Option Addr) (c n : Nat) (xs : List Int) (w : World) (hn0 : n ≤ c ∧ c ≤ maxLen) (sl : Sl w a n (xs.map (Value.int .i64))) (_w3 : ∀ z ∈ xs, (Lit.int .i64 z).wf = true) :
    Calls Try.prog 5 #[.agg #[.int .i64 s, .int .i64 r, .int .i64 f], .slice a n c] w fun e w' => e = .returned (.bool true) ∧ Ext w w' := by
  have hn : n ≤ 9223372036854775807 := Nat.le_trans hn0.1 hn0.2
  clear hn0
  by_cases hbig : 1048576 < n
  · go_enter Try.func5, Try.ntmps5
    go_wp2
    go_ret
    refine ⟨rfl, ?_⟩
    (repeat (first | exact Below.refl _ _ | assumption | refine below_drewN ?_ _ | refine Below.drew ?_ | refine Ext.trans ?_ (Ext.alloc _ _) | refine Below.setCell ?_ (by simp <;> omega) _))
  obtain ⟨y, hy⟩ : ∃ y, y = brunN s r f xs := ⟨_, rfl⟩
  obtain ⟨x, hx⟩ : ∃ x, x = brunB s r f xs := ⟨_, rfl⟩
  have HX := Lib.hid hx
  have HY := Lib.hid hy
  clear hx hy
  obtain ⟨x0, x1, x2⟩ := x
  go_enter Try.func5, Try.ntmps5
  have p0 := blk_new w (.cells #[.int .i64 s, .int .i64 r, .int .i64 f] 36)
  go_wp2_with fail
  refine (toBuffer_any s r f _).mono ?_
  rintro e w1 ⟨rfl, e1⟩
  have E1 : Ext w w1 := by refine Ext.trans ?_ e1; (repeat (first | exact Below.refl _ _ | assumption | refine below_drewN ?_ _ | refine Below.drew ?_ | refine Ext.trans ?_ (Ext.alloc _ _) | refine Below.setCell ?_ (by simp <;> omega) _))
  have p1 := e1.blk p0
  clear p0 e1
  go_wp2_with fail
  refine (toIntS_any a c n xs _ (by omega) (sl.ext E1)).mono ?_
  rintro e w2 ⟨v2, rfl, own2, e2⟩
  obtain ⟨a2, c2, rfl⟩ := owns_form own2
  have E2 := E1.trans e2
  have p2 := e2.blk p1
  clear p1 e2
  go_wp2_with fail
  refine (spec_BufferRun_any s r f a2 c2 n xs _ (by omega) (Sl.of_owns own2)).mono ?_
  rintro e w3 ⟨he, e3⟩
  rw [← HX.out, ← HY.out] at he
  subst he
  unfold btV
  have E3 := E2.trans e3
  have p3 := e3.blk p2
  clear p2 e3
  have r3 := blk_new w3 (.cells #[.int .i64 x0, .int .i64 x1, .int .i64 x2] 38)
  obtain ⟨q0, q1, q2, q3, -⟩ := bx3 p3
  go_wp2_with fail
  have E3' : Ext w (w3.alloc (.cells #[.int .i64 x0, .int .i64 x1, .int .i64 x2] 38)) := by (repeat (first | exact Below.refl _ _ | assumption | refine below_drewN ?_ _ | refine Below.drew ?_ | refine Ext.trans ?_ (Ext.alloc _ _) | refine Below.setCell ?_ (by simp <;> omega) _))
  refine (toIntS_any a c n xs _ (by omega) (sl.ext E3')).mono ?_
  rintro e w4 ⟨v4, rfl, own4, e4⟩
  obtain ⟨a4, c4, rfl⟩ := owns_form own4
  have s4 := Sl.of_owns own4
  have E4 := E3'.trans e4
  have p4 := e4.blk (blk_alloc p3 _)
  have r4 := e4.blk r3
  clear q0 q1 q2 q3 p3 r3 e4 E3'
  obtain ⟨q0, q1, q2, q3, -⟩ := bx3 p4
  go_wp2_with fail
  refine (toBuffer_any s r f _).mono ?_
  rintro e w5 ⟨rfl, e5⟩
  have E5 := E4.trans e5
  have r5 := e5.blk r4
  have s5 := s4.ext e5
  clear q0 q1 q2 q3 p4 r4 s4 e5
  go_wp2_with fail
  refine (impl_BufferRun_any s r f a4 c4 n xs _ (by omega) s5).mono ?_
  rintro e w6 ⟨he, e6⟩
  rw [← HX.out, ← HY.out] at he
  subst he
  unfold btV
  have E6 := E5.trans e6
  have r6 := e6.blk r5
  have s6 := s5.ext e6
  clear r5 s5 e6
  obtain ⟨q0, q1, q2, q3, -⟩ := bx3 r6
  have hy : (y != y) = false := by simp
  go_wp2_with fail
  refine (eqBuffer_same x0 x1 x2 _).mono ?_
  rintro e w7 ⟨rfl, e7⟩
  have E7 : Ext w w7 := E6.trans (by refine Ext.trans ?_ e7; (repeat (first | exact Below.refl _ _ | assumption | refine below_drewN ?_ _ | refine Below.drew ?_ | refine Ext.trans ?_ (Ext.alloc _ _) | refine Below.setCell ?_ (by simp <;> omega) _)))
  have s7 : Sl w7 a4 n (xs.map (Value.int .i64)) := s6.ext (by refine Ext.trans ?_ e7; (repeat (first | exact Below.refl _ _ | assumption | refine below_drewN ?_ _ | refine Below.drew ?_ | refine Ext.trans ?_ (Ext.alloc _ _) | refine Below.setCell ?_ (by simp <;> omega) _)))
  go_wp2_with fail
  refine (toIntS_any a c n xs _ (by omega) (sl.ext E7)).mono ?_
  rintro e w8 ⟨v8, rfl, own8, e8⟩
  obtain ⟨a8, c8, rfl⟩ := owns_form own8
  go_wp2_with fail
  refine (eqIntS_any a4 a8 c4 c8 n n xs xs _ (by omega) (by omega) (s7.ext e8) (Sl.of_owns own8)).mono ?_
  rintro e w9 ⟨he, m9, rfl⟩
  rw [decide_eq_true rfl] at he
  subst he
  go_wp2
  go_ret
  exact ⟨rfl, (E7.trans e8).trans_drewN m9⟩
end Go.Proofs.Ytmcdlkbofhdnlaa
