/- FnBufferTake: the walk of the law. -/
import Derived.Test.YtfcgnhgocdoimaaLawC1
import Derived.Test.YtfcgnhgocdoimaaD4
import Derived.Test.YtfcgnhgocdoimaaA5
namespace Go.Proofs.Ytfcgnhgocdoimaa
open Go.RowKit
set_option maxHeartbeats 400000

set_option maxRecDepth 100000 in
set_option maxHeartbeats 2000000 in
theorem law_FnBufferTake (a : Option Addr) (c n : Nat) (zs : List Int) (w : World) (hn0 : n ≤ c ∧ c ≤ maxLen) (sl : Sl w a n (zs.map (Value.int .u8))) (wf : ∀ z ∈ zs, (Lit.int .u8 z).wf = true) :
    Calls Try.prog 11 #[.slice a n c] w fun e w' => e = .returned (.bool true) ∧ Ext w w' := by
  have hn : n ≤ c ∧ c ≤ 9223372036854775807 := ⟨hn0.1, hn0.2⟩
  clear hn0
  have hz := Lib.hid (byte_range wf)
  clear wf
  by_cases hbig : 1048576 < n
  · go_enter Try.func11, Try.ntmps11
    go_wp2
    go_ret
    refine ⟨rfl, ?_⟩
    (repeat (first | with_reducible exact Below.refl _ _ | assumption | with_reducible refine below_drewN ?_ _ | with_reducible refine Below.drew ?_ | with_reducible refine Below.setCell ?_ (by simp <;> omega) _ | with_reducible refine Ext.trans ?_ (Ext.alloc _ _)))
  go_enter Try.func11, Try.ntmps11
  go_wp2_with fail
  refine (DrawBufferTake_any a c n zs _ hn.1 hn.2 (sl.ext (by (repeat (first | with_reducible exact Below.refl _ _ | assumption | with_reducible refine below_drewN ?_ _ | with_reducible refine Below.drew ?_ | with_reducible refine Below.setCell ?_ (by simp <;> omega) _ | with_reducible refine Ext.trans ?_ (Ext.alloc _ _))))) hz.out).mono ?_
  rintro e w1 ⟨s, r, f, x, rfl, hs, hr, hf, hx0, hx1, e1⟩
  have E1 : Ext w w1 := by refine Ext.trans ?_ e1; (repeat (first | with_reducible exact Below.refl _ _ | assumption | with_reducible refine below_drewN ?_ _ | with_reducible refine Below.drew ?_ | with_reducible refine Below.setCell ?_ (by simp <;> omega) _ | with_reducible refine Ext.trans ?_ (Ext.alloc _ _)))
  clear sl hz e1
  obtain ⟨hs0, hs1⟩ := hs
  obtain ⟨hr0, hr1⟩ := hr
  obtain ⟨hf0, hf1⟩ := hf
  have p1 := blk_new w1 (.cells #[.int .i64 s, .int .i64 r, .int .i64 f] 33)
  go_wp2_with fail
  refine (impl_BufferTake_any s r f x _).mono ?_
  rintro e w2 ⟨he, e2⟩
  obtain ⟨X, hX⟩ : ∃ X, X = btake s r f x := ⟨_, rfl⟩
  have HX := Lib.hid hX
  rw [← hX] at he
  clear hX
  obtain ⟨⟨X0, X1, X2⟩, ok⟩ := X
  subst he
  unfold btV
  have E2 : Ext w w2 := (E1.trans (Ext.alloc _ _)).trans e2
  have p2 := e2.blk p1
  clear p1 E1 e2
  have q2 := blk_new w2 (.cells #[.int .i64 X0, .int .i64 X1, .int .i64 X2] 33)
  have p3 := blk_alloc p2 (.cells #[.int .i64 X0, .int .i64 X1, .int .i64 X2] 33)
  generalize w1.heap.size = B1 at *
  obtain ⟨m0, m1, m2, m3, m4, m5, m6⟩ := bx3 p2
  go_wp2_with fail
  refine (spec_BufferTake_any s r f x _).mono ?_
  rintro e w3 ⟨he, e3⟩
  rw [← HX.out] at he
  subst he
  unfold btV
  have E3 : Ext w w3 := (E2.trans (Ext.alloc _ _)).trans e3
  have p4 := blk_alloc (e3.blk p3) (.cells #[.int .i64 X0, .int .i64 X1, .int .i64 X2] 33)
  have q4 := blk_alloc (e3.blk q2) (.cells #[.int .i64 X0, .int .i64 X1, .int .i64 X2] 33)
  have p5 := e3.blk p3
  have q5 := e3.blk q2
  clear p2 p3 q2 m0 m1 m2 m3 m4 m5 m6 E2 e3
  generalize w2.heap.size = B2 at *
  obtain ⟨m0, m1, m2, m3, m4, m5, m6⟩ := bx3 p5
  obtain ⟨n0, n1, n2, n3, n4, n5, n6⟩ := bx3 q5
  have E4 := E3.trans (Ext.alloc w3 (.cells #[.int .i64 X0, .int .i64 X1, .int .i64 X2] 33))
  by_cases h : vbuf s r f ∧ 0 ≤ x
  · obtain ⟨hv, hx⟩ := h
    by_cases h1 : f < x
    · have hb : ((X0, X1, X2), ok) = ((s, r, f), false) := by rw [HX.out]; unfold btake; rw [if_pos ⟨hv, hx⟩, if_pos h1]
      simp only [Prod.mk.injEq] at hb
      obtain ⟨⟨rfl, rfl, rfl⟩, rfl⟩ := hb
      go_wp2_with fail
      refine (spec_BufferValid_yes X0 X1 X2 _ hv).mono ?_
      rintro e w5 ⟨rfl, e5⟩
      have E5 := E4.trans e5
      obtain ⟨i0, i1, i2, i3, i4, i5, i6⟩ := bx3 (e5.blk p4)
      obtain ⟨j0, j1, j2, j3, j4, j5, j6⟩ := bx3 (e5.blk q4)
      go_wp2
      go_ret
      exact ⟨by simp, E5⟩
    · have hb : ((X0, X1, X2), ok) = ((s, r, f - x), true) := by rw [HX.out]; unfold btake; rw [if_pos ⟨hv, hx⟩, if_neg h1]
      simp only [Prod.mk.injEq] at hb
      obtain ⟨⟨rfl, rfl, h2⟩, rfl⟩ := hb
      have H2 := Lib.hid h2
      clear h2
      go_wp2_with fail
      refine (spec_BufferValid_yes X0 X1 f _ hv).mono ?_
      rintro e w5 ⟨rfl, e5⟩
      have E5 := E4.trans e5
      obtain ⟨i0, i1, i2, i3, i4, i5, i6⟩ := bx3 (e5.blk p4)
      obtain ⟨j0, j1, j2, j3, j4, j5, j6⟩ := bx3 (e5.blk q4)
      go_wp2
      go_ret
      exact ⟨by simp [H2.out], E5⟩
  · have hb : ((X0, X1, X2), ok) = ((0, 0, 0), false) := by rw [HX.out]; unfold btake; rw [if_neg h]
    simp only [Prod.mk.injEq] at hb
    obtain ⟨⟨rfl, rfl, rfl⟩, rfl⟩ := hb
    by_cases hv : vbuf s r f
    · have hx : x < 0 := by
        have : ¬ 0 ≤ x := fun h2 => h ⟨hv, h2⟩
        omega
      clear h
      go_wp2_with fail
      refine (spec_BufferValid_yes s r f _ hv).mono ?_
      rintro e w5 ⟨rfl, e5⟩
      have E5 := E4.trans e5
      obtain ⟨i0, i1, i2, i3, i4, i5, i6⟩ := bx3 (e5.blk p4)
      obtain ⟨j0, j1, j2, j3, j4, j5, j6⟩ := bx3 (e5.blk q4)
      go_wp2_with fail
      refine (alive_any _).mono ?_
      rintro e w6 ⟨rfl, e6⟩
      have E6 := E5.trans e6
      go_wp2
      go_ret
      exact ⟨by simp, E6⟩
    · clear h
      go_wp2_with fail
      refine (spec_BufferValid_no s r f _ hv).mono ?_
      rintro e w5 ⟨rfl, e5⟩
      have E5 := E4.trans e5
      obtain ⟨i0, i1, i2, i3, i4, i5, i6⟩ := bx3 (e5.blk p4)
      obtain ⟨j0, j1, j2, j3, j4, j5, j6⟩ := bx3 (e5.blk q4)
      go_wp2_with fail
      refine (alive_any _).mono ?_
      rintro e w6 ⟨rfl, e6⟩
      have E6 := E5.trans e6
      go_wp2
      go_ret
      exact ⟨by simp, E6⟩
end Go.Proofs.Ytfcgnhgocdoimaa
