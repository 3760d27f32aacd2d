/- FnExactInterleave: the program's Interleave returns what the reference's returns: the walk of the law. -/
import Derived.Test.YtfcgnhgocdoimaaA3
namespace Go.Proofs.Ytfcgnhgocdoimaa
open Go.RowKit
set_option maxHeartbeats 400000

theorem law_FnExactInterleave (x0 : Int) (_w0 : (Lit.int .i64 x0).wf = true) (x1 : Int) (_w1 : (Lit.int .i64 x1).wf = true) (w : World) :
    Calls Try.prog 7 #[.int .i64 x0, .int .i64 x1] w fun e w' => e = .returned (.bool true) ∧ Ext w w' := by
  obtain ⟨n, hN⟩ : ∃ n, n = (inter x0 x1).length := ⟨_, rfl⟩
  have hn : n ≤ 1000000 := by have := inter_len x0 x1; omega
  have HN := Lib.hid hN
  clear hN
  go_enter Try.func7, Try.ntmps7
  go_wp2_with fail
  refine (spec_Interleave_any x0 x1 w).mono ?_
  rintro e w1 ⟨v1, rfl, own1, e1⟩
  rw [← HN.out] at own1
  obtain ⟨a1, c1, rfl⟩ := owns_form own1
  have s1 := Sl.of_owns own1
  go_wp2_with fail
  refine (impl_Interleave_any x0 x1 w1).mono ?_
  rintro e w2 ⟨v2, rfl, own2, e2⟩
  rw [← HN.out] at own2
  obtain ⟨a2, c2, rfl⟩ := owns_form own2
  have s2 := Sl.of_owns own2
  go_wp2_with fail
  refine (eqIntS_any a2 a1 c2 c1 n n _ _ w2 (by omega) (by omega) s2 (s1.ext e2)).mono ?_
  rintro e w3 ⟨he, m3, rfl⟩
  rw [decide_eq_true rfl] at he
  subst he
  go_wp2_with fail
  refine (markIntS_any (.slice a2 n c2) n _ 1 w1.heap.size _ (by omega) (by omega) (by omega) (owns_drewN own2 m3)).mono ?_
  rintro e w4 ⟨rfl, own4, g4⟩
  have s4 := Sl.of_owns own4
  have hb4 : ∀ k, (Value.slice a2 n c2).ownBlock = some k → w1.heap.size ≤ k := owns_ge own4
  have E4 : Ext w1 w4 := Ext.grown (e2.trans_drewN m3) g4 hb4
  go_wp2_with fail
  refine (heldIntS_any a2 c2 n 1 w4 (by omega) (by omega) (by omega) s4).mono ?_
  rintro e w5 ⟨rfl, m5, rfl⟩
  have hq : ((1 : Int) + n != 1 + (n : Int)) = false := by simp
  go_wp2_with fail
  refine (impl_Interleave_any x0 x1 _).mono ?_
  rintro e w6 ⟨v6, rfl, own6, e6⟩
  rw [← HN.out] at own6
  obtain ⟨a6, c6, rfl⟩ := owns_form own6
  have s6 := Sl.of_owns own6
  have E6 : Ext w4 w6 := (Ext.drewN w4 m5).trans e6
  go_wp2_with fail
  refine (eqIntS_any a6 a1 c6 c1 n n _ _ w6 (by omega) (by omega) s6 (s1.ext (E4.trans E6))).mono ?_
  rintro e w7 ⟨he, m7, rfl⟩
  rw [decide_eq_true rfl] at he
  subst he
  go_wp2_with fail
  refine (heldIntS_any a2 c2 n 1 _ (by omega) (by omega) (by omega) ((s4.ext E6).drewN m7)).mono ?_
  rintro e w8 ⟨rfl, m8, rfl⟩
  go_wp2
  go_ret
  exact ⟨rfl, (e1.trans (E4.trans E6)).trans_drewN _⟩
end Go.Proofs.Ytfcgnhgocdoimaa
