/- FnExactAverageRate: the program's AverageRate returns what the reference's returns: the walk of the law. -/
import Derived.Test.YtfcgnhgocdoimaaA4
namespace Go.Proofs.Ytfcgnhgocdoimaa
open Go.RowKit
set_option maxHeartbeats 400000

theorem law_FnExactAverageRate (a : Option Addr) (c n : Nat) (xs : List Int) (w : World) (hn0 : n ≤ c ∧ c ≤ maxLen) (r : Sl w a n (xs.map (Value.int .i64))) (_wf : ∀ z ∈ xs, (Lit.int .i64 z).wf = true) :
    Calls Try.prog 6 #[.slice a n c] w fun e w' => e = .returned (.bool true) ∧ Ext w w' := by
  have hn : n ≤ 9223372036854775807 := Nat.le_trans hn0.1 hn0.2
  clear hn0
  by_cases hbig : 1048576 < n
  · go_enter Try.func6, Try.ntmps6
    go_wp2
    go_ret
    exact ⟨rfl, Below.refl _ _⟩
  · go_enter Try.func6, Try.ntmps6
    go_wp2_with fail
    refine (toIntS_any a c n xs w (by omega) r).mono ?_
    rintro e w1 ⟨v1, rfl, own1, e1⟩
    obtain ⟨a1, c1, rfl⟩ := owns_form own1
    have s1 := Sl.of_owns own1
    go_wp2_with fail
    refine (spec_AverageRate_any a1 c1 n xs w1 (by omega) s1).mono ?_
    rintro e w2 ⟨rfl, m, rfl⟩
    go_wp2_with fail
    refine (toIntS_any a c n xs _ (by omega) (r.ext (e1.trans_drewN m))).mono ?_
    rintro e w2 ⟨v2, rfl, own2, e2⟩
    obtain ⟨a2, c2, rfl⟩ := owns_form own2
    have s2 := Sl.of_owns own2
    go_wp2_with fail
    refine (impl_AverageRate_any a2 c2 n xs w2 (by omega) s2).mono ?_
    rintro e w3 ⟨rfl, m3, rfl⟩
    go_wp2_with fail
    have E3 : Ext w (w2.drewN m3) := ((e1.trans_drewN m).trans e2).trans_drewN m3
    refine (toIntS_any a c n xs _ (by omega) (r.ext E3)).mono ?_
    rintro e w4 ⟨v4, rfl, own4, e4⟩
    obtain ⟨a4, c4, rfl⟩ := owns_form own4
    have s4 := Sl.of_owns own4
    have s2' := (s2.drewN m3).ext e4
    go_wp2_with fail
    refine (eqIntS_any a2 a4 c2 c4 n n xs xs w4 (by omega) (by omega) s2' s4).mono ?_
    rintro e w5 ⟨he, m5, rfl⟩
    rw [decide_eq_true rfl] at he
    subst he
    go_wp2
    go_ret
    exact ⟨rfl, (E3.trans e4).trans_drewN m5⟩
end Go.Proofs.Ytfcgnhgocdoimaa
