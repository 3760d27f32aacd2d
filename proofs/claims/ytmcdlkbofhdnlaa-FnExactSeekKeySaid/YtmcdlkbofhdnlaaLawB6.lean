/- FnExactSamplesValid, FnExactSeekKey: the walks of the laws. -/
import Derived.Test.YtmcdlkbofhdnlaaS3
namespace Go.Proofs.Ytmcdlkbofhdnlaa
open Go.RowKit
set_option maxHeartbeats 400000

theorem law_FnExactSamplesValid (a : Option Addr) (c n : Nat) (L : List Smp) (w : World) (hn0 : n ≤ c ∧ c ≤ maxLen) (r : SP w a n L) (_wf : ∀ x ∈ L, (Lit.int .i64 x.1).wf = true ∧ ∀ z ∈ x.2.2, (Lit.int .u8 z).wf = true) :
    Calls Try.prog 4 #[.slice a n c] w fun e w' => e = .returned (.bool true) ∧ Ext w w' := by
  have hn : n ≤ 9223372036854775807 := Nat.le_trans hn0.1 hn0.2
  clear hn0
  go_enter Try.func4, Try.ntmps4
  go_wp2_with fail
  refine (szSampleS_any a c n L _ hn (r.ext (by (repeat (first | exact Below.refl _ _ | assumption | refine below_drewN ?_ _ | refine Below.drew ?_ | refine Ext.trans ?_ (Ext.alloc _ _) | refine Below.setCell ?_ (by simp <;> omega) _))))).mono ?_
  rintro e w1 ⟨x, rfl, hx, e1⟩
  have E1 : Ext w w1 := by refine Ext.trans ?_ e1; (repeat (first | exact Below.refl _ _ | assumption | refine below_drewN ?_ _ | refine Below.drew ?_ | refine Ext.trans ?_ (Ext.alloc _ _) | refine Below.setCell ?_ (by simp <;> omega) _))
  clear e1
  by_cases hneg : x < 0
  · go_wp2
    go_ret
    exact ⟨rfl, E1⟩
  have hd : decide (x < 0) = false := by simpa using hneg
  obtain ⟨hn2, hL⟩ := hx (by omega)
  have hL2 : ∀ x ∈ L, x.2.2.length < 2^45 := fun x hx => by have := hL x hx; omega
  clear hx hL
  have HL := Lib.hid hL2
  clear hL2
  go_wp2_with fail
  refine (toSampleS_any a c n L _ (by omega) (r.ext E1) HL.out).mono ?_
  rintro e w2 ⟨a2, c2, rfl, r2, e2⟩
  have E2 := E1.trans e2
  clear e2
  go_wp2_with fail
  refine (spec_SamplesValid_any a2 c2 n L _ hn r2).mono ?_
  rintro e w3 ⟨rfl, m3, rfl⟩
  have E3 : Ext w (w2.drewN m3) := below_drewN E2 m3
  go_wp2_with fail
  refine (toSampleS_any a c n L _ (by omega) (r.ext E3) HL.out).mono ?_
  rintro e w4 ⟨a4, c4, rfl, r4, e4⟩
  have E4 := E3.trans e4
  clear e4
  go_wp2_with fail
  refine (impl_SamplesValid_any a4 c4 n L _ hn r4).mono ?_
  rintro e w5 ⟨rfl, e5⟩
  have E5 := E4.trans e5
  have r5 := r4.ext e5
  clear e5
  have hy : (svalid L != svalid L) = false := by simp
  go_wp2_with fail
  refine (toSampleS_any a c n L _ (by omega) (r.ext E5) HL.out).mono ?_
  rintro e w6 ⟨a6, c6, rfl, r6, e6⟩
  have E6 := E5.trans e6
  have s6 := r5.ext e6
  clear e6
  go_wp2_with fail
  refine (eqSampleS_same a4 a6 c4 c6 n L _ (by omega) HL.out s6 r6).mono ?_
  rintro e w7 ⟨rfl, e7⟩
  have E7 := E6.trans e7
  go_wp2
  go_ret
  exact ⟨rfl, E7⟩

theorem law_FnExactSeekKey (a : Option Addr) (c n : Nat) (L : List Smp) (t : Int) (_w0 : (Lit.int .i64 t).wf = true) (w : World) (hn0 : n ≤ c ∧ c ≤ maxLen) (r : SP w a n L) (_wf : ∀ x ∈ L, (Lit.int .i64 x.1).wf = true ∧ ∀ z ∈ x.2.2, (Lit.int .u8 z).wf = true) :
    Calls Try.prog 8 #[.slice a n c, .int .i64 t] w fun e w' => e = .returned (.bool true) ∧ Ext w w' := by
  have hn : n ≤ 9223372036854775807 := Nat.le_trans hn0.1 hn0.2
  clear hn0
  go_enter Try.func8, Try.ntmps8
  go_wp2_with fail
  refine (szSampleS_any a c n L _ hn (r.ext (by (repeat (first | exact Below.refl _ _ | assumption | refine below_drewN ?_ _ | refine Below.drew ?_ | refine Ext.trans ?_ (Ext.alloc _ _) | refine Below.setCell ?_ (by simp <;> omega) _))))).mono ?_
  rintro e w1 ⟨x, rfl, hx, e1⟩
  have E1 : Ext w w1 := by refine Ext.trans ?_ e1; (repeat (first | exact Below.refl _ _ | assumption | refine below_drewN ?_ _ | refine Below.drew ?_ | refine Ext.trans ?_ (Ext.alloc _ _) | refine Below.setCell ?_ (by simp <;> omega) _))
  clear e1
  by_cases hneg : x < 0
  · go_wp2
    go_ret
    exact ⟨rfl, E1⟩
  have hd : decide (x < 0) = false := by simpa using hneg
  obtain ⟨hn2, hL⟩ := hx (by omega)
  have hL2 : ∀ x ∈ L, x.2.2.length < 2^45 := fun x hx => by have := hL x hx; omega
  clear hx hL
  have HL := Lib.hid hL2
  clear hL2
  go_wp2_with fail
  refine (toSampleS_any a c n L _ (by omega) (r.ext E1) HL.out).mono ?_
  rintro e w2 ⟨a2, c2, rfl, r2, e2⟩
  have E2 := E1.trans e2
  clear e2
  go_wp2_with fail
  refine (spec_SeekKey_any a2 c2 n L t _ hn r2).mono ?_
  rintro e w3 ⟨rfl, e3⟩
  have E3 := E2.trans e3
  clear e3
  go_wp2_with fail
  refine (toSampleS_any a c n L _ (by omega) (r.ext E3) HL.out).mono ?_
  rintro e w4 ⟨a4, c4, rfl, r4, e4⟩
  have E4 := E3.trans e4
  clear e4
  go_wp2_with fail
  refine (impl_SeekKey_any a4 c4 n L t _ hn r4).mono ?_
  rintro e w5 ⟨rfl, e5⟩
  have E5 := E4.trans e5
  have r5 := r4.ext e5
  clear e5
  have hy : (seekV L t != seekV L t) = false := by simp
  go_wp2_with fail
  refine (toSampleS_any a c n L _ (by omega) (r.ext E5) HL.out).mono ?_
  rintro e w6 ⟨a6, c6, rfl, r6, e6⟩
  have E6 := E5.trans e6
  have s6 := r5.ext e6
  clear e6
  go_wp2_with fail
  refine (eqSampleS_same a4 a6 c4 c6 n L _ (by omega) HL.out s6 r6).mono ?_
  rintro e w7 ⟨rfl, e7⟩
  have E7 := E6.trans e7
  go_wp2
  go_ret
  exact ⟨rfl, E7⟩
end Go.Proofs.Ytmcdlkbofhdnlaa
