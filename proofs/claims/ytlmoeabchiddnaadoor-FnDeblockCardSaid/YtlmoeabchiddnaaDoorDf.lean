/- The deblocking filter of one edge, both sides; its limit. -/
import Derived.Test.YtlmoeabchiddnaaDoorDbp
import Derived.Test.YtlmoeabchiddnaaDoorQz
namespace Go.Proofs.YtlmoeabchiddnaaDoor
open Go.RowKit
set_option maxHeartbeats 1000000
/-- The largest change. -/
def flim (q : Nat) : Int := min (stp q / 8) 12
theorem flim_rng {q : Nat} (hq : q < 16) : 0 ≤ flim q ∧ flim q ≤ 12 := by
  have := stp_rng hq
  unfold flim
  omega
theorem flim_fine {q : Nat} (hq : q ≤ 2) : flim q = 0 := by
  have : ∀ q, q ≤ 2 → flim q = 0 := by decide
  exact this q hq
theorem ret_two {x y x' y' : Int} (h : x = x') (h2 : y = y') : Ending.returned (.tuple #[.int .i64 x, .int .i64 y]) = .returned (.tuple #[.int .i64 x', .int .i64 y']) := by rw [h, h2]
theorem filtered_any (a b c d L : Int) (w : World) (ha : 0 ≤ a ∧ a ≤ 255) (hb : 0 ≤ b ∧ b ≤ 255) (hc : 0 ≤ c ∧ c ≤ 255) (hd : 0 ≤ d ∧ d ≤ 255) (hL : 0 ≤ L ∧ L ≤ 12) :
    Calls Tryd.prog 72 #[.int .i64 a, .int .i64 b, .int .i64 c, .int .i64 d, .int .i64 L] w fun e w' => e = .returned (.tuple #[.int .i64 (flt a b c d L).1, .int .i64 (flt a b c d L).2]) ∧ w = w' := by
  have HF := Lib.hid (show flt a b c d L = if 4 * L ≤ absI (b - c) then (b, c) else (clipI (b + fltE a b c d L) 0 255, clipI (c - fltE a b c d L) 0 255) from rfl)
  have HE := Lib.hid (show fltE a b c d L = clipI ((4 * (c - b) + a - d + 4) / 8) (-L) L from rfl)
  have HA := Lib.hid (show absI (b - c) = if b - c < 0 then -(b - c) else b - c from rfl)
  have ha0 := absI_nn (b - c)
  have ha1 : absI (b - c) ≤ 255 := by unfold absI; split <;> omega
  go_enter Tryd.func72, Tryd.ntmps72
  go_wp2_with fail
  refine (impl_abs_any (b - c) _ (by omega) (by omega)).mono ?_
  rintro e w1 ⟨rfl, rfl⟩
  rw [← HA.out]
  generalize absI (b - c) = ab at *
  by_cases h : 4 * L ≤ ab
  · have hd1 : decide (4 * L ≤ ab) = true := by simpa using h
    go_wp2
    go_ret2
    exact ⟨ret_two (by rw [HF.out, if_pos h]) (by rw [HF.out, if_pos h]), rfl⟩
  · have hd1 : decide (4 * L ≤ ab) = false := by simpa using h
    have hc1 := clipI_lo (n := (4 * (c - b) + a - d + 4) / 8) (show -L ≤ L by omega)
    go_wp2_with fail
    refine (clamp_any _ _ _ _ (by omega)).mono ?_
    rintro e w1 ⟨rfl, rfl⟩
    rw [← HE.out] at hc1 ⊢
    generalize fltE a b c d L = E at *
    go_wp2_with fail
    refine (clamp_any _ _ _ _ (by omega)).mono ?_
    rintro e w1 ⟨rfl, rfl⟩
    go_wp2_with fail
    refine (clamp_any _ _ _ _ (by omega)).mono ?_
    rintro e w1 ⟨rfl, rfl⟩
    go_wp2
    go_ret2
    exact ⟨ret_two (by rw [HF.out, if_neg (by omega)]) (by rw [HF.out, if_neg (by omega)]), rfl⟩
theorem FilterEdge_in (a b c d L : Int) (w : World) (ha : 0 ≤ a ∧ a ≤ 255) (hb : 0 ≤ b ∧ b ≤ 255) (hc : 0 ≤ c ∧ c ≤ 255) (hd : 0 ≤ d ∧ d ≤ 255) (hL : 0 ≤ L ∧ L ≤ 12) :
    Calls Tryd.prog 106 #[.int .i64 a, .int .i64 b, .int .i64 c, .int .i64 d, .int .i64 L] w fun e w' => e = .returned (.tuple #[.int .i64 (flt a b c d L).1, .int .i64 (flt a b c d L).2]) ∧ w = w' := by
  have HF := Lib.hid (show flt a b c d L = if 4 * L ≤ absI (b - c) then (b, c) else (clipI (b + fltE a b c d L) 0 255, clipI (c - fltE a b c d L) 0 255) from rfl)
  have HE := Lib.hid (show fltE a b c d L = clipI ((4 * (c - b) + a - d + 4) / 8) (-L) L from rfl)
  by_cases hbc : b - c < c - b
  · go_enter Tryd.func106, Tryd.ntmps106
    go_wp2_with fail
    refine (l1In_yes _ _ _ _ ha.1 ha.2).mono ?_
    rintro e w1 ⟨rfl, rfl⟩
    go_wp2_with fail
    refine (l1In_yes _ _ _ _ hb.1 hb.2).mono ?_
    rintro e w1 ⟨rfl, rfl⟩
    go_wp2_with fail
    refine (l1In_yes _ _ _ _ hc.1 hc.2).mono ?_
    rintro e w1 ⟨rfl, rfl⟩
    go_wp2_with fail
    refine (l1In_yes _ _ _ _ hd.1 hd.2).mono ?_
    rintro e w1 ⟨rfl, rfl⟩
    go_wp2_with fail
    refine (l1In_yes _ _ _ _ hL.1 hL.2).mono ?_
    rintro e w1 ⟨rfl, rfl⟩
    have H2 := Lib.hid (show flt a b c d L = if 4 * L ≤ c - b then (b, c) else (clipI (b + fltE a b c d L) 0 255, clipI (c - fltE a b c d L) 0 255) by
      rw [HF.out, show absI (b - c) = c - b by unfold absI; split <;> omega])
    clear HF
    by_cases h : 4 * L ≤ c - b
    · have hd1 : decide (4 * L ≤ c - b) = true := by simpa using h
      go_wp2
      go_ret2
      exact ⟨ret_two (by rw [H2.out, if_pos h]) (by rw [H2.out, if_pos h]), rfl⟩
    · have hd1 : decide (4 * L ≤ c - b) = false := by simpa using h
      have hc1 := clipI_lo (n := (4 * (c - b) + a - d + 4) / 8) (show -L ≤ L by omega)
      go_wp2_with fail
      refine (l7Floor_any _ _ _ (by omega) (by omega) (by omega) (by omega)).mono ?_
      rintro e w1 ⟨rfl, rfl⟩
      go_wp2_with fail
      refine (l1Clip_any _ _ _ _).mono ?_
      rintro e w1 ⟨rfl, rfl⟩
      rw [← HE.out] at hc1 ⊢
      generalize fltE a b c d L = E at *
      go_wp2_with fail
      refine (l1Clip_any _ _ _ _).mono ?_
      rintro e w1 ⟨rfl, rfl⟩
      go_wp2_with fail
      refine (l1Clip_any _ _ _ _).mono ?_
      rintro e w1 ⟨rfl, rfl⟩
      go_wp2
      go_ret2
      exact ⟨ret_two (by rw [H2.out, if_neg (by omega)]) (by rw [H2.out, if_neg (by omega)]), rfl⟩
  · go_enter Tryd.func106, Tryd.ntmps106
    go_wp2_with fail
    refine (l1In_yes _ _ _ _ ha.1 ha.2).mono ?_
    rintro e w1 ⟨rfl, rfl⟩
    go_wp2_with fail
    refine (l1In_yes _ _ _ _ hb.1 hb.2).mono ?_
    rintro e w1 ⟨rfl, rfl⟩
    go_wp2_with fail
    refine (l1In_yes _ _ _ _ hc.1 hc.2).mono ?_
    rintro e w1 ⟨rfl, rfl⟩
    go_wp2_with fail
    refine (l1In_yes _ _ _ _ hd.1 hd.2).mono ?_
    rintro e w1 ⟨rfl, rfl⟩
    go_wp2_with fail
    refine (l1In_yes _ _ _ _ hL.1 hL.2).mono ?_
    rintro e w1 ⟨rfl, rfl⟩
    have H2 := Lib.hid (show flt a b c d L = if 4 * L ≤ b - c then (b, c) else (clipI (b + fltE a b c d L) 0 255, clipI (c - fltE a b c d L) 0 255) by
      rw [HF.out, show absI (b - c) = b - c by unfold absI; split <;> omega])
    clear HF
    by_cases h : 4 * L ≤ b - c
    · have hd1 : decide (4 * L ≤ b - c) = true := by simpa using h
      go_wp2
      go_ret2
      exact ⟨ret_two (by rw [H2.out, if_pos h]) (by rw [H2.out, if_pos h]), rfl⟩
    · have hd1 : decide (4 * L ≤ b - c) = false := by simpa using h
      have hc1 := clipI_lo (n := (4 * (c - b) + a - d + 4) / 8) (show -L ≤ L by omega)
      go_wp2_with fail
      refine (l7Floor_any _ _ _ (by omega) (by omega) (by omega) (by omega)).mono ?_
      rintro e w1 ⟨rfl, rfl⟩
      go_wp2_with fail
      refine (l1Clip_any _ _ _ _).mono ?_
      rintro e w1 ⟨rfl, rfl⟩
      rw [← HE.out] at hc1 ⊢
      generalize fltE a b c d L = E at *
      go_wp2_with fail
      refine (l1Clip_any _ _ _ _).mono ?_
      rintro e w1 ⟨rfl, rfl⟩
      go_wp2_with fail
      refine (l1Clip_any _ _ _ _).mono ?_
      rintro e w1 ⟨rfl, rfl⟩
      go_wp2
      go_ret2
      exact ⟨ret_two (by rw [H2.out, if_neg (by omega)]) (by rw [H2.out, if_neg (by omega)]), rfl⟩
theorem impl_QuantStep_inD (q : Nat) (w : World) (hT : TabQ w) (hq : q < 16) :
    Calls Tryd.prog 38 #[.int .i64 q] w fun e w' => e = .returned (.int .i64 (stp q)) ∧ w = w' := by
  have ht := hT q hq
  have hs := stp_rng hq
  generalize stp q = s at *
  go_enter Tryd.func38, Tryd.ntmps38
  go_wp2_with fail
  refine (qualityValid_in _ _ (by omega) (by omega)).mono ?_
  rintro e w1 ⟨rfl, rfl⟩
  go_wp2
  go_ret
  exact ⟨rfl, rfl⟩
theorem impl_FilterLimit_in (q : Nat) (w : World) (hT : TabQ w) (hq : q < 16) :
    Calls Tryd.prog 70 #[.int .i64 q] w fun e w' => e = .returned (.int .i64 (flim q)) ∧ w = w' := by
  have hs := stp_rng hq
  have HF := Lib.hid (show flim q = min (stp q / 8) 12 from rfl)
  go_enter Tryd.func70, Tryd.ntmps70
  go_wp2_with fail
  refine (impl_QuantStep_inD q _ hT hq).mono ?_
  rintro e w1 ⟨rfl, rfl⟩
  generalize stp q = s at *
  go_wp2
  all_goals
    go_ret
    exact ⟨ret_int (by rw [HF.out]; omega), rfl⟩
theorem spec_FilterLimit_in (q : Nat) (w : World) (hq : q < 16) :
    Calls Tryd.prog 105 #[.int .i64 q] w fun e w' => e = .returned (.int .i64 (flim q)) ∧ Ext w w' := by
  have hs := stp_rng hq
  have HF := Lib.hid (show flim q = min (stp q / 8) 12 from rfl)
  go_enter Tryd.func105, Tryd.ntmps105
  go_wp2_with fail
  refine (spec_QuantStep_in q _ hq).mono ?_
  rintro e w1 ⟨rfl, E1⟩
  generalize stp q = s at *
  go_wp2
  all_goals
    go_ret
    exact ⟨ret_int (by rw [HF.out]; omega), E1⟩
end Go.Proofs.YtlmoeabchiddnaaDoor
