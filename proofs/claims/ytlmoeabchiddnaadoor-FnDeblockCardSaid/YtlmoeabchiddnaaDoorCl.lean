/- Small helpers: clip, floor, sides. -/
import Derived.Test.YtlmoeabchiddnaaDoorA2
namespace Go.Proofs.YtlmoeabchiddnaaDoor
open Go.RowKit
set_option maxHeartbeats 400000
/-- The nearest number in lo..hi. -/
def clipI (n lo hi : Int) : Int := max lo (min hi n)
theorem clipI_lo {n lo hi : Int} (h : lo ≤ hi) : lo ≤ clipI n lo hi ∧ clipI n lo hi ≤ hi := by unfold clipI; omega
theorem clipI_in {n lo hi : Int} (h1 : lo ≤ n) (h2 : n ≤ hi) : clipI n lo hi = n := by unfold clipI; omega
/-- The absolute value. -/
def absI (n : Int) : Int := if n < 0 then -n else n
theorem absI_nn (n : Int) : 0 ≤ absI n := by unfold absI; split <;> omega
theorem tdiv_floor {n d : Int} (h : n < 0) (hd : 1 ≤ d) : n ≤ n.tdiv d ∧ n.tdiv d ≤ 0 ∧ (n.tmod d < 0 → n.tdiv d - 1 = n / d) ∧ (¬ n.tmod d < 0 → n.tdiv d = n / d) := by
  obtain ⟨m, rfl⟩ : ∃ m : Int, n = -m := ⟨-n, by omega⟩
  have e1 : (-m).tdiv d = -(m / d) := by rw [Int.neg_tdiv, Int.tdiv_eq_ediv_of_nonneg (by omega)]
  have e2 : (-m).tmod d = -(m % d) := by rw [Int.neg_tmod, Int.tmod_eq_emod_of_nonneg (by omega)]
  have hq : m / d ≤ m := Int.ediv_le_self _ (by omega)
  have hq0 : 0 ≤ m / d := Int.ediv_nonneg (by omega) (by omega)
  have hr0 := Int.emod_nonneg m (show d ≠ 0 by omega)
  have hr1 := Int.emod_lt_of_pos m (show 0 < d by omega)
  have hdm := Int.mul_ediv_add_emod m d
  rw [e1, e2]
  refine ⟨by omega, by omega, fun h1 => ?_, fun h1 => ?_⟩
  · symm
    refine (Int.ediv_eq_iff_of_pos (by omega)).2 ?_
    have : d * (-(m / d) - 1) = -(d * (m / d)) - d := by rw [Int.mul_sub, Int.mul_neg, Int.mul_one]
    constructor
    · rw [Int.mul_comm]; omega
    · rw [Int.mul_comm]; omega
  · symm
    have hr : m % d = 0 := by omega
    rw [hr] at hdm
    refine (Int.ediv_eq_iff_of_pos (by omega)).2 ?_
    constructor
    · rw [Int.mul_comm, Int.mul_neg]; omega
    · rw [Int.mul_comm, Int.mul_neg]; omega
theorem l1Clip_any (n lo hi : Int) (w : World) : Calls Tryd.prog 53 #[.int .i64 n, .int .i64 lo, .int .i64 hi] w fun e w' => e = .returned (.int .i64 (clipI n lo hi)) ∧ w = w' := by
  go_enter Tryd.func53, Tryd.ntmps53
  go_wp2
  all_goals
    go_ret
    exact ⟨ret_int (by unfold clipI; omega), rfl⟩
theorem clamp_any (n lo hi : Int) (w : World) (h : lo ≤ hi) : Calls Tryd.prog 101 #[.int .i64 n, .int .i64 lo, .int .i64 hi] w fun e w' => e = .returned (.int .i64 (clipI n lo hi)) ∧ w = w' := by
  go_enter Tryd.func101, Tryd.ntmps101
  go_wp2
  all_goals
    go_ret
    exact ⟨ret_int (by unfold clipI; omega), rfl⟩
theorem l7Floor_any (n d : Int) (w : World) (h1 : -1099511627776 ≤ n) (h2 : n ≤ 1099511627776) (hd : 1 ≤ d) (hd2 : d ≤ 1048576) : Calls Tryd.prog 54 #[.int .i64 n, .int .i64 d] w fun e w' => e = .returned (.int .i64 (n / d)) ∧ w = w' := by
  by_cases h0 : 0 ≤ n
  · have hd0 : decide (n % d < 0) = false := by
      have := Int.emod_nonneg n (show d ≠ 0 by omega)
      simp; omega
    go_enter Tryd.func54, Tryd.ntmps54
    go_wp2
    go_ret
    exact ⟨rfl, rfl⟩
  · obtain ⟨t1, t2, t3, t4⟩ := tdiv_floor (by omega : n < 0) hd
    have T3 := Lib.hid t3
    have T4 := Lib.hid t4
    clear t3 t4
    by_cases hm : n.tmod d < 0
    · have hd0 : decide (n.tmod d < 0) = true := by simpa using hm
      go_enter Tryd.func54, Tryd.ntmps54
      go_wp2
      go_ret
      exact ⟨ret_int (T3.out hm), rfl⟩
    · have hd0 : decide (n.tmod d < 0) = false := by simpa using hm
      go_enter Tryd.func54, Tryd.ntmps54
      go_wp2
      go_ret
      exact ⟨ret_int (T4.out hm), rfl⟩
end Go.Proofs.YtlmoeabchiddnaaDoor
