/- Contracts of the first functions: NeedsRefresh, RefreshSchedule, Interleave, AverageRate, buffers. -/
import Derived.Test.YtfcgnhgocdoimaaH
namespace Go.Proofs.Ytfcgnhgocdoimaa
open Go.RowKit
set_option maxHeartbeats 400000

theorem any_true {xs : List Bool} {k : Nat} (h : k < xs.length) (hb : nthB xs k = true) : xs.any id = true := by
  rw [List.any_eq_true]
  exact ⟨xs[k], List.getElem_mem h, by rw [nthB_eq xs k h] at hb; simpa using hb⟩
theorem any_false {xs : List Bool} (h : ∀ j, j < xs.length → nthB xs j = false) : xs.any id = false := by
  rw [List.any_eq_false]
  intro x hx
  obtain ⟨j, hj, rfl⟩ := List.getElem_of_mem hx
  have := h j hj
  rw [nthB_eq xs j hj] at this
  simpa using this
theorem spec_NeedsRefresh_any (a : Option Addr) (c n : Nat) (xs : List Bool) (w : World) (hn : n < 2^47) (r : Sl w a n (xs.map Value.bool)) :
    Calls Try.prog 12 #[.slice a n c] w fun e w' => e = .returned (.bool (xs.any id)) ∧ ∃ m, w' = w.drewN m := by
  go_enter Try.func12, Try.ntmps12
  go_wp2
  go_loopw [3] (fun i wr => ∃ j : Nat, j ≤ n ∧ i = .int .i64 j ∧ (∃ m, wr = w.drewN m) ∧ ∀ q, q < j → nthB xs q = false) (fun i _ => n - (intOf i).toNat)
  case atStart => exact ⟨0, by omega, rfl, ⟨0, rfl⟩, fun q hq => by omega⟩
  case round =>
    obtain ⟨j, hj, rfl, ⟨m, rfl⟩, hall⟩ := hrel
    have Hall := Lib.hid hall
    clear hall
    by_cases hlt : j < n
    · obtain ⟨b1, o1, rfl, g1⟩ := r.bool hlt
      cases hb : nthB xs j
      · rw [hb] at g1
        have Hb := Lib.hid hb
        clear hb
        go_wp2
        go_roundw
        case rel => exact ⟨j + 1, by omega, by go_num, ⟨m, rfl⟩, fun q hq => by
          rcases Nat.lt_succ_iff_lt_or_eq.1 hq with h | rfl
          · exact Hall.out q h
          · exact Hb.out⟩
        case measure => simp [intOf]; omega
      · rw [hb] at g1
        have Hb := Lib.hid hb
        clear hb
        go_wp2
        go_ret
        exact ⟨ret_bool (any_true (by rw [r.bool_len]; exact hlt) Hb.out).symm, m, rfl⟩
    · obtain rfl : j = n := by omega
      go_wp2
      go_ret
      exact ⟨ret_bool (any_false (by rw [r.bool_len]; exact Hall.out)).symm, m, rfl⟩
theorem slices_Index_any (a : Option Addr) (c n : Nat) (xs : List Bool) (w : World) (hn : n < 2^47) (r : Sl w a n (xs.map Value.bool)) :
    Calls Try.prog 44 #[.slice a n c, .bool true] w fun e w' => (∃ i : Int, e = .returned (.int .i64 i) ∧ (decide (0 ≤ i) = xs.any id)) ∧ ∃ m, w' = w.drewN m := by
  go_enter Try.func44, Try.ntmps44
  go_wp2
  go_loopw [8] (fun i wr => ∃ j : Nat, j ≤ n ∧ i = .int .i64 j ∧ (∃ m, wr = w.drewN m) ∧ ∀ q, q < j → nthB xs q = false) (fun i _ => n - (intOf i).toNat)
  case atStart => exact ⟨0, by omega, rfl, ⟨0, rfl⟩, fun q hq => by omega⟩
  case round =>
    obtain ⟨j, hj, rfl, ⟨m, rfl⟩, hall⟩ := hrel
    have Hall := Lib.hid hall
    clear hall
    by_cases hlt : j < n
    · obtain ⟨b1, o1, rfl, g1⟩ := r.bool hlt
      cases hb : nthB xs j
      · rw [hb] at g1
        have Hb := Lib.hid hb
        clear hb
        go_wp2
        go_roundw
        case rel => exact ⟨j + 1, by omega, by go_num, ⟨m, rfl⟩, fun q hq => by
          rcases Nat.lt_succ_iff_lt_or_eq.1 hq with h | rfl
          · exact Hall.out q h
          · exact Hb.out⟩
        case measure => simp [intOf]; omega
      · rw [hb] at g1
        have Hb := Lib.hid hb
        clear hb
        go_wp2
        go_ret
        exact ⟨⟨_, rfl, by rw [any_true (by rw [r.bool_len]; exact hlt) Hb.out]; simp⟩, m, rfl⟩
    · obtain rfl : j = n := by omega
      go_wp2
      go_ret
      exact ⟨⟨_, rfl, by rw [any_false (by rw [r.bool_len]; exact Hall.out)]; rfl⟩, m, rfl⟩
theorem slices_Contains_any (a : Option Addr) (c n : Nat) (xs : List Bool) (w : World) (hn : n < 2^47) (r : Sl w a n (xs.map Value.bool)) :
    Calls Try.prog 36 #[.slice a n c, .bool true] w fun e w' => e = .returned (.bool (xs.any id)) ∧ ∃ m, w' = w.drewN m := by
  go_enter Try.func36, Try.ntmps36
  go_wp2_with fail
  refine (slices_Index_any a c n xs w hn r).mono ?_
  rintro e w' ⟨⟨i, rfl, hi'⟩, m, rfl⟩
  have hi := Lib.hid hi'
  clear hi'
  go_wp2
  go_ret
  exact ⟨ret_bool hi.out, m, rfl⟩
theorem impl_NeedsRefresh_any (a : Option Addr) (c n : Nat) (xs : List Bool) (w : World) (hn : n < 2^47) (r : Sl w a n (xs.map Value.bool)) :
    Calls Try.prog 14 #[.slice a n c] w fun e w' => e = .returned (.bool (xs.any id)) ∧ ∃ m, w' = w.drewN m := by
  go_enter Try.func14, Try.ntmps14
  go_wp2_with fail
  refine (slices_Contains_any a c n xs w hn r).mono ?_
  rintro e w' ⟨rfl, m, rfl⟩
  go_wp2
  go_ret
  exact ⟨rfl, m, rfl⟩
end Go.Proofs.Ytfcgnhgocdoimaa
