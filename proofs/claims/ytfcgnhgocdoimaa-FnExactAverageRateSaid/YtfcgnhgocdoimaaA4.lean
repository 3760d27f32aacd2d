/- Contracts: AverageRate. -/
import Derived.Test.YtfcgnhgocdoimaaA2
namespace Go.Proofs.Ytfcgnhgocdoimaa
open Go.RowKit
set_option maxHeartbeats 400000

/-- The mean of numbers in range, rounded up. -/
def okRate (zs : List Int) : Bool := zs.all fun z => decide (0 ≤ z ∧ z ≤ 1000000)
def avg (zs : List Int) : Int := if 100 < zs.length then -1 else if okRate zs then (if zs.length = 0 then 0 else (zs.sum + zs.length - 1) / zs.length) else -1
def sumTo (zs : List Int) (k : Nat) : Int := (zs.take k).sum
theorem sumTo_succ (zs : List Int) (k : Nat) (h : k < zs.length) : sumTo zs (k + 1) = sumTo zs k + nth zs k := by
  unfold sumTo; rw [take_snoc_nth zs k h]; simp
theorem okRate_no {zs : List Int} {k : Nat} (h : k < zs.length) (hb : ¬ (0 ≤ nth zs k ∧ nth zs k ≤ 1000000)) : okRate zs = false := by
  unfold okRate
  rw [List.all_eq_false]
  exact ⟨zs[k], List.getElem_mem h, by rw [nth_eq zs k h] at hb; simpa using hb⟩
theorem okRate_yes {zs : List Int} (h : ∀ k, k < zs.length → 0 ≤ nth zs k ∧ nth zs k ≤ 1000000) : okRate zs = true := by
  unfold okRate
  rw [List.all_eq_true]
  intro x hx
  obtain ⟨j, hj, rfl⟩ := List.getElem_of_mem hx
  have := h j hj
  rw [nth_eq zs j hj] at this
  simpa using this
theorem impl_AverageRate_any (a : Option Addr) (c n : Nat) (xs : List Int) (w : World) (hn : n < 2^47) (r : Sl w a n (xs.map (Value.int .i64))) :
    Calls Try.prog 27 #[.slice a n c] w fun e w' => e = .returned (.int .i64 (avg xs)) ∧ ∃ m, w' = w.drewN m := by
  by_cases hbig : 100 < n
  · have hL := r.int_len
    have e1 : avg xs = -1 := by unfold avg; rw [if_pos (by omega)]
    rw [e1]
    clear e1 hL
    go_enter Try.func27, Try.ntmps27
    go_wp2
    go_ret
    exact ⟨rfl, 0, rfl⟩
  · go_enter Try.func27, Try.ntmps27
    go_wp2
    go_loopw [3, 11] (fun q i wr => ∃ j : Nat, j ≤ n ∧ i = .int .i64 j ∧ q = .int .i64 (sumTo xs j) ∧ (∃ m, wr = w.drewN m) ∧ 0 ≤ sumTo xs j ∧ sumTo xs j ≤ j * 1000000 ∧ ∀ q, q < j → 0 ≤ nth xs q ∧ nth xs q ≤ 1000000) (fun _ i _ => n - (intOf i).toNat)
    case atStart => exact ⟨0, by omega, rfl, rfl, ⟨0, rfl⟩, by simp [sumTo], by simp [sumTo], fun q hq => by omega⟩
    case round =>
      obtain ⟨j, hj, rfl, rfl, ⟨m, rfl⟩, hs0, hs1, hall⟩ := hrel
      have Hall := Lib.hid hall
      clear hall
      by_cases hlt : j < n
      · obtain ⟨b1, o1, rfl, g1⟩ := r.int hlt
        by_cases hin : 0 ≤ nth xs j ∧ nth xs j ≤ 1000000
        · obtain ⟨h0, h1⟩ := hin
          go_wp2
          go_roundw
          case rel => exact ⟨j + 1, by omega, by go_num, by rw [sumTo_succ xs j (by rw [r.int_len]; exact hlt)], ⟨m, rfl⟩, by rw [sumTo_succ xs j (by rw [r.int_len]; exact hlt)]; omega, by rw [sumTo_succ xs j (by rw [r.int_len]; exact hlt)]; omega, fun q hq => by
            rcases Nat.lt_succ_iff_lt_or_eq.1 hq with h | rfl
            · exact Hall.out q h
            · exact ⟨h0, h1⟩⟩
          case measure => simp [intOf]; omega
        · have e1 : avg xs = -1 := by unfold avg; rw [if_neg (by rw [r.int_len]; omega), okRate_no (by rw [r.int_len]; exact hlt) hin]; rfl
          have g5 := Lib.hid e1
          clear e1
          by_cases h0 : nth xs j < 0
          · clear hin
            go_wp2
            go_ret
            exact ⟨ret_int g5.out.symm, m, rfl⟩
          · have h1 : 1000000 < nth xs j := by omega
            clear hin
            go_wp2
            go_ret
            exact ⟨ret_int g5.out.symm, m, rfl⟩
      · obtain rfl : j = n := by omega
        have e1 : avg xs = if j = 0 then 0 else (sumTo xs j + j - 1) / j := by
          unfold avg sumTo
          rw [List.take_of_length_le (by rw [r.int_len]; omega), if_neg (by rw [r.int_len]; omega), okRate_yes (by rw [r.int_len]; exact Hall.out), r.int_len]
          rfl
        by_cases h0 : j = 0
        · rw [if_pos h0] at e1
          have g5 := Lib.hid e1
          clear e1
          subst h0
          go_wp2
          go_ret
          exact ⟨ret_int g5.out.symm, m, rfl⟩
        · rw [if_neg h0] at e1
          have g5 := Lib.hid e1
          clear e1
          have hj1 : 1 ≤ j := by omega
          have hne : ((j : Int) == 0) = false := by simp; omega
          clear h0
          go_wp2
          go_ret
          exact ⟨ret_int g5.out.symm, m, rfl⟩
theorem spec_AverageRate_any (a : Option Addr) (c n : Nat) (xs : List Int) (w : World) (hn : n < 2^47) (r : Sl w a n (xs.map (Value.int .i64))) :
    Calls Try.prog 25 #[.slice a n c] w fun e w' => e = .returned (.int .i64 (avg xs)) ∧ ∃ m, w' = w.drewN m := by
  by_cases hbig : 100 < n
  · have hL := r.int_len
    have e1 : avg xs = -1 := by unfold avg; rw [if_pos (by omega)]
    rw [e1]
    clear e1 hL
    go_enter Try.func25, Try.ntmps25
    go_wp2
    go_ret
    exact ⟨rfl, 0, rfl⟩
  · go_enter Try.func25, Try.ntmps25
    go_wp2
    go_loopw [3, 4] (fun q i wr => ∃ j : Nat, j ≤ n ∧ i = .int .i64 j ∧ q = .int .i64 (sumTo xs j) ∧ (∃ m, wr = w.drewN m) ∧ 0 ≤ sumTo xs j ∧ sumTo xs j ≤ j * 1000000 ∧ ∀ q, q < j → 0 ≤ nth xs q ∧ nth xs q ≤ 1000000) (fun _ i _ => n - (intOf i).toNat)
    case atStart => exact ⟨0, by omega, rfl, rfl, ⟨0, rfl⟩, by simp [sumTo], by simp [sumTo], fun q hq => by omega⟩
    case round =>
      obtain ⟨j, hj, rfl, rfl, ⟨m, rfl⟩, hs0, hs1, hall⟩ := hrel
      have Hall := Lib.hid hall
      clear hall
      by_cases hlt : j < n
      · obtain ⟨b1, o1, rfl, g1⟩ := r.int hlt
        by_cases hin : 0 ≤ nth xs j ∧ nth xs j ≤ 1000000
        · obtain ⟨h0, h1⟩ := hin
          go_wp2_with (go_at_call 37; refine (l1In_yes _ _ _ _ (by omega) (by omega)).mono ?_; rintro e w' ⟨rfl, rfl⟩)
          go_roundw
          case rel => exact ⟨j + 1, by omega, by go_num, by rw [sumTo_succ xs j (by rw [r.int_len]; exact hlt)], ⟨m, rfl⟩, by rw [sumTo_succ xs j (by rw [r.int_len]; exact hlt)]; omega, by rw [sumTo_succ xs j (by rw [r.int_len]; exact hlt)]; omega, fun q hq => by
            rcases Nat.lt_succ_iff_lt_or_eq.1 hq with h | rfl
            · exact Hall.out q h
            · exact ⟨h0, h1⟩⟩
          case measure => simp [intOf]; omega
        · have e1 : avg xs = -1 := by unfold avg; rw [if_neg (by rw [r.int_len]; omega), okRate_no (by rw [r.int_len]; exact hlt) hin]; rfl
          have g5 := Lib.hid e1
          have g6 := Lib.hid hin
          clear e1 hin
          go_wp2_with (go_at_call 37; refine (l1In_no _ _ _ _ (by have := g6.out; omega)).mono ?_; rintro e w' ⟨rfl, rfl⟩)
          go_ret
          exact ⟨ret_int g5.out.symm, m, rfl⟩
      · obtain rfl : j = n := by omega
        have e1 : avg xs = if j = 0 then 0 else (sumTo xs j + j - 1) / j := by
          unfold avg sumTo
          rw [List.take_of_length_le (by rw [r.int_len]; omega), if_neg (by rw [r.int_len]; omega), okRate_yes (by rw [r.int_len]; exact Hall.out), r.int_len]
          rfl
        by_cases h0 : j = 0
        · rw [if_pos h0] at e1
          have g5 := Lib.hid e1
          clear e1
          subst h0
          go_wp2
          go_ret
          exact ⟨ret_int g5.out.symm, m, rfl⟩
        · rw [if_neg h0] at e1
          have g5 := Lib.hid e1
          clear e1
          have hj1 : 1 ≤ j := by omega
          have hne : ((j : Int) == 0) = false := by simp; omega
          clear h0
          go_wp2
          go_ret
          exact ⟨ret_int g5.out.symm, m, rfl⟩
end Go.Proofs.Ytfcgnhgocdoimaa
