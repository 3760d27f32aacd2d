/- Contracts: RefreshSchedule. -/
import Derived.Test.YtfcgnhgocdoimaaH
namespace Go.Proofs.Ytfcgnhgocdoimaa
open Go.RowKit
set_option maxHeartbeats 400000

theorem l1In_yes (n lo hi : Int) (w : World) (h1 : lo ≤ n) (h2 : n ≤ hi) :
    Calls Try.prog 37 #[.int .i64 n, .int .i64 lo, .int .i64 hi] w fun e w' => e = .returned (.bool true) ∧ w = w' := by
  go_enter Try.func37, Try.ntmps37
  go_wp2
  go_ret
  exact ⟨by simp, rfl⟩
theorem l1In_no (n lo hi : Int) (w : World) (h1 : n < lo ∨ hi < n) :
    Calls Try.prog 37 #[.int .i64 n, .int .i64 lo, .int .i64 hi] w fun e w' => e = .returned (.bool false) ∧ w = w' := by
  by_cases h : lo ≤ n
  · have h2 : ¬ n ≤ hi := by omega
    go_enter Try.func37, Try.ntmps37
    go_wp2
    go_ret
    exact ⟨by simp, rfl⟩
  · go_enter Try.func37, Try.ntmps37
    go_wp2
    go_ret
    exact ⟨rfl, rfl⟩
/-- What RefreshSchedule returns. -/
def schedL (n : Nat) (rows : Int) : List Int := (List.range n).map (fun k : Nat => (k : Int) % rows)
theorem schedL_len (n : Nat) (rows : Int) : (schedL n rows).length = n := by simp [schedL]
theorem nth_schedL (n : Nat) (rows : Int) (k : Nat) (h : k < n) : nth (schedL n rows) k = (k : Int) % rows := by simp [nth, schedL, h]

theorem getD_map_int_sched (n : Nat) (rows : Int) (k : Nat) (h : k < n) : ((schedL n rows).take (k + 1)).map (Value.int .i64) = ((schedL n rows).take k).map (Value.int .i64) ++ [.int .i64 ((k : Int) % rows)] := by
  rw [take_snoc_nth _ k (by rw [schedL_len]; exact h), nth_schedL _ _ _ h]; simp
theorem impl_RefreshSchedule_no (n rows : Int) (w : World) (h : ¬ (0 ≤ n ∧ n ≤ 100 ∧ 1 ≤ rows ∧ rows ≤ 4)) :
    Calls Try.prog 17 #[.int .i64 n, .int .i64 rows] w fun e w' => e = .returned (.slice none 0 0) ∧ w = w' := by
  by_cases h1 : n < 0
  · clear h
    go_enter Try.func17, Try.ntmps17
    go_wp2
    go_ret
    exact ⟨rfl, rfl⟩
  · by_cases h2 : 100 < n
    · clear h
      go_enter Try.func17, Try.ntmps17
      go_wp2
      go_ret
      exact ⟨rfl, rfl⟩
    · by_cases h3 : rows < 1
      · clear h
        go_enter Try.func17, Try.ntmps17
        go_wp2
        go_ret
        exact ⟨rfl, rfl⟩
      · have h4 : 4 < rows := by omega
        clear h
        go_enter Try.func17, Try.ntmps17
        go_wp2
        go_ret
        exact ⟨rfl, rfl⟩
theorem impl_RefreshSchedule_yes (n : Nat) (rows : Int) (w : World) (h2 : n ≤ 100) (h3 : 1 ≤ rows) (h4 : rows ≤ 4) :
    Calls Try.prog 17 #[.int .i64 n, .int .i64 rows] w fun e w' => ∃ v, e = .returned v ∧ w'.ownsRow w.heap.size 3 1 v n ((schedL n rows).map (Value.int .i64)) ∧ Ext w w' := by
  go_enter Try.func17, Try.ntmps17
  go_wp2_with (at_make; refine wpList_mk _ rfl _ _ 26 rfl 3 (.int .i64 0) 8 Try.underlying26 info_int rfl _ n rfl rfl rfl (by omega) (by omega) ?_; intro w1 hown hgrow)
  have E1 : Ext w w1 := (Ext.grown (Below.refl _ _) hgrow (by simp))
  have H0 := mix_zero ((schedL n rows).map (Value.int .i64)) (List.replicate n (.int .i64 0))
  rw [← H0] at hown
  clear H0 hgrow
  have hl := Lib.hid (schedL_len n rows)
  go_loopw [25] (fun i wr => ∃ k : Nat, k ≤ n ∧ i = .int .i64 k ∧ Ext w wr ∧ wr.ownsRow w.heap.size 3 1 (.slice (some ⟨w.heap.size, 0, none⟩) n n) n (mix ((schedL n rows).map (Value.int .i64)) (List.replicate n (.int .i64 0)) k)) (fun i _ => n - (intOf i).toNat)
  case atStart => exact ⟨0, by omega, rfl, E1, hown⟩
  case round =>
    obtain ⟨k, hk, rfl, E2, hown2⟩ := hrel
    clear hown E1
    by_cases hlt : k < n
    · obtain ⟨u, g2, -⟩ := owns_get hown2 hlt
      have g3 := hown2.frozenAt k
      go_wp2
      go_roundw
      case rel =>
        obtain ⟨o2, gr⟩ := hown2.stored k (.int .i64 ((k : Int) % rows))
        rw [mix_set _ _ k (by simp [hl.out]) (by simp [hl.out, hlt]) _ (by rw [getD_map_int _ _ _ (by rw [hl.out]; exact hlt), nth_schedL _ _ _ hlt])] at o2
        exact ⟨k + 1, by omega, rfl, Ext.grown E2 gr (by simp), o2⟩
      case measure => simp [intOf]; omega
    · obtain rfl : k = n := by omega
      rw [mix_all _ _ k (by simp [hl.out]) (by simp)] at hown2
      go_wp2
      go_ret
      exact ⟨_, rfl, hown2, E2⟩
theorem spec_RefreshSchedule_yes (n : Nat) (rows : Int) (w : World) (h2 : n ≤ 100) (h3 : 1 ≤ rows) (h4 : rows ≤ 4) :
    Calls Try.prog 16 #[.int .i64 n, .int .i64 rows] w fun e w' => ∃ v, e = .returned v ∧ w'.ownsRow w.heap.size 3 1 v n ((schedL n rows).map (Value.int .i64)) ∧ Ext w w' := by
  go_enter Try.func16, Try.ntmps16
  go_wp2_with (go_at_call 37; refine (l1In_yes _ _ _ _ (by omega) (by omega)).mono ?_; rintro e w' ⟨rfl, rfl⟩)
  have E1 : Ext w (w.alloc (.cells #[] 3)) := (Below.refl _ _).alloc (Nat.le_refl _) _
  have hown := World.ownsRow_made (base := w.heap.size) (e := 3) (size := 1) w #[] 0 (Nat.le_refl _) (by simp) rfl
  have hl := Lib.hid (schedL_len n rows)
  go_loopw [5, 6] (fun v i wr => ∃ k : Nat, k ≤ n ∧ i = .int .i64 k ∧ Ext w wr ∧ wr.ownsRow w.heap.size 3 1 v k (((schedL n rows).take k).map (Value.int .i64))) (fun _ i _ => n - (intOf i).toNat)
  case atStart => exact ⟨0, by omega, rfl, E1, by simpa using hown⟩
  case round =>
    obtain ⟨k, hk, rfl, E2, hown2⟩ := hrel
    clear hown E1
    by_cases hlt : k < n
    · have hsz := E2.size
      go_wp2_with (at_builtin; refine wpList_app _ hown2 hsz _ rfl _ _ 26 rfl (.int .i64 0) 8 Try.underlying26 info_int rfl rfl rfl rfl (by omega) (by omega) ?_; intro v2 w2 own3 gr2 _)
      go_roundw
      case rel =>
        rw [← getD_map_int_sched n rows k hlt] at own3
        exact ⟨k + 1, by omega, rfl, Ext.grown E2 gr2 (owns_ge hown2), own3⟩
      case measure => simp [intOf]; omega
    · obtain rfl : k = n := by omega
      rw [List.take_of_length_le (by rw [hl.out]; omega)] at hown2
      go_wp2
      go_ret
      exact ⟨_, rfl, hown2, E2⟩
theorem spec_RefreshSchedule_no (n rows : Int) (w : World) (h : ¬ (0 ≤ n ∧ n ≤ 100 ∧ 1 ≤ rows ∧ rows ≤ 4)) :
    Calls Try.prog 16 #[.int .i64 n, .int .i64 rows] w fun e w' => ∃ v, e = .returned v ∧ w'.ownsRow w.heap.size 3 1 v 0 [] ∧ Ext w w' := by
  have hown := World.ownsRow_made (base := w.heap.size) (e := 3) (size := 1) w #[] 0 (Nat.le_refl _) (by simp) rfl
  have E1 : Ext w (w.alloc (.cells #[] 3)) := (Below.refl _ _).alloc (Nat.le_refl _) _
  by_cases h1 : 0 ≤ n ∧ n ≤ 100
  · have h2 : rows < 1 ∨ 4 < rows := by omega
    have H2 := Lib.hid h2
    clear h h2
    obtain ⟨h3, h4⟩ := h1
    go_enter Try.func16, Try.ntmps16
    go_wp2_with fail
    refine (l1In_yes _ _ _ _ (by omega) (by omega)).mono ?_
    rintro e w' ⟨rfl, rfl⟩
    go_wp2_with fail
    refine (l1In_no _ _ _ _ H2.out).mono ?_
    rintro e w' ⟨rfl, rfl⟩
    go_wp2
    go_ret
    exact ⟨_, rfl, hown, E1⟩
  · have h2 : n < 0 ∨ 100 < n := by omega
    have H2 := Lib.hid h2
    clear h h1 h2
    go_enter Try.func16, Try.ntmps16
    go_wp2_with fail
    refine (l1In_no _ _ _ _ H2.out).mono ?_
    rintro e w' ⟨rfl, rfl⟩
    go_wp2
    go_ret
    exact ⟨_, rfl, hown, E1⟩

/-- What RefreshSchedule returns. -/
def sched (n rows : Int) : List Int := if 0 ≤ n ∧ n ≤ 100 ∧ 1 ≤ rows ∧ rows ≤ 4 then schedL n.toNat rows else []
theorem sched_len (n rows : Int) : (sched n rows).length ≤ 100 := by
  unfold sched; split
  · rw [schedL_len]; omega
  · simp
theorem impl_RefreshSchedule_any (n rows : Int) (w : World) :
    Calls Try.prog 17 #[.int .i64 n, .int .i64 rows] w fun e w' => ∃ v, e = .returned v ∧ w'.ownsRow w.heap.size 3 1 v (sched n rows).length ((sched n rows).map (Value.int .i64)) ∧ Ext w w' := by
  by_cases h : 0 ≤ n ∧ n ≤ 100 ∧ 1 ≤ rows ∧ rows ≤ 4
  · rw [show sched n rows = schedL n.toNat rows from if_pos h, schedL_len]
    obtain ⟨m, rfl⟩ := Int.eq_ofNat_of_zero_le h.1
    exact impl_RefreshSchedule_yes m rows w (by omega) (by omega) (by omega)
  · rw [show sched n rows = [] from if_neg h]
    refine (impl_RefreshSchedule_no n rows w h).mono ?_
    rintro e w' ⟨rfl, rfl⟩
    exact ⟨_, rfl, World.ownsRow_nil _ _ _ _, Below.refl _ _⟩
theorem spec_RefreshSchedule_any (n rows : Int) (w : World) :
    Calls Try.prog 16 #[.int .i64 n, .int .i64 rows] w fun e w' => ∃ v, e = .returned v ∧ w'.ownsRow w.heap.size 3 1 v (sched n rows).length ((sched n rows).map (Value.int .i64)) ∧ Ext w w' := by
  by_cases h : 0 ≤ n ∧ n ≤ 100 ∧ 1 ≤ rows ∧ rows ≤ 4
  · rw [show sched n rows = schedL n.toNat rows from if_pos h, schedL_len]
    obtain ⟨m, rfl⟩ := Int.eq_ofNat_of_zero_le h.1
    exact spec_RefreshSchedule_yes m rows w (by omega) (by omega) (by omega)
  · rw [show sched n rows = [] from if_neg h]
    exact spec_RefreshSchedule_no n rows w h
end Go.Proofs.Ytfcgnhgocdoimaa
