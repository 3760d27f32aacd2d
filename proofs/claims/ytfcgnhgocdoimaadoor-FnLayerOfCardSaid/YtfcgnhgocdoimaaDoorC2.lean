/- Layers: LayerReference. -/
import Derived.Test.YtfcgnhgocdoimaaDoorC1
namespace Go.Proofs.YtfcgnhgocdoimaaDoor
open Go.RowKit
set_option maxHeartbeats 400000

theorem layerN_le (y l k : Nat) (hy : y < 9223372036854775808) (hk : k ≤ l - 1) (hl : l ≤ 4) : layerN y l ≤ k ↔ y % 2 ^ (l - 1 - k) = 0 := by
  have a := ctz_iff y (l - 1 - k) (by omega) (by omega)
  rw [Nat.dvd_iff_mod_eq_zero] at a
  unfold layerN
  rw [a]
  omega
theorem layerN_lt (y l : Nat) : layerN y l ≤ l - 1 := by unfold layerN; omega
/-- What LayerReference returns. -/
def refN (x l : Nat) : Int := if x < 2 ^ (l - 1 - layerN x l) then -1 else (x : Int) - 2 ^ (l - 1 - layerN x l)
def layerRef (x l : Int) : Int := if x < 0 ∨ l < 1 ∨ 4 < l then -1 else refN x.toNat l.toNat
theorem layerRef_no (x l : Int) (h : x < 0 ∨ l < 1 ∨ 4 < l) : layerRef x l = -1 := by
  unfold layerRef; rw [if_pos h]
theorem layerRef_yes (x l : Nat) (h1 : 1 ≤ l) (h2 : l ≤ 4) : layerRef x l = refN x l := by
  unfold layerRef; rw [if_neg (by omega)]; simp
theorem refN_10 (x : Nat) (hL : layerN x 1 = 0) : refN x 1 = if x < 1 then -1 else (x : Int) - 1 := by
  unfold refN; rw [hL]; rfl
theorem impl_LayerReference_10 (x : Nat) (w : World) (hT : Tab w) (hx : x < 9223372036854775808) (hL : layerN x 1 = 0) :
    Calls Tryd.prog 9 #[.int .i64 x, .int .i64 1] w fun e w' => e = .returned (.int .i64 (refN x 1)) ∧ w = w' := by
  have hr := refN_10 x hL
  have hc := impl_LayerOf_yes x 1 w hT hx (by decide) (by decide)
  rw [hL] at hc
  have z0 := (layerN_le x 1 0 hx (by decide) (by decide)).1 (by omega)
  rw [hr]
  clear hr hL
  by_cases hs : x < 1
  · rw [if_pos hs]
    go_enter Tryd.func9, Tryd.ntmps9
    go_wp2_with fail
    refine hc.mono ?_
    rintro e w1 ⟨rfl, rfl⟩
    go_wp2
    all_goals
      go_ret
      exact ⟨ret_int (by omega), rfl⟩
  · rw [if_neg hs]
    go_enter Tryd.func9, Tryd.ntmps9
    go_wp2_with fail
    refine hc.mono ?_
    rintro e w1 ⟨rfl, rfl⟩
    go_wp2
    all_goals
      go_ret
      exact ⟨ret_int (by omega), rfl⟩
theorem spec_LayerReference_10 (x : Nat) (w : World) (hx : x < 9223372036854775808) (hL : layerN x 1 = 0) :
    Calls Tryd.prog 8 #[.int .i64 x, .int .i64 1] w fun e w' => e = .returned (.int .i64 (refN x 1)) ∧ w = w' := by
  have hr := refN_10 x hL
  have hc := spec_LayerOf_yes x 1 w hx (by decide) (by decide)
  rw [hL] at hc
  have z0 := (layerN_le x 1 0 hx (by decide) (by decide)).1 (by omega)
  rw [hr]
  have F : ∀ j : Nat, 1 ≤ j → j ≤ 1 → j ≤ x → ∃ y : Int, layerOf ((x : Int) - j) 1 = y ∧ (j < 1 → 1 ≤ y) ∧ (j = 1 → y < 1) := by
    intro j h1 h2 h3
    refine ⟨(layerN (x - j) 1 : Nat), ?_, fun h => ?_, fun h => ?_⟩
    · rw [show (x : Int) - j = ((x - j : Nat) : Int) by omega]
      exact layerOf_yes (x - j) 1 (by decide) (by decide)
    · have : ¬ layerN (x - j) 1 ≤ 0 := fun h4 => by
        have := (layerN_le (x - j) 1 0 (by omega) (by decide) (by decide)).1 h4
        simp at this z0
        omega
      omega
    · have := (layerN_le (x - j) 1 0 (by omega) (by decide) (by decide)).2 (by simp at z0 ⊢; omega)
      omega
  have HF := Lib.hid F
  have Hz := Lib.hid z0
  clear hr hL F z0
  go_enter Tryd.func8, Tryd.ntmps8
  go_wp2_with fail
  refine hc.mono ?_
  rintro e w1 ⟨rfl, rfl⟩
  go_wp2_with fail
  clear hc
  go_loop [6] (fun i => ∃ j : Nat, 1 ≤ j ∧ j ≤ 1 ∧ i = .int .i64 ((x : Int) - j)) (fun i => (intOf i + 10 - x).toNat)
  case atStart => exact ⟨1, by omega, by omega, by simp⟩
  case round =>
    obtain ⟨j, hj1, hj2, rfl⟩ := hrel
    by_cases hjx : j ≤ x
    · obtain ⟨y, hy, hy1, hy2⟩ := HF.out j hj1 hj2 hjx
      have cl := spec_LayerOf_any ((x : Int) - j) 1 w (by omega)
      rw [hy] at cl
      by_cases hjs : j = 1
      · have hyM : y < 1 := hy2 hjs
        subst hjs
        clear hy hy1 hy2 HF
        go_wp2_with fail
        refine cl.mono ?_
        rintro e w1 ⟨rfl, rfl⟩
        go_wp2
        go_ret
        exact ⟨ret_int (by first | rfl | (rw [if_neg (by omega)]; simp)), rfl⟩
      · exfalso; omega
    · go_wp2
      go_ret
      exact ⟨ret_int (by first | rfl | rw [if_pos (by omega)]), rfl⟩
theorem refN_20 (x : Nat) (hL : layerN x 2 = 0) : refN x 2 = if x < 2 then -1 else (x : Int) - 2 := by
  unfold refN; rw [hL]; rfl
theorem impl_LayerReference_20 (x : Nat) (w : World) (hT : Tab w) (hx : x < 9223372036854775808) (hL : layerN x 2 = 0) :
    Calls Tryd.prog 9 #[.int .i64 x, .int .i64 2] w fun e w' => e = .returned (.int .i64 (refN x 2)) ∧ w = w' := by
  have hr := refN_20 x hL
  have hc := impl_LayerOf_yes x 2 w hT hx (by decide) (by decide)
  rw [hL] at hc
  have z0 := (layerN_le x 2 0 hx (by decide) (by decide)).1 (by omega)
  rw [hr]
  clear hr hL
  by_cases hs : x < 2
  · rw [if_pos hs]
    go_enter Tryd.func9, Tryd.ntmps9
    go_wp2_with fail
    refine hc.mono ?_
    rintro e w1 ⟨rfl, rfl⟩
    go_wp2
    all_goals
      go_ret
      exact ⟨ret_int (by omega), rfl⟩
  · rw [if_neg hs]
    go_enter Tryd.func9, Tryd.ntmps9
    go_wp2_with fail
    refine hc.mono ?_
    rintro e w1 ⟨rfl, rfl⟩
    go_wp2
    all_goals
      go_ret
      exact ⟨ret_int (by omega), rfl⟩
theorem spec_LayerReference_20 (x : Nat) (w : World) (hx : x < 9223372036854775808) (hL : layerN x 2 = 0) :
    Calls Tryd.prog 8 #[.int .i64 x, .int .i64 2] w fun e w' => e = .returned (.int .i64 (refN x 2)) ∧ w = w' := by
  have hr := refN_20 x hL
  have hc := spec_LayerOf_yes x 2 w hx (by decide) (by decide)
  rw [hL] at hc
  have z0 := (layerN_le x 2 0 hx (by decide) (by decide)).1 (by omega)
  rw [hr]
  have F : ∀ j : Nat, 1 ≤ j → j ≤ 2 → j ≤ x → ∃ y : Int, layerOf ((x : Int) - j) 2 = y ∧ (j < 2 → 1 ≤ y) ∧ (j = 2 → y < 1) := by
    intro j h1 h2 h3
    refine ⟨(layerN (x - j) 2 : Nat), ?_, fun h => ?_, fun h => ?_⟩
    · rw [show (x : Int) - j = ((x - j : Nat) : Int) by omega]
      exact layerOf_yes (x - j) 2 (by decide) (by decide)
    · have : ¬ layerN (x - j) 2 ≤ 0 := fun h4 => by
        have := (layerN_le (x - j) 2 0 (by omega) (by decide) (by decide)).1 h4
        simp at this z0
        omega
      omega
    · have := (layerN_le (x - j) 2 0 (by omega) (by decide) (by decide)).2 (by simp at z0 ⊢; omega)
      omega
  have HF := Lib.hid F
  have Hz := Lib.hid z0
  clear hr hL F z0
  go_enter Tryd.func8, Tryd.ntmps8
  go_wp2_with fail
  refine hc.mono ?_
  rintro e w1 ⟨rfl, rfl⟩
  go_wp2_with fail
  clear hc
  go_loop [6] (fun i => ∃ j : Nat, 1 ≤ j ∧ j ≤ 2 ∧ i = .int .i64 ((x : Int) - j)) (fun i => (intOf i + 10 - x).toNat)
  case atStart => exact ⟨1, by omega, by omega, by simp⟩
  case round =>
    obtain ⟨j, hj1, hj2, rfl⟩ := hrel
    by_cases hjx : j ≤ x
    · obtain ⟨y, hy, hy1, hy2⟩ := HF.out j hj1 hj2 hjx
      have cl := spec_LayerOf_any ((x : Int) - j) 2 w (by omega)
      rw [hy] at cl
      by_cases hjs : j = 2
      · have hyM : y < 1 := hy2 hjs
        subst hjs
        clear hy hy1 hy2 HF
        go_wp2_with fail
        refine cl.mono ?_
        rintro e w1 ⟨rfl, rfl⟩
        go_wp2
        go_ret
        exact ⟨ret_int (by first | rfl | (rw [if_neg (by omega)]; simp)), rfl⟩
      · have hyM : 1 ≤ y := hy1 (by omega)
        clear hy hy1 hy2 HF
        go_wp2_with fail
        refine cl.mono ?_
        rintro e w1 ⟨rfl, rfl⟩
        go_wp2
        go_round
        case rel => exact ⟨j + 1, by omega, by omega, by go_num⟩
        case measure => simp [intOf]; omega
    · go_wp2
      go_ret
      exact ⟨ret_int (by first | rfl | rw [if_pos (by omega)]), rfl⟩
theorem refN_21 (x : Nat) (hL : layerN x 2 = 1) : refN x 2 = if x < 1 then -1 else (x : Int) - 1 := by
  unfold refN; rw [hL]; rfl
theorem impl_LayerReference_21 (x : Nat) (w : World) (hT : Tab w) (hx : x < 9223372036854775808) (hL : layerN x 2 = 1) :
    Calls Tryd.prog 9 #[.int .i64 x, .int .i64 2] w fun e w' => e = .returned (.int .i64 (refN x 2)) ∧ w = w' := by
  have hr := refN_21 x hL
  have hc := impl_LayerOf_yes x 2 w hT hx (by decide) (by decide)
  rw [hL] at hc
  have z0 := (layerN_le x 2 1 hx (by decide) (by decide)).1 (by omega)
  rw [hr]
  clear hr hL
  by_cases hs : x < 1
  · rw [if_pos hs]
    go_enter Tryd.func9, Tryd.ntmps9
    go_wp2_with fail
    refine hc.mono ?_
    rintro e w1 ⟨rfl, rfl⟩
    go_wp2
    all_goals
      go_ret
      exact ⟨ret_int (by omega), rfl⟩
  · rw [if_neg hs]
    go_enter Tryd.func9, Tryd.ntmps9
    go_wp2_with fail
    refine hc.mono ?_
    rintro e w1 ⟨rfl, rfl⟩
    go_wp2
    all_goals
      go_ret
      exact ⟨ret_int (by omega), rfl⟩
theorem spec_LayerReference_21 (x : Nat) (w : World) (hx : x < 9223372036854775808) (hL : layerN x 2 = 1) :
    Calls Tryd.prog 8 #[.int .i64 x, .int .i64 2] w fun e w' => e = .returned (.int .i64 (refN x 2)) ∧ w = w' := by
  have hr := refN_21 x hL
  have hc := spec_LayerOf_yes x 2 w hx (by decide) (by decide)
  rw [hL] at hc
  have z0 := (layerN_le x 2 1 hx (by decide) (by decide)).1 (by omega)
  have z1 : ¬ x % 2 = 0 := fun h => by have := (layerN_le x 2 0 hx (by decide) (by decide)).2 h; omega
  rw [hr]
  have F : ∀ j : Nat, 1 ≤ j → j ≤ 1 → j ≤ x → ∃ y : Int, layerOf ((x : Int) - j) 2 = y ∧ (j < 1 → 1 ≤ y) ∧ (j = 1 → y < 1) := by
    intro j h1 h2 h3
    refine ⟨(layerN (x - j) 2 : Nat), ?_, fun h => ?_, fun h => ?_⟩
    · rw [show (x : Int) - j = ((x - j : Nat) : Int) by omega]
      exact layerOf_yes (x - j) 2 (by decide) (by decide)
    · have : ¬ layerN (x - j) 2 ≤ 1 := fun h4 => by
        have := (layerN_le (x - j) 2 1 (by omega) (by decide) (by decide)).1 h4
        simp at this z0
        omega
      omega
    · have := (layerN_le (x - j) 2 0 (by omega) (by decide) (by decide)).2 (by simp at z0 ⊢; omega)
      omega
  have HF := Lib.hid F
  have Hz := Lib.hid z0
  clear hr hL F z0 z1
  go_enter Tryd.func8, Tryd.ntmps8
  go_wp2_with fail
  refine hc.mono ?_
  rintro e w1 ⟨rfl, rfl⟩
  go_wp2_with fail
  clear hc
  go_loop [6] (fun i => ∃ j : Nat, 1 ≤ j ∧ j ≤ 1 ∧ i = .int .i64 ((x : Int) - j)) (fun i => (intOf i + 10 - x).toNat)
  case atStart => exact ⟨1, by omega, by omega, by simp⟩
  case round =>
    obtain ⟨j, hj1, hj2, rfl⟩ := hrel
    by_cases hjx : j ≤ x
    · obtain ⟨y, hy, hy1, hy2⟩ := HF.out j hj1 hj2 hjx
      have cl := spec_LayerOf_any ((x : Int) - j) 2 w (by omega)
      rw [hy] at cl
      by_cases hjs : j = 1
      · have hyM : y < 1 := hy2 hjs
        subst hjs
        clear hy hy1 hy2 HF
        go_wp2_with fail
        refine cl.mono ?_
        rintro e w1 ⟨rfl, rfl⟩
        go_wp2
        go_ret
        exact ⟨ret_int (by first | rfl | (rw [if_neg (by omega)]; simp)), rfl⟩
      · exfalso; omega
    · go_wp2
      go_ret
      exact ⟨ret_int (by first | rfl | rw [if_pos (by omega)]), rfl⟩
theorem refN_30 (x : Nat) (hL : layerN x 3 = 0) : refN x 3 = if x < 4 then -1 else (x : Int) - 4 := by
  unfold refN; rw [hL]; rfl
theorem impl_LayerReference_30 (x : Nat) (w : World) (hT : Tab w) (hx : x < 9223372036854775808) (hL : layerN x 3 = 0) :
    Calls Tryd.prog 9 #[.int .i64 x, .int .i64 3] w fun e w' => e = .returned (.int .i64 (refN x 3)) ∧ w = w' := by
  have hr := refN_30 x hL
  have hc := impl_LayerOf_yes x 3 w hT hx (by decide) (by decide)
  rw [hL] at hc
  have z0 := (layerN_le x 3 0 hx (by decide) (by decide)).1 (by omega)
  rw [hr]
  clear hr hL
  by_cases hs : x < 4
  · rw [if_pos hs]
    go_enter Tryd.func9, Tryd.ntmps9
    go_wp2_with fail
    refine hc.mono ?_
    rintro e w1 ⟨rfl, rfl⟩
    go_wp2
    all_goals
      go_ret
      exact ⟨ret_int (by omega), rfl⟩
  · rw [if_neg hs]
    go_enter Tryd.func9, Tryd.ntmps9
    go_wp2_with fail
    refine hc.mono ?_
    rintro e w1 ⟨rfl, rfl⟩
    go_wp2
    all_goals
      go_ret
      exact ⟨ret_int (by omega), rfl⟩
theorem spec_LayerReference_30 (x : Nat) (w : World) (hx : x < 9223372036854775808) (hL : layerN x 3 = 0) :
    Calls Tryd.prog 8 #[.int .i64 x, .int .i64 3] w fun e w' => e = .returned (.int .i64 (refN x 3)) ∧ w = w' := by
  have hr := refN_30 x hL
  have hc := spec_LayerOf_yes x 3 w hx (by decide) (by decide)
  rw [hL] at hc
  have z0 := (layerN_le x 3 0 hx (by decide) (by decide)).1 (by omega)
  rw [hr]
  have F : ∀ j : Nat, 1 ≤ j → j ≤ 4 → j ≤ x → ∃ y : Int, layerOf ((x : Int) - j) 3 = y ∧ (j < 4 → 1 ≤ y) ∧ (j = 4 → y < 1) := by
    intro j h1 h2 h3
    refine ⟨(layerN (x - j) 3 : Nat), ?_, fun h => ?_, fun h => ?_⟩
    · rw [show (x : Int) - j = ((x - j : Nat) : Int) by omega]
      exact layerOf_yes (x - j) 3 (by decide) (by decide)
    · have : ¬ layerN (x - j) 3 ≤ 0 := fun h4 => by
        have := (layerN_le (x - j) 3 0 (by omega) (by decide) (by decide)).1 h4
        simp at this z0
        omega
      omega
    · have := (layerN_le (x - j) 3 0 (by omega) (by decide) (by decide)).2 (by simp at z0 ⊢; omega)
      omega
  have HF := Lib.hid F
  have Hz := Lib.hid z0
  clear hr hL F z0
  go_enter Tryd.func8, Tryd.ntmps8
  go_wp2_with fail
  refine hc.mono ?_
  rintro e w1 ⟨rfl, rfl⟩
  go_wp2_with fail
  clear hc
  go_loop [6] (fun i => ∃ j : Nat, 1 ≤ j ∧ j ≤ 4 ∧ i = .int .i64 ((x : Int) - j)) (fun i => (intOf i + 10 - x).toNat)
  case atStart => exact ⟨1, by omega, by omega, by simp⟩
  case round =>
    obtain ⟨j, hj1, hj2, rfl⟩ := hrel
    by_cases hjx : j ≤ x
    · obtain ⟨y, hy, hy1, hy2⟩ := HF.out j hj1 hj2 hjx
      have cl := spec_LayerOf_any ((x : Int) - j) 3 w (by omega)
      rw [hy] at cl
      by_cases hjs : j = 4
      · have hyM : y < 1 := hy2 hjs
        subst hjs
        clear hy hy1 hy2 HF
        go_wp2_with fail
        refine cl.mono ?_
        rintro e w1 ⟨rfl, rfl⟩
        go_wp2
        go_ret
        exact ⟨ret_int (by first | rfl | (rw [if_neg (by omega)]; simp)), rfl⟩
      · have hyM : 1 ≤ y := hy1 (by omega)
        clear hy hy1 hy2 HF
        go_wp2_with fail
        refine cl.mono ?_
        rintro e w1 ⟨rfl, rfl⟩
        go_wp2
        go_round
        case rel => exact ⟨j + 1, by omega, by omega, by go_num⟩
        case measure => simp [intOf]; omega
    · go_wp2
      go_ret
      exact ⟨ret_int (by first | rfl | rw [if_pos (by omega)]), rfl⟩
theorem refN_31 (x : Nat) (hL : layerN x 3 = 1) : refN x 3 = if x < 2 then -1 else (x : Int) - 2 := by
  unfold refN; rw [hL]; rfl
theorem impl_LayerReference_31 (x : Nat) (w : World) (hT : Tab w) (hx : x < 9223372036854775808) (hL : layerN x 3 = 1) :
    Calls Tryd.prog 9 #[.int .i64 x, .int .i64 3] w fun e w' => e = .returned (.int .i64 (refN x 3)) ∧ w = w' := by
  have hr := refN_31 x hL
  have hc := impl_LayerOf_yes x 3 w hT hx (by decide) (by decide)
  rw [hL] at hc
  have z0 := (layerN_le x 3 1 hx (by decide) (by decide)).1 (by omega)
  rw [hr]
  clear hr hL
  by_cases hs : x < 2
  · rw [if_pos hs]
    go_enter Tryd.func9, Tryd.ntmps9
    go_wp2_with fail
    refine hc.mono ?_
    rintro e w1 ⟨rfl, rfl⟩
    go_wp2
    all_goals
      go_ret
      exact ⟨ret_int (by omega), rfl⟩
  · rw [if_neg hs]
    go_enter Tryd.func9, Tryd.ntmps9
    go_wp2_with fail
    refine hc.mono ?_
    rintro e w1 ⟨rfl, rfl⟩
    go_wp2
    all_goals
      go_ret
      exact ⟨ret_int (by omega), rfl⟩
theorem spec_LayerReference_31 (x : Nat) (w : World) (hx : x < 9223372036854775808) (hL : layerN x 3 = 1) :
    Calls Tryd.prog 8 #[.int .i64 x, .int .i64 3] w fun e w' => e = .returned (.int .i64 (refN x 3)) ∧ w = w' := by
  have hr := refN_31 x hL
  have hc := spec_LayerOf_yes x 3 w hx (by decide) (by decide)
  rw [hL] at hc
  have z0 := (layerN_le x 3 1 hx (by decide) (by decide)).1 (by omega)
  have z1 : ¬ x % 4 = 0 := fun h => by have := (layerN_le x 3 0 hx (by decide) (by decide)).2 h; omega
  rw [hr]
  have F : ∀ j : Nat, 1 ≤ j → j ≤ 2 → j ≤ x → ∃ y : Int, layerOf ((x : Int) - j) 3 = y ∧ (j < 2 → 1 ≤ y) ∧ (j = 2 → y < 1) := by
    intro j h1 h2 h3
    refine ⟨(layerN (x - j) 3 : Nat), ?_, fun h => ?_, fun h => ?_⟩
    · rw [show (x : Int) - j = ((x - j : Nat) : Int) by omega]
      exact layerOf_yes (x - j) 3 (by decide) (by decide)
    · have : ¬ layerN (x - j) 3 ≤ 1 := fun h4 => by
        have := (layerN_le (x - j) 3 1 (by omega) (by decide) (by decide)).1 h4
        simp at this z0
        omega
      omega
    · have := (layerN_le (x - j) 3 0 (by omega) (by decide) (by decide)).2 (by simp at z0 ⊢; omega)
      omega
  have HF := Lib.hid F
  have Hz := Lib.hid z0
  clear hr hL F z0 z1
  go_enter Tryd.func8, Tryd.ntmps8
  go_wp2_with fail
  refine hc.mono ?_
  rintro e w1 ⟨rfl, rfl⟩
  go_wp2_with fail
  clear hc
  go_loop [6] (fun i => ∃ j : Nat, 1 ≤ j ∧ j ≤ 2 ∧ i = .int .i64 ((x : Int) - j)) (fun i => (intOf i + 10 - x).toNat)
  case atStart => exact ⟨1, by omega, by omega, by simp⟩
  case round =>
    obtain ⟨j, hj1, hj2, rfl⟩ := hrel
    by_cases hjx : j ≤ x
    · obtain ⟨y, hy, hy1, hy2⟩ := HF.out j hj1 hj2 hjx
      have cl := spec_LayerOf_any ((x : Int) - j) 3 w (by omega)
      rw [hy] at cl
      by_cases hjs : j = 2
      · have hyM : y < 1 := hy2 hjs
        subst hjs
        clear hy hy1 hy2 HF
        go_wp2_with fail
        refine cl.mono ?_
        rintro e w1 ⟨rfl, rfl⟩
        go_wp2
        go_ret
        exact ⟨ret_int (by first | rfl | (rw [if_neg (by omega)]; simp)), rfl⟩
      · have hyM : 1 ≤ y := hy1 (by omega)
        clear hy hy1 hy2 HF
        go_wp2_with fail
        refine cl.mono ?_
        rintro e w1 ⟨rfl, rfl⟩
        go_wp2
        go_round
        case rel => exact ⟨j + 1, by omega, by omega, by go_num⟩
        case measure => simp [intOf]; omega
    · go_wp2
      go_ret
      exact ⟨ret_int (by first | rfl | rw [if_pos (by omega)]), rfl⟩
theorem refN_32 (x : Nat) (hL : layerN x 3 = 2) : refN x 3 = if x < 1 then -1 else (x : Int) - 1 := by
  unfold refN; rw [hL]; rfl
theorem impl_LayerReference_32 (x : Nat) (w : World) (hT : Tab w) (hx : x < 9223372036854775808) (hL : layerN x 3 = 2) :
    Calls Tryd.prog 9 #[.int .i64 x, .int .i64 3] w fun e w' => e = .returned (.int .i64 (refN x 3)) ∧ w = w' := by
  have hr := refN_32 x hL
  have hc := impl_LayerOf_yes x 3 w hT hx (by decide) (by decide)
  rw [hL] at hc
  have z0 := (layerN_le x 3 2 hx (by decide) (by decide)).1 (by omega)
  rw [hr]
  clear hr hL
  by_cases hs : x < 1
  · rw [if_pos hs]
    go_enter Tryd.func9, Tryd.ntmps9
    go_wp2_with fail
    refine hc.mono ?_
    rintro e w1 ⟨rfl, rfl⟩
    go_wp2
    all_goals
      go_ret
      exact ⟨ret_int (by omega), rfl⟩
  · rw [if_neg hs]
    go_enter Tryd.func9, Tryd.ntmps9
    go_wp2_with fail
    refine hc.mono ?_
    rintro e w1 ⟨rfl, rfl⟩
    go_wp2
    all_goals
      go_ret
      exact ⟨ret_int (by omega), rfl⟩
theorem spec_LayerReference_32 (x : Nat) (w : World) (hx : x < 9223372036854775808) (hL : layerN x 3 = 2) :
    Calls Tryd.prog 8 #[.int .i64 x, .int .i64 3] w fun e w' => e = .returned (.int .i64 (refN x 3)) ∧ w = w' := by
  have hr := refN_32 x hL
  have hc := spec_LayerOf_yes x 3 w hx (by decide) (by decide)
  rw [hL] at hc
  have z0 := (layerN_le x 3 2 hx (by decide) (by decide)).1 (by omega)
  have z1 : ¬ x % 2 = 0 := fun h => by have := (layerN_le x 3 1 hx (by decide) (by decide)).2 h; omega
  rw [hr]
  have F : ∀ j : Nat, 1 ≤ j → j ≤ 1 → j ≤ x → ∃ y : Int, layerOf ((x : Int) - j) 3 = y ∧ (j < 1 → 2 ≤ y) ∧ (j = 1 → y < 2) := by
    intro j h1 h2 h3
    refine ⟨(layerN (x - j) 3 : Nat), ?_, fun h => ?_, fun h => ?_⟩
    · rw [show (x : Int) - j = ((x - j : Nat) : Int) by omega]
      exact layerOf_yes (x - j) 3 (by decide) (by decide)
    · have : ¬ layerN (x - j) 3 ≤ 2 := fun h4 => by
        have := (layerN_le (x - j) 3 2 (by omega) (by decide) (by decide)).1 h4
        simp at this z0
        omega
      omega
    · have := (layerN_le (x - j) 3 1 (by omega) (by decide) (by decide)).2 (by simp at z0 ⊢; omega)
      omega
  have HF := Lib.hid F
  have Hz := Lib.hid z0
  clear hr hL F z0 z1
  go_enter Tryd.func8, Tryd.ntmps8
  go_wp2_with fail
  refine hc.mono ?_
  rintro e w1 ⟨rfl, rfl⟩
  go_wp2_with fail
  clear hc
  go_loop [6] (fun i => ∃ j : Nat, 1 ≤ j ∧ j ≤ 1 ∧ i = .int .i64 ((x : Int) - j)) (fun i => (intOf i + 10 - x).toNat)
  case atStart => exact ⟨1, by omega, by omega, by simp⟩
  case round =>
    obtain ⟨j, hj1, hj2, rfl⟩ := hrel
    by_cases hjx : j ≤ x
    · obtain ⟨y, hy, hy1, hy2⟩ := HF.out j hj1 hj2 hjx
      have cl := spec_LayerOf_any ((x : Int) - j) 3 w (by omega)
      rw [hy] at cl
      by_cases hjs : j = 1
      · have hyM : y < 2 := hy2 hjs
        subst hjs
        clear hy hy1 hy2 HF
        go_wp2_with fail
        refine cl.mono ?_
        rintro e w1 ⟨rfl, rfl⟩
        go_wp2
        go_ret
        exact ⟨ret_int (by first | rfl | (rw [if_neg (by omega)]; simp)), rfl⟩
      · exfalso; omega
    · go_wp2
      go_ret
      exact ⟨ret_int (by first | rfl | rw [if_pos (by omega)]), rfl⟩
theorem refN_40 (x : Nat) (hL : layerN x 4 = 0) : refN x 4 = if x < 8 then -1 else (x : Int) - 8 := by
  unfold refN; rw [hL]; rfl
theorem impl_LayerReference_40 (x : Nat) (w : World) (hT : Tab w) (hx : x < 9223372036854775808) (hL : layerN x 4 = 0) :
    Calls Tryd.prog 9 #[.int .i64 x, .int .i64 4] w fun e w' => e = .returned (.int .i64 (refN x 4)) ∧ w = w' := by
  have hr := refN_40 x hL
  have hc := impl_LayerOf_yes x 4 w hT hx (by decide) (by decide)
  rw [hL] at hc
  have z0 := (layerN_le x 4 0 hx (by decide) (by decide)).1 (by omega)
  rw [hr]
  clear hr hL
  by_cases hs : x < 8
  · rw [if_pos hs]
    go_enter Tryd.func9, Tryd.ntmps9
    go_wp2_with fail
    refine hc.mono ?_
    rintro e w1 ⟨rfl, rfl⟩
    go_wp2
    all_goals
      go_ret
      exact ⟨ret_int (by omega), rfl⟩
  · rw [if_neg hs]
    go_enter Tryd.func9, Tryd.ntmps9
    go_wp2_with fail
    refine hc.mono ?_
    rintro e w1 ⟨rfl, rfl⟩
    go_wp2
    all_goals
      go_ret
      exact ⟨ret_int (by omega), rfl⟩
theorem spec_LayerReference_40 (x : Nat) (w : World) (hx : x < 9223372036854775808) (hL : layerN x 4 = 0) :
    Calls Tryd.prog 8 #[.int .i64 x, .int .i64 4] w fun e w' => e = .returned (.int .i64 (refN x 4)) ∧ w = w' := by
  have hr := refN_40 x hL
  have hc := spec_LayerOf_yes x 4 w hx (by decide) (by decide)
  rw [hL] at hc
  have z0 := (layerN_le x 4 0 hx (by decide) (by decide)).1 (by omega)
  rw [hr]
  have F : ∀ j : Nat, 1 ≤ j → j ≤ 8 → j ≤ x → ∃ y : Int, layerOf ((x : Int) - j) 4 = y ∧ (j < 8 → 1 ≤ y) ∧ (j = 8 → y < 1) := by
    intro j h1 h2 h3
    refine ⟨(layerN (x - j) 4 : Nat), ?_, fun h => ?_, fun h => ?_⟩
    · rw [show (x : Int) - j = ((x - j : Nat) : Int) by omega]
      exact layerOf_yes (x - j) 4 (by decide) (by decide)
    · have : ¬ layerN (x - j) 4 ≤ 0 := fun h4 => by
        have := (layerN_le (x - j) 4 0 (by omega) (by decide) (by decide)).1 h4
        simp at this z0
        omega
      omega
    · have := (layerN_le (x - j) 4 0 (by omega) (by decide) (by decide)).2 (by simp at z0 ⊢; omega)
      omega
  have HF := Lib.hid F
  have Hz := Lib.hid z0
  clear hr hL F z0
  go_enter Tryd.func8, Tryd.ntmps8
  go_wp2_with fail
  refine hc.mono ?_
  rintro e w1 ⟨rfl, rfl⟩
  go_wp2_with fail
  clear hc
  go_loop [6] (fun i => ∃ j : Nat, 1 ≤ j ∧ j ≤ 8 ∧ i = .int .i64 ((x : Int) - j)) (fun i => (intOf i + 10 - x).toNat)
  case atStart => exact ⟨1, by omega, by omega, by simp⟩
  case round =>
    obtain ⟨j, hj1, hj2, rfl⟩ := hrel
    by_cases hjx : j ≤ x
    · obtain ⟨y, hy, hy1, hy2⟩ := HF.out j hj1 hj2 hjx
      have cl := spec_LayerOf_any ((x : Int) - j) 4 w (by omega)
      rw [hy] at cl
      by_cases hjs : j = 8
      · have hyM : y < 1 := hy2 hjs
        subst hjs
        clear hy hy1 hy2 HF
        go_wp2_with fail
        refine cl.mono ?_
        rintro e w1 ⟨rfl, rfl⟩
        go_wp2
        go_ret
        exact ⟨ret_int (by first | rfl | (rw [if_neg (by omega)]; simp)), rfl⟩
      · have hyM : 1 ≤ y := hy1 (by omega)
        clear hy hy1 hy2 HF
        go_wp2_with fail
        refine cl.mono ?_
        rintro e w1 ⟨rfl, rfl⟩
        go_wp2
        go_round
        case rel => exact ⟨j + 1, by omega, by omega, by go_num⟩
        case measure => simp [intOf]; omega
    · go_wp2
      go_ret
      exact ⟨ret_int (by first | rfl | rw [if_pos (by omega)]), rfl⟩
theorem refN_41 (x : Nat) (hL : layerN x 4 = 1) : refN x 4 = if x < 4 then -1 else (x : Int) - 4 := by
  unfold refN; rw [hL]; rfl
theorem impl_LayerReference_41 (x : Nat) (w : World) (hT : Tab w) (hx : x < 9223372036854775808) (hL : layerN x 4 = 1) :
    Calls Tryd.prog 9 #[.int .i64 x, .int .i64 4] w fun e w' => e = .returned (.int .i64 (refN x 4)) ∧ w = w' := by
  have hr := refN_41 x hL
  have hc := impl_LayerOf_yes x 4 w hT hx (by decide) (by decide)
  rw [hL] at hc
  have z0 := (layerN_le x 4 1 hx (by decide) (by decide)).1 (by omega)
  rw [hr]
  clear hr hL
  by_cases hs : x < 4
  · rw [if_pos hs]
    go_enter Tryd.func9, Tryd.ntmps9
    go_wp2_with fail
    refine hc.mono ?_
    rintro e w1 ⟨rfl, rfl⟩
    go_wp2
    all_goals
      go_ret
      exact ⟨ret_int (by omega), rfl⟩
  · rw [if_neg hs]
    go_enter Tryd.func9, Tryd.ntmps9
    go_wp2_with fail
    refine hc.mono ?_
    rintro e w1 ⟨rfl, rfl⟩
    go_wp2
    all_goals
      go_ret
      exact ⟨ret_int (by omega), rfl⟩
theorem spec_LayerReference_41 (x : Nat) (w : World) (hx : x < 9223372036854775808) (hL : layerN x 4 = 1) :
    Calls Tryd.prog 8 #[.int .i64 x, .int .i64 4] w fun e w' => e = .returned (.int .i64 (refN x 4)) ∧ w = w' := by
  have hr := refN_41 x hL
  have hc := spec_LayerOf_yes x 4 w hx (by decide) (by decide)
  rw [hL] at hc
  have z0 := (layerN_le x 4 1 hx (by decide) (by decide)).1 (by omega)
  have z1 : ¬ x % 8 = 0 := fun h => by have := (layerN_le x 4 0 hx (by decide) (by decide)).2 h; omega
  rw [hr]
  have F : ∀ j : Nat, 1 ≤ j → j ≤ 4 → j ≤ x → ∃ y : Int, layerOf ((x : Int) - j) 4 = y ∧ (j < 4 → 1 ≤ y) ∧ (j = 4 → y < 1) := by
    intro j h1 h2 h3
    refine ⟨(layerN (x - j) 4 : Nat), ?_, fun h => ?_, fun h => ?_⟩
    · rw [show (x : Int) - j = ((x - j : Nat) : Int) by omega]
      exact layerOf_yes (x - j) 4 (by decide) (by decide)
    · have : ¬ layerN (x - j) 4 ≤ 1 := fun h4 => by
        have := (layerN_le (x - j) 4 1 (by omega) (by decide) (by decide)).1 h4
        simp at this z0
        omega
      omega
    · have := (layerN_le (x - j) 4 0 (by omega) (by decide) (by decide)).2 (by simp at z0 ⊢; omega)
      omega
  have HF := Lib.hid F
  have Hz := Lib.hid z0
  clear hr hL F z0 z1
  go_enter Tryd.func8, Tryd.ntmps8
  go_wp2_with fail
  refine hc.mono ?_
  rintro e w1 ⟨rfl, rfl⟩
  go_wp2_with fail
  clear hc
  go_loop [6] (fun i => ∃ j : Nat, 1 ≤ j ∧ j ≤ 4 ∧ i = .int .i64 ((x : Int) - j)) (fun i => (intOf i + 10 - x).toNat)
  case atStart => exact ⟨1, by omega, by omega, by simp⟩
  case round =>
    obtain ⟨j, hj1, hj2, rfl⟩ := hrel
    by_cases hjx : j ≤ x
    · obtain ⟨y, hy, hy1, hy2⟩ := HF.out j hj1 hj2 hjx
      have cl := spec_LayerOf_any ((x : Int) - j) 4 w (by omega)
      rw [hy] at cl
      by_cases hjs : j = 4
      · have hyM : y < 1 := hy2 hjs
        subst hjs
        clear hy hy1 hy2 HF
        go_wp2_with fail
        refine cl.mono ?_
        rintro e w1 ⟨rfl, rfl⟩
        go_wp2
        go_ret
        exact ⟨ret_int (by first | rfl | (rw [if_neg (by omega)]; simp)), rfl⟩
      · have hyM : 1 ≤ y := hy1 (by omega)
        clear hy hy1 hy2 HF
        go_wp2_with fail
        refine cl.mono ?_
        rintro e w1 ⟨rfl, rfl⟩
        go_wp2
        go_round
        case rel => exact ⟨j + 1, by omega, by omega, by go_num⟩
        case measure => simp [intOf]; omega
    · go_wp2
      go_ret
      exact ⟨ret_int (by first | rfl | rw [if_pos (by omega)]), rfl⟩
theorem refN_42 (x : Nat) (hL : layerN x 4 = 2) : refN x 4 = if x < 2 then -1 else (x : Int) - 2 := by
  unfold refN; rw [hL]; rfl
theorem impl_LayerReference_42 (x : Nat) (w : World) (hT : Tab w) (hx : x < 9223372036854775808) (hL : layerN x 4 = 2) :
    Calls Tryd.prog 9 #[.int .i64 x, .int .i64 4] w fun e w' => e = .returned (.int .i64 (refN x 4)) ∧ w = w' := by
  have hr := refN_42 x hL
  have hc := impl_LayerOf_yes x 4 w hT hx (by decide) (by decide)
  rw [hL] at hc
  have z0 := (layerN_le x 4 2 hx (by decide) (by decide)).1 (by omega)
  rw [hr]
  clear hr hL
  by_cases hs : x < 2
  · rw [if_pos hs]
    go_enter Tryd.func9, Tryd.ntmps9
    go_wp2_with fail
    refine hc.mono ?_
    rintro e w1 ⟨rfl, rfl⟩
    go_wp2
    all_goals
      go_ret
      exact ⟨ret_int (by omega), rfl⟩
  · rw [if_neg hs]
    go_enter Tryd.func9, Tryd.ntmps9
    go_wp2_with fail
    refine hc.mono ?_
    rintro e w1 ⟨rfl, rfl⟩
    go_wp2
    all_goals
      go_ret
      exact ⟨ret_int (by omega), rfl⟩
theorem spec_LayerReference_42 (x : Nat) (w : World) (hx : x < 9223372036854775808) (hL : layerN x 4 = 2) :
    Calls Tryd.prog 8 #[.int .i64 x, .int .i64 4] w fun e w' => e = .returned (.int .i64 (refN x 4)) ∧ w = w' := by
  have hr := refN_42 x hL
  have hc := spec_LayerOf_yes x 4 w hx (by decide) (by decide)
  rw [hL] at hc
  have z0 := (layerN_le x 4 2 hx (by decide) (by decide)).1 (by omega)
  have z1 : ¬ x % 4 = 0 := fun h => by have := (layerN_le x 4 1 hx (by decide) (by decide)).2 h; omega
  rw [hr]
  have F : ∀ j : Nat, 1 ≤ j → j ≤ 2 → j ≤ x → ∃ y : Int, layerOf ((x : Int) - j) 4 = y ∧ (j < 2 → 2 ≤ y) ∧ (j = 2 → y < 2) := by
    intro j h1 h2 h3
    refine ⟨(layerN (x - j) 4 : Nat), ?_, fun h => ?_, fun h => ?_⟩
    · rw [show (x : Int) - j = ((x - j : Nat) : Int) by omega]
      exact layerOf_yes (x - j) 4 (by decide) (by decide)
    · have : ¬ layerN (x - j) 4 ≤ 2 := fun h4 => by
        have := (layerN_le (x - j) 4 2 (by omega) (by decide) (by decide)).1 h4
        simp at this z0
        omega
      omega
    · have := (layerN_le (x - j) 4 1 (by omega) (by decide) (by decide)).2 (by simp at z0 ⊢; omega)
      omega
  have HF := Lib.hid F
  have Hz := Lib.hid z0
  clear hr hL F z0 z1
  go_enter Tryd.func8, Tryd.ntmps8
  go_wp2_with fail
  refine hc.mono ?_
  rintro e w1 ⟨rfl, rfl⟩
  go_wp2_with fail
  clear hc
  go_loop [6] (fun i => ∃ j : Nat, 1 ≤ j ∧ j ≤ 2 ∧ i = .int .i64 ((x : Int) - j)) (fun i => (intOf i + 10 - x).toNat)
  case atStart => exact ⟨1, by omega, by omega, by simp⟩
  case round =>
    obtain ⟨j, hj1, hj2, rfl⟩ := hrel
    by_cases hjx : j ≤ x
    · obtain ⟨y, hy, hy1, hy2⟩ := HF.out j hj1 hj2 hjx
      have cl := spec_LayerOf_any ((x : Int) - j) 4 w (by omega)
      rw [hy] at cl
      by_cases hjs : j = 2
      · have hyM : y < 2 := hy2 hjs
        subst hjs
        clear hy hy1 hy2 HF
        go_wp2_with fail
        refine cl.mono ?_
        rintro e w1 ⟨rfl, rfl⟩
        go_wp2
        go_ret
        exact ⟨ret_int (by first | rfl | (rw [if_neg (by omega)]; simp)), rfl⟩
      · have hyM : 2 ≤ y := hy1 (by omega)
        clear hy hy1 hy2 HF
        go_wp2_with fail
        refine cl.mono ?_
        rintro e w1 ⟨rfl, rfl⟩
        go_wp2
        go_round
        case rel => exact ⟨j + 1, by omega, by omega, by go_num⟩
        case measure => simp [intOf]; omega
    · go_wp2
      go_ret
      exact ⟨ret_int (by first | rfl | rw [if_pos (by omega)]), rfl⟩
theorem refN_43 (x : Nat) (hL : layerN x 4 = 3) : refN x 4 = if x < 1 then -1 else (x : Int) - 1 := by
  unfold refN; rw [hL]; rfl
theorem impl_LayerReference_43 (x : Nat) (w : World) (hT : Tab w) (hx : x < 9223372036854775808) (hL : layerN x 4 = 3) :
    Calls Tryd.prog 9 #[.int .i64 x, .int .i64 4] w fun e w' => e = .returned (.int .i64 (refN x 4)) ∧ w = w' := by
  have hr := refN_43 x hL
  have hc := impl_LayerOf_yes x 4 w hT hx (by decide) (by decide)
  rw [hL] at hc
  have z0 := (layerN_le x 4 3 hx (by decide) (by decide)).1 (by omega)
  rw [hr]
  clear hr hL
  by_cases hs : x < 1
  · rw [if_pos hs]
    go_enter Tryd.func9, Tryd.ntmps9
    go_wp2_with fail
    refine hc.mono ?_
    rintro e w1 ⟨rfl, rfl⟩
    go_wp2
    all_goals
      go_ret
      exact ⟨ret_int (by omega), rfl⟩
  · rw [if_neg hs]
    go_enter Tryd.func9, Tryd.ntmps9
    go_wp2_with fail
    refine hc.mono ?_
    rintro e w1 ⟨rfl, rfl⟩
    go_wp2
    all_goals
      go_ret
      exact ⟨ret_int (by omega), rfl⟩
theorem spec_LayerReference_43 (x : Nat) (w : World) (hx : x < 9223372036854775808) (hL : layerN x 4 = 3) :
    Calls Tryd.prog 8 #[.int .i64 x, .int .i64 4] w fun e w' => e = .returned (.int .i64 (refN x 4)) ∧ w = w' := by
  have hr := refN_43 x hL
  have hc := spec_LayerOf_yes x 4 w hx (by decide) (by decide)
  rw [hL] at hc
  have z0 := (layerN_le x 4 3 hx (by decide) (by decide)).1 (by omega)
  have z1 : ¬ x % 2 = 0 := fun h => by have := (layerN_le x 4 2 hx (by decide) (by decide)).2 h; omega
  rw [hr]
  have F : ∀ j : Nat, 1 ≤ j → j ≤ 1 → j ≤ x → ∃ y : Int, layerOf ((x : Int) - j) 4 = y ∧ (j < 1 → 3 ≤ y) ∧ (j = 1 → y < 3) := by
    intro j h1 h2 h3
    refine ⟨(layerN (x - j) 4 : Nat), ?_, fun h => ?_, fun h => ?_⟩
    · rw [show (x : Int) - j = ((x - j : Nat) : Int) by omega]
      exact layerOf_yes (x - j) 4 (by decide) (by decide)
    · have : ¬ layerN (x - j) 4 ≤ 3 := fun h4 => by
        have := (layerN_le (x - j) 4 3 (by omega) (by decide) (by decide)).1 h4
        simp at this z0
        omega
      omega
    · have := (layerN_le (x - j) 4 2 (by omega) (by decide) (by decide)).2 (by simp at z0 ⊢; omega)
      omega
  have HF := Lib.hid F
  have Hz := Lib.hid z0
  clear hr hL F z0 z1
  go_enter Tryd.func8, Tryd.ntmps8
  go_wp2_with fail
  refine hc.mono ?_
  rintro e w1 ⟨rfl, rfl⟩
  go_wp2_with fail
  clear hc
  go_loop [6] (fun i => ∃ j : Nat, 1 ≤ j ∧ j ≤ 1 ∧ i = .int .i64 ((x : Int) - j)) (fun i => (intOf i + 10 - x).toNat)
  case atStart => exact ⟨1, by omega, by omega, by simp⟩
  case round =>
    obtain ⟨j, hj1, hj2, rfl⟩ := hrel
    by_cases hjx : j ≤ x
    · obtain ⟨y, hy, hy1, hy2⟩ := HF.out j hj1 hj2 hjx
      have cl := spec_LayerOf_any ((x : Int) - j) 4 w (by omega)
      rw [hy] at cl
      by_cases hjs : j = 1
      · have hyM : y < 3 := hy2 hjs
        subst hjs
        clear hy hy1 hy2 HF
        go_wp2_with fail
        refine cl.mono ?_
        rintro e w1 ⟨rfl, rfl⟩
        go_wp2
        go_ret
        exact ⟨ret_int (by first | rfl | (rw [if_neg (by omega)]; simp)), rfl⟩
      · exfalso; omega
    · go_wp2
      go_ret
      exact ⟨ret_int (by first | rfl | rw [if_pos (by omega)]), rfl⟩
theorem impl_LayerReference_yes (x l : Nat) (w : World) (hT : Tab w) (hx : x < 9223372036854775808) (h1 : 1 ≤ l) (h2 : l ≤ 4) :
    Calls Tryd.prog 9 #[.int .i64 x, .int .i64 l] w fun e w' => e = .returned (.int .i64 (refN x l)) ∧ w = w' := by
  have hl : l = 1 ∨ l = 2 ∨ l = 3 ∨ l = 4 := by omega
  have h3 := layerN_lt x l
  rcases hl with rfl | rfl | rfl | rfl
  · exact impl_LayerReference_10 x w hT hx (by omega)
  · have h4 : layerN x 2 = 0 ∨ layerN x 2 = 1 := by omega
    rcases h4 with h4 | h4
    · exact impl_LayerReference_20 x w hT hx h4
    · exact impl_LayerReference_21 x w hT hx h4
  · have h4 : layerN x 3 = 0 ∨ layerN x 3 = 1 ∨ layerN x 3 = 2 := by omega
    rcases h4 with h4 | h4 | h4
    · exact impl_LayerReference_30 x w hT hx h4
    · exact impl_LayerReference_31 x w hT hx h4
    · exact impl_LayerReference_32 x w hT hx h4
  · have h4 : layerN x 4 = 0 ∨ layerN x 4 = 1 ∨ layerN x 4 = 2 ∨ layerN x 4 = 3 := by omega
    rcases h4 with h4 | h4 | h4 | h4
    · exact impl_LayerReference_40 x w hT hx h4
    · exact impl_LayerReference_41 x w hT hx h4
    · exact impl_LayerReference_42 x w hT hx h4
    · exact impl_LayerReference_43 x w hT hx h4
theorem impl_LayerReference_no (x l : Int) (w : World) (h : x < 0 ∨ l < 1 ∨ 4 < l) :
    Calls Tryd.prog 9 #[.int .i64 x, .int .i64 l] w fun e w' => e = .returned (.int .i64 (-1)) ∧ w = w' := by
  have H := Lib.hid h
  clear h
  go_enter Tryd.func9, Tryd.ntmps9
  go_wp2_with fail
  refine (impl_LayerOf_no x l _ H.out).mono ?_
  rintro e w1 ⟨rfl, rfl⟩
  go_wp2
  go_ret
  exact ⟨rfl, rfl⟩
theorem impl_LayerReference_any (x l : Int) (w : World) (hT : Tab w) (hx : x < 9223372036854775808) :
    Calls Tryd.prog 9 #[.int .i64 x, .int .i64 l] w fun e w' => e = .returned (.int .i64 (layerRef x l)) ∧ w = w' := by
  by_cases h : x < 0 ∨ l < 1 ∨ 4 < l
  · rw [layerRef_no x l h]; exact impl_LayerReference_no x l w h
  · obtain ⟨k, rfl⟩ := Int.eq_ofNat_of_zero_le (show 0 ≤ x by omega)
    obtain ⟨m, rfl⟩ := Int.eq_ofNat_of_zero_le (show 0 ≤ l by omega)
    rw [layerRef_yes k m (by omega) (by omega)]
    exact impl_LayerReference_yes k m w hT (by omega) (by omega) (by omega)
theorem spec_LayerReference_yes (x l : Nat) (w : World) (hx : x < 9223372036854775808) (h1 : 1 ≤ l) (h2 : l ≤ 4) :
    Calls Tryd.prog 8 #[.int .i64 x, .int .i64 l] w fun e w' => e = .returned (.int .i64 (refN x l)) ∧ w = w' := by
  have hl : l = 1 ∨ l = 2 ∨ l = 3 ∨ l = 4 := by omega
  have h3 := layerN_lt x l
  rcases hl with rfl | rfl | rfl | rfl
  · exact spec_LayerReference_10 x w hx (by omega)
  · have h4 : layerN x 2 = 0 ∨ layerN x 2 = 1 := by omega
    rcases h4 with h4 | h4
    · exact spec_LayerReference_20 x w hx h4
    · exact spec_LayerReference_21 x w hx h4
  · have h4 : layerN x 3 = 0 ∨ layerN x 3 = 1 ∨ layerN x 3 = 2 := by omega
    rcases h4 with h4 | h4 | h4
    · exact spec_LayerReference_30 x w hx h4
    · exact spec_LayerReference_31 x w hx h4
    · exact spec_LayerReference_32 x w hx h4
  · have h4 : layerN x 4 = 0 ∨ layerN x 4 = 1 ∨ layerN x 4 = 2 ∨ layerN x 4 = 3 := by omega
    rcases h4 with h4 | h4 | h4 | h4
    · exact spec_LayerReference_40 x w hx h4
    · exact spec_LayerReference_41 x w hx h4
    · exact spec_LayerReference_42 x w hx h4
    · exact spec_LayerReference_43 x w hx h4
theorem spec_LayerReference_no (x l : Int) (w : World) (h : x < 0 ∨ l < 1 ∨ 4 < l) :
    Calls Tryd.prog 8 #[.int .i64 x, .int .i64 l] w fun e w' => e = .returned (.int .i64 (-1)) ∧ w = w' := by
  have H := Lib.hid h
  clear h
  go_enter Tryd.func8, Tryd.ntmps8
  go_wp2_with fail
  refine (spec_LayerOf_no x l _ H.out).mono ?_
  rintro e w1 ⟨rfl, rfl⟩
  go_wp2_with fail
  go_loop [6] (fun _ => True) (fun _ => 0)
  case atStart => trivial
  case round =>
    go_wp2
    go_ret
    exact ⟨rfl, rfl⟩
theorem spec_LayerReference_any (x l : Int) (w : World) (hx : x < 9223372036854775808) :
    Calls Tryd.prog 8 #[.int .i64 x, .int .i64 l] w fun e w' => e = .returned (.int .i64 (layerRef x l)) ∧ w = w' := by
  by_cases h : x < 0 ∨ l < 1 ∨ 4 < l
  · rw [layerRef_no x l h]; exact spec_LayerReference_no x l w h
  · obtain ⟨k, rfl⟩ := Int.eq_ofNat_of_zero_le (show 0 ≤ x by omega)
    obtain ⟨m, rfl⟩ := Int.eq_ofNat_of_zero_le (show 0 ≤ l by omega)
    rw [layerRef_yes k m (by omega) (by omega)]
    exact spec_LayerReference_yes k m w (by omega) (by omega) (by omega)
end Go.Proofs.YtfcgnhgocdoimaaDoor
