/- Layers: TrailingZeros, LayerOf, LayerReference. -/
import Derived.Test.YtmokncpppmchfaaDoorA2
import Derived.Shelf.Spec.TrailingZeros
namespace Go.Proofs.YtmokncpppmchfaaDoor
open Go.RowKit
set_option maxHeartbeats 400000

/-- The table of math/bits lies in its variable. -/
def Tab (w : World) : Prop := ∀ j, j < 64 → w.cell? ⟨1, j, none⟩ = some (.int .u8 (Lib.deBruijn64tab.getD j 0))
theorem Tab.ext {w w' : World} (h : Tab w) (e : Ext w w') : Tab w' := fun j hj => cell_ext e (h j hj)

theorem tz64_core (x k idx : Nat) (w : World) (hx0 : ((x : Int) == 0) = false)
    (key : IntKind.u64.wrap (bits BinOp.and IntKind.u64 (x : Int) (IntKind.u64.wrap (-(x : Int))) * 285870213051353865) / 288230376151711744 = (idx : Int))
    (hi : idx < 64) (hk : k < 64) (hcell : w.cell? ⟨1, idx, none⟩ = some (.int .u8 k)) :
    Calls Tryd.prog 41 #[.int .u64 x] w fun e w' => e = .returned (.int .i64 k) ∧ w = w' := by
  go_enter Tryd.func41, Tryd.ntmps41
  go_wp2_with (simp only [key])
  go_ret
  exact ⟨rfl, rfl⟩
theorem tz64_zero (w : World) :
    Calls Tryd.prog 41 #[.int .u64 0] w fun e w' => e = .returned (.int .i64 64) ∧ w = w' := by
  go_enter Tryd.func41, Tryd.ntmps41
  go_wp2
  go_ret
  exact ⟨rfl, rfl⟩
theorem tz64_any (x : Nat) (hx : x < 18446744073709551616) (w : World) (hT : Tab w) :
    Calls Tryd.prog 41 #[.int .u64 x] w fun e w' => e = .returned (.int .i64 (Lib.ctz 64 x)) ∧ w = w' := by
  by_cases hx0 : x = 0
  · subst hx0
    exact tz64_zero w
  · obtain ⟨hlow, hk⟩ := Lib.lowest_bit 64 x hx0 hx
    obtain ⟨hi, htab⟩ := Lib.deBruijn64_at _ hk
    have hcell := hT _ hi
    rw [htab] at hcell
    exact tz64_core x _ _ w (by simp; omega) (tz64_key x _ hx hx0 hlow) hi hk hcell
theorem tz_any (x : Nat) (hx : x < 9223372036854775808) (w : World) (hT : Tab w) :
    Calls Tryd.prog 29 #[.int .u64 x] w fun e w' => e = .returned (.int .i64 (Lib.ctz 64 x)) ∧ w = w' := by
  have hw : IntKind.u64.wrap (x : Int) = (x : Int) := by rw [IntKind.wrap_u64]; omega
  go_enter Tryd.func29, Tryd.ntmps29
  go_wp2_with fail
  refine (tz64_any x (by omega) _ hT).mono ?_
  rintro e w1 ⟨rfl, rfl⟩
  go_wp2
  go_ret
  exact ⟨rfl, rfl⟩

theorem ctz_iff (x k : Nat) (hx : x < 2 ^ 64) (hk : k ≤ 64) : 2 ^ k ∣ x ↔ k ≤ Lib.ctz 64 x := by
  unfold Lib.ctz
  by_cases h0 : x = 0
  · subst h0; simp [hk]
  · rw [if_neg h0]
    obtain ⟨m, h1, h2⟩ := Lib.ctzFrom_spec 64 x (by omega) hx
    generalize Lib.ctzFrom 64 x = c at *
    constructor
    · intro hd
      refine Classical.byContradiction fun hlt => ?_
      have h3 : 2 ^ (c + 1) ∣ x := Nat.dvd_trans (Nat.pow_dvd_pow 2 (by omega)) hd
      rw [h1, Nat.pow_succ] at h3
      have h4 := Nat.dvd_of_mul_dvd_mul_left (Nat.pow_pos (by decide : 0 < 2)) h3
      omega
    · intro hle
      rw [h1]
      exact Nat.dvd_trans (Nat.pow_dvd_pow 2 hle) (Nat.dvd_mul_right _ _)

/-- What LayerOf returns. -/
def layerN (x l : Nat) : Nat := (l - 1) - Lib.ctz 64 x
def layerOf (x l : Int) : Int := if x < 0 ∨ l < 1 ∨ 4 < l then -1 else (layerN x.toNat l.toNat : Nat)
theorem layerOf_yes (x l : Nat) (h1 : 1 ≤ l) (h2 : l ≤ 4) : layerOf x l = (layerN x l : Nat) := by
  unfold layerOf
  rw [if_neg (by omega)]
  simp
theorem layerOf_no (x l : Int) (h : x < 0 ∨ l < 1 ∨ 4 < l) : layerOf x l = -1 := by
  unfold layerOf
  rw [if_pos h]
theorem layersValid_any (l : Int) (w : World) :
    Calls Tryd.prog 22 #[.int .i64 l] w fun e w' => e = .returned (.bool (decide (1 ≤ l ∧ l ≤ 4))) ∧ w = w' := by
  by_cases h1 : 1 ≤ l
  · by_cases h2 : l ≤ 4
    · rw [decide_eq_true ⟨h1, h2⟩]
      go_enter Tryd.func22, Tryd.ntmps22
      go_wp2
      go_ret
      exact ⟨by simp, rfl⟩
    · rw [decide_eq_false (by omega)]
      go_enter Tryd.func22, Tryd.ntmps22
      go_wp2
      go_ret
      exact ⟨by simp; try omega, rfl⟩
  · rw [decide_eq_false (by omega)]
    go_enter Tryd.func22, Tryd.ntmps22
    go_wp2
    go_ret
    exact ⟨by simp; try omega, rfl⟩
theorem layersValid_t (l : Int) (w : World) (h1 : 1 ≤ l) (h2 : l ≤ 4) :
    Calls Tryd.prog 22 #[.int .i64 l] w fun e w' => e = .returned (.bool true) ∧ w = w' := by
  refine (layersValid_any l w).mono ?_
  rintro e w' ⟨rfl, rfl⟩
  exact ⟨by rw [decide_eq_true ⟨h1, h2⟩], rfl⟩
theorem layersValid_f (l : Int) (w : World) (h : l < 1 ∨ 4 < l) :
    Calls Tryd.prog 22 #[.int .i64 l] w fun e w' => e = .returned (.bool false) ∧ w = w' := by
  refine (layersValid_any l w).mono ?_
  rintro e w' ⟨rfl, rfl⟩
  exact ⟨by rw [decide_eq_false (by omega)], rfl⟩
theorem ctz_le (x : Nat) (hx : x < 9223372036854775808) : Lib.ctz 64 x ≤ 64 := by
  unfold Lib.ctz
  split
  · omega
  · obtain ⟨m, h1, h2⟩ := Lib.ctzFrom_spec 64 x (by omega) (by omega)
    omega
theorem impl_LayerOf_yes (x l : Nat) (w : World) (hT : Tab w) (hx : x < 9223372036854775808) (h1 : 1 ≤ l) (h2 : l ≤ 4) :
    Calls Tryd.prog 15 #[.int .i64 x, .int .i64 l] w fun e w' => e = .returned (.int .i64 (layerN x l : Nat)) ∧ w = w' := by
  have hw : IntKind.u64.wrap (x : Int) = (x : Int) := by rw [IntKind.wrap_u64]; omega
  have hc := ctz_le x hx
  unfold layerN
  go_enter Tryd.func15, Tryd.ntmps15
  go_wp2_with fail
  refine (layersValid_t _ _ (by omega) (by omega)).mono ?_
  rintro e w1 ⟨rfl, rfl⟩
  go_wp2_with fail
  refine (tz_any x hx _ hT).mono ?_
  rintro e w1 ⟨rfl, rfl⟩
  go_wp2
  all_goals
    go_ret
    exact ⟨ret_int (by omega), rfl⟩
theorem impl_LayerOf_no (x l : Int) (w : World) (h : x < 0 ∨ l < 1 ∨ 4 < l) :
    Calls Tryd.prog 15 #[.int .i64 x, .int .i64 l] w fun e w' => e = .returned (.int .i64 (-1)) ∧ w = w' := by
  by_cases hx : x < 0
  · clear h
    go_enter Tryd.func15, Tryd.ntmps15
    go_wp2
    go_ret
    exact ⟨rfl, rfl⟩
  · have h2 : l < 1 ∨ 4 < l := by omega
    have H := Lib.hid h2
    clear h h2
    go_enter Tryd.func15, Tryd.ntmps15
    go_wp2_with fail
    refine (layersValid_f _ _ H.out).mono ?_
    rintro e w1 ⟨rfl, rfl⟩
    go_wp2
    go_ret
    exact ⟨rfl, rfl⟩
theorem impl_LayerOf_any (x l : Int) (w : World) (hT : Tab w) (hx : x < 9223372036854775808) :
    Calls Tryd.prog 15 #[.int .i64 x, .int .i64 l] w fun e w' => e = .returned (.int .i64 (layerOf x l)) ∧ w = w' := by
  by_cases h : x < 0 ∨ l < 1 ∨ 4 < l
  · rw [layerOf_no x l h]; exact impl_LayerOf_no x l w h
  · obtain ⟨k, rfl⟩ := Int.eq_ofNat_of_zero_le (show 0 ≤ x by omega)
    obtain ⟨m, rfl⟩ := Int.eq_ofNat_of_zero_le (show 0 ≤ l by omega)
    rw [layerOf_yes k m (by omega) (by omega)]
    exact impl_LayerOf_yes k m w hT (by omega) (by omega) (by omega)

/-- The first place from n on at which the power divides. -/
theorem layerN_eq {x l n : Nat} (hx : x < 9223372036854775808) (hn : n ≤ l - 1) (hl : l ≤ 4) (h0 : n = 0 ∨ x % 2 ^ (l - n) ≠ 0) (h1 : x % 2 ^ (l - 1 - n) = 0) (h3 : 1 ≤ l) : layerN x l = n := by
  unfold layerN
  have a := ctz_iff x (l - 1 - n) (by omega) (by omega)
  have b := ctz_iff x (l - n) (by omega) (by omega)
  rw [Nat.dvd_iff_mod_eq_zero] at a b
  have c := a.1 h1
  rcases h0 with h0 | h0
  · subst h0; omega
  · have : ¬ l - n ≤ Lib.ctz 64 x := fun h => h0 (b.2 h)
    omega

theorem spec_LayerOf_l1 (x : Nat) (w : World) (hx : x < 9223372036854775808) :
    Calls Tryd.prog 19 #[.int .i64 x, .int .i64 1] w fun e w' => e = .returned (.int .i64 (layerN x 1 : Nat)) ∧ w = w' := by
  have q0 : x % 1 = 0 → layerN x 1 = 0 := fun b => layerN_eq hx (by decide) (by decide) (.inl rfl) b (by decide)
  have Q0 := Lib.hid q0
  clear q0
  go_enter Tryd.func19, Tryd.ntmps19
  go_wp2_with fail
  refine (l1In_yes _ _ _ _ (by omega) (by omega)).mono ?_
  rintro e w1 ⟨rfl, rfl⟩
  go_wp2_with fail
  go_loop [5] (fun i => (i = .int .i64 0)) (fun i => 10 - (intOf i).toNat)
  case atStart => exact rfl
  case round =>
    subst hrel
    go_wp2
    go_ret
    exact ⟨ret_int (by rw [Q0.out (by omega)]; rfl), rfl⟩
theorem spec_LayerOf_l2 (x : Nat) (w : World) (hx : x < 9223372036854775808) :
    Calls Tryd.prog 19 #[.int .i64 x, .int .i64 2] w fun e w' => e = .returned (.int .i64 (layerN x 2 : Nat)) ∧ w = w' := by
  have q0 : x % 2 = 0 → layerN x 2 = 0 := fun b => layerN_eq hx (by decide) (by decide) (.inl rfl) b (by decide)
  have Q0 := Lib.hid q0
  clear q0
  have q1 : x % 2 ≠ 0 → x % 1 = 0 → layerN x 2 = 1 := fun a b => layerN_eq hx (by decide) (by decide) (.inr a) b (by decide)
  have Q1 := Lib.hid q1
  clear q1
  go_enter Tryd.func19, Tryd.ntmps19
  go_wp2_with fail
  refine (l1In_yes _ _ _ _ (by omega) (by omega)).mono ?_
  rintro e w1 ⟨rfl, rfl⟩
  go_wp2_with fail
  go_loop [5] (fun i => (i = .int .i64 0) ∨ (i = .int .i64 1 ∧ Hid (x % 2 ≠ 0))) (fun i => 10 - (intOf i).toNat)
  case atStart => exact .inl rfl
  case round =>
    rcases hrel with rfl | ⟨rfl, hp⟩
    · by_cases hz : x % 2 = 0
      · have hb : ((x : Int) % 2 != 0) = false := by simp; omega
        have Hz := Lib.hid hz
        clear hz
        go_wp2
        go_ret
        have hz := Hz.out
        exact ⟨ret_int (by rw [Q0.out (by omega)]; rfl), rfl⟩
      · have hb : ((x : Int) % 2 != 0) = true := by simp; omega
        have Hz := Lib.hid hz
        clear hz
        go_wp2
        go_round
        case rel => have hz := Hz.out; exact .inr (⟨rfl, Lib.hid (by omega)⟩)
        case measure => simp [intOf]
    · go_wp2
      go_ret
      exact ⟨ret_int (by rw [Q1.out hp.out (by omega)]; rfl), rfl⟩
theorem spec_LayerOf_l3 (x : Nat) (w : World) (hx : x < 9223372036854775808) :
    Calls Tryd.prog 19 #[.int .i64 x, .int .i64 3] w fun e w' => e = .returned (.int .i64 (layerN x 3 : Nat)) ∧ w = w' := by
  have q0 : x % 4 = 0 → layerN x 3 = 0 := fun b => layerN_eq hx (by decide) (by decide) (.inl rfl) b (by decide)
  have Q0 := Lib.hid q0
  clear q0
  have q1 : x % 4 ≠ 0 → x % 2 = 0 → layerN x 3 = 1 := fun a b => layerN_eq hx (by decide) (by decide) (.inr a) b (by decide)
  have Q1 := Lib.hid q1
  clear q1
  have q2 : x % 2 ≠ 0 → x % 1 = 0 → layerN x 3 = 2 := fun a b => layerN_eq hx (by decide) (by decide) (.inr a) b (by decide)
  have Q2 := Lib.hid q2
  clear q2
  go_enter Tryd.func19, Tryd.ntmps19
  go_wp2_with fail
  refine (l1In_yes _ _ _ _ (by omega) (by omega)).mono ?_
  rintro e w1 ⟨rfl, rfl⟩
  go_wp2_with fail
  go_loop [5] (fun i => (i = .int .i64 0) ∨ (i = .int .i64 1 ∧ Hid (x % 4 ≠ 0)) ∨ (i = .int .i64 2 ∧ Hid (x % 2 ≠ 0))) (fun i => 10 - (intOf i).toNat)
  case atStart => exact .inl rfl
  case round =>
    rcases hrel with rfl | ⟨rfl, hp⟩ | ⟨rfl, hp⟩
    · by_cases hz : x % 4 = 0
      · have hb : ((x : Int) % 4 != 0) = false := by simp; omega
        have Hz := Lib.hid hz
        clear hz
        go_wp2
        go_ret
        have hz := Hz.out
        exact ⟨ret_int (by rw [Q0.out (by omega)]; rfl), rfl⟩
      · have hb : ((x : Int) % 4 != 0) = true := by simp; omega
        have Hz := Lib.hid hz
        clear hz
        go_wp2
        go_round
        case rel => have hz := Hz.out; exact .inr (.inl ⟨rfl, Lib.hid (by omega)⟩)
        case measure => simp [intOf]
    · by_cases hz : x % 2 = 0
      · have hb : ((x : Int) % 2 != 0) = false := by simp; omega
        have Hz := Lib.hid hz
        clear hz
        go_wp2
        go_ret
        have hz := Hz.out
        exact ⟨ret_int (by rw [Q1.out hp.out (by omega)]; rfl), rfl⟩
      · have hb : ((x : Int) % 2 != 0) = true := by simp; omega
        have Hz := Lib.hid hz
        clear hz
        go_wp2
        go_round
        case rel => have hz := Hz.out; exact .inr (.inr (⟨rfl, Lib.hid (by omega)⟩))
        case measure => simp [intOf]
    · go_wp2
      go_ret
      exact ⟨ret_int (by rw [Q2.out hp.out (by omega)]; rfl), rfl⟩
theorem spec_LayerOf_l4 (x : Nat) (w : World) (hx : x < 9223372036854775808) :
    Calls Tryd.prog 19 #[.int .i64 x, .int .i64 4] w fun e w' => e = .returned (.int .i64 (layerN x 4 : Nat)) ∧ w = w' := by
  have q0 : x % 8 = 0 → layerN x 4 = 0 := fun b => layerN_eq hx (by decide) (by decide) (.inl rfl) b (by decide)
  have Q0 := Lib.hid q0
  clear q0
  have q1 : x % 8 ≠ 0 → x % 4 = 0 → layerN x 4 = 1 := fun a b => layerN_eq hx (by decide) (by decide) (.inr a) b (by decide)
  have Q1 := Lib.hid q1
  clear q1
  have q2 : x % 4 ≠ 0 → x % 2 = 0 → layerN x 4 = 2 := fun a b => layerN_eq hx (by decide) (by decide) (.inr a) b (by decide)
  have Q2 := Lib.hid q2
  clear q2
  have q3 : x % 2 ≠ 0 → x % 1 = 0 → layerN x 4 = 3 := fun a b => layerN_eq hx (by decide) (by decide) (.inr a) b (by decide)
  have Q3 := Lib.hid q3
  clear q3
  go_enter Tryd.func19, Tryd.ntmps19
  go_wp2_with fail
  refine (l1In_yes _ _ _ _ (by omega) (by omega)).mono ?_
  rintro e w1 ⟨rfl, rfl⟩
  go_wp2_with fail
  go_loop [5] (fun i => (i = .int .i64 0) ∨ (i = .int .i64 1 ∧ Hid (x % 8 ≠ 0)) ∨ (i = .int .i64 2 ∧ Hid (x % 4 ≠ 0)) ∨ (i = .int .i64 3 ∧ Hid (x % 2 ≠ 0))) (fun i => 10 - (intOf i).toNat)
  case atStart => exact .inl rfl
  case round =>
    rcases hrel with rfl | ⟨rfl, hp⟩ | ⟨rfl, hp⟩ | ⟨rfl, hp⟩
    · by_cases hz : x % 8 = 0
      · have hb : ((x : Int) % 8 != 0) = false := by simp; omega
        have Hz := Lib.hid hz
        clear hz
        go_wp2
        go_ret
        have hz := Hz.out
        exact ⟨ret_int (by rw [Q0.out (by omega)]; rfl), rfl⟩
      · have hb : ((x : Int) % 8 != 0) = true := by simp; omega
        have Hz := Lib.hid hz
        clear hz
        go_wp2
        go_round
        case rel => have hz := Hz.out; exact .inr (.inl ⟨rfl, Lib.hid (by omega)⟩)
        case measure => simp [intOf]
    · by_cases hz : x % 4 = 0
      · have hb : ((x : Int) % 4 != 0) = false := by simp; omega
        have Hz := Lib.hid hz
        clear hz
        go_wp2
        go_ret
        have hz := Hz.out
        exact ⟨ret_int (by rw [Q1.out hp.out (by omega)]; rfl), rfl⟩
      · have hb : ((x : Int) % 4 != 0) = true := by simp; omega
        have Hz := Lib.hid hz
        clear hz
        go_wp2
        go_round
        case rel => have hz := Hz.out; exact .inr (.inr (.inl ⟨rfl, Lib.hid (by omega)⟩))
        case measure => simp [intOf]
    · by_cases hz : x % 2 = 0
      · have hb : ((x : Int) % 2 != 0) = false := by simp; omega
        have Hz := Lib.hid hz
        clear hz
        go_wp2
        go_ret
        have hz := Hz.out
        exact ⟨ret_int (by rw [Q2.out hp.out (by omega)]; rfl), rfl⟩
      · have hb : ((x : Int) % 2 != 0) = true := by simp; omega
        have Hz := Lib.hid hz
        clear hz
        go_wp2
        go_round
        case rel => have hz := Hz.out; exact .inr (.inr (.inr (⟨rfl, Lib.hid (by omega)⟩)))
        case measure => simp [intOf]
    · go_wp2
      go_ret
      exact ⟨ret_int (by rw [Q3.out hp.out (by omega)]; rfl), rfl⟩
theorem spec_LayerOf_yes (x l : Nat) (w : World) (hx : x < 9223372036854775808) (h1 : 1 ≤ l) (h2 : l ≤ 4) :
    Calls Tryd.prog 19 #[.int .i64 x, .int .i64 l] w fun e w' => e = .returned (.int .i64 (layerN x l : Nat)) ∧ w = w' := by
  have hl : l = 1 ∨ l = 2 ∨ l = 3 ∨ l = 4 := by omega
  rcases hl with rfl | rfl | rfl | rfl
  · exact spec_LayerOf_l1 x w hx
  · exact spec_LayerOf_l2 x w hx
  · exact spec_LayerOf_l3 x w hx
  · exact spec_LayerOf_l4 x w hx
theorem spec_LayerOf_no (x l : Int) (w : World) (h : x < 0 ∨ l < 1 ∨ 4 < l) :
    Calls Tryd.prog 19 #[.int .i64 x, .int .i64 l] w fun e w' => e = .returned (.int .i64 (-1)) ∧ w = w' := by
  by_cases hx : x < 0
  · clear h
    go_enter Tryd.func19, Tryd.ntmps19
    go_wp2
    go_ret
    exact ⟨rfl, rfl⟩
  · have h2 : l < 1 ∨ 4 < l := by omega
    have H := Lib.hid h2
    clear h h2
    go_enter Tryd.func19, Tryd.ntmps19
    go_wp2_with fail
    refine (l1In_no _ _ _ _ H.out).mono ?_
    rintro e w1 ⟨rfl, rfl⟩
    go_wp2
    go_ret
    exact ⟨rfl, rfl⟩
theorem spec_LayerOf_any (x l : Int) (w : World) (hx : x < 9223372036854775808) :
    Calls Tryd.prog 19 #[.int .i64 x, .int .i64 l] w fun e w' => e = .returned (.int .i64 (layerOf x l)) ∧ w = w' := by
  by_cases h : x < 0 ∨ l < 1 ∨ 4 < l
  · rw [layerOf_no x l h]; exact spec_LayerOf_no x l w h
  · obtain ⟨k, rfl⟩ := Int.eq_ofNat_of_zero_le (show 0 ≤ x by omega)
    obtain ⟨m, rfl⟩ := Int.eq_ofNat_of_zero_le (show 0 ≤ l by omega)
    rw [layerOf_yes k m (by omega) (by omega)]
    exact spec_LayerOf_yes k m w (by omega) (by omega) (by omega)
end Go.Proofs.YtmokncpppmchfaaDoor
