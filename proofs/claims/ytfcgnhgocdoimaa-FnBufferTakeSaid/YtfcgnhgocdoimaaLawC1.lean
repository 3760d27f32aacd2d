/- FnRefreshSchedule: the walk of the law. -/
import Derived.Test.YtfcgnhgocdoimaaD2
import Derived.Test.YtfcgnhgocdoimaaV
namespace Go.Proofs.Ytfcgnhgocdoimaa
open Go.RowKit
set_option maxHeartbeats 400000

theorem byte_range {zs : List Int} (h : ∀ z ∈ zs, (Lit.int .u8 z).wf = true) : ∀ z ∈ zs, 0 ≤ z ∧ z ≤ 255 := by
  intro z hz
  have := h z hz
  simp [Lit.wf, IntKind.min, IntKind.max, IntKind.signed, IntKind.bits] at this
  omega

/-- The rows met in t pictures from row r on. -/
def orS (m r : Nat) : Nat → Nat
  | 0 => 0
  | t + 1 => orS m r t ||| 2 ^ ((r + t) % m)
theorem orS_small {m r : Nat} (hm : 0 < m) (h4 : m ≤ 4) : ∀ t, orS m r t < 2 ^ 4
  | 0 => by simp [orS]
  | t + 1 => by
    rw [orS]
    exact Nat.or_lt_two_pow (orS_small hm h4 t) (Nat.pow_lt_pow_of_lt (by decide) (by have := Nat.mod_lt (r + t) hm; omega))
theorem orS_full : ∀ m, 0 < m → m ≤ 4 → ∀ r, r < m → orS m r m = 2 ^ m - 1 := by
  intro m h0 h4 r hr
  have : m = 1 ∨ m = 2 ∨ m = 3 ∨ m = 4 := by omega
  have hr4 : r = 0 ∨ r = 1 ∨ r = 2 ∨ r = 3 := by omega
  rcases this with rfl | rfl | rfl | rfl <;> rcases hr4 with rfl | rfl | rfl | rfl <;> first | omega | decide

theorem law_FnRefreshSchedule (a : Option Addr) (c n : Nat) (zs : List Int) (w : World) (hn0 : n ≤ c ∧ c ≤ maxLen) (sl : Sl w a n (zs.map (Value.int .u8))) (wf : ∀ z ∈ zs, (Lit.int .u8 z).wf = true) :
    Calls Try.prog 8 #[.slice a n c] w fun e w' => e = .returned (.bool true) ∧ Ext w w' := by
  have hn : n ≤ c ∧ c ≤ 9223372036854775807 := ⟨hn0.1, hn0.2⟩
  clear hn0
  have hz := Lib.hid (byte_range wf)
  clear wf
  by_cases hbig : 1048576 < n
  · go_enter Try.func8, Try.ntmps8
    go_wp2
    go_ret
    refine ⟨rfl, ?_⟩
    (repeat (first | with_reducible exact Below.refl _ _ | assumption | with_reducible refine below_drewN ?_ _ | with_reducible refine Below.drew ?_ | with_reducible refine Below.setCell ?_ (by simp <;> omega) _ | with_reducible refine Ext.trans ?_ (Ext.alloc _ _)))
  go_enter Try.func8, Try.ntmps8
  go_wp2_with fail
  refine (DrawRefreshSchedule_any a c n zs _ hn.1 hn.2 (sl.ext (by (repeat (first | with_reducible exact Below.refl _ _ | assumption | with_reducible refine below_drewN ?_ _ | with_reducible refine Below.drew ?_ | with_reducible refine Below.setCell ?_ (by simp <;> omega) _ | with_reducible refine Ext.trans ?_ (Ext.alloc _ _))))) hz.out).mono ?_
  rintro e w1 ⟨x, y, rfl, hx0, hx1, hy0, hy1, e1⟩
  have E1 : Ext w w1 := by refine Ext.trans ?_ e1; (repeat (first | with_reducible exact Below.refl _ _ | assumption | with_reducible refine below_drewN ?_ _ | with_reducible refine Below.drew ?_ | with_reducible refine Below.setCell ?_ (by simp <;> omega) _ | with_reducible refine Ext.trans ?_ (Ext.alloc _ _)))
  clear sl hz e1
  go_wp2_with fail
  refine (impl_RefreshSchedule_any x y _).mono ?_
  rintro e w2 ⟨v2, rfl, own2, e2⟩
  obtain ⟨a2, c2, rfl⟩ := owns_form own2
  have s2 := Sl.of_owns own2
  have E2 := E1.trans e2
  clear own2 E1 e2
  go_wp2_with fail
  refine (spec_RefreshSchedule_any x y _).mono ?_
  rintro e w3 ⟨v3, rfl, own3, e3⟩
  obtain ⟨a3, c3, rfl⟩ := owns_form own3
  have s3 := Sl.of_owns own3
  have E3 := E2.trans e3
  have s2' := s2.ext e3
  clear own3 E2 e3 s2
  go_wp2_with fail
  have hl : (sched x y).length ≤ 100 := sched_len x y
  refine (sameInts_any a2 a3 c2 c3 _ _ _ _ _ (by omega) (by omega) s2' s3).mono ?_
  rintro e w4 ⟨he, m4, rfl⟩
  rw [decide_eq_true rfl] at he
  subst he
  have E4 : Ext w (w3.drewN m4) := below_drewN E3 m4
  have s4 := s2'.drewN m4
  clear s2' s3 E3
  generalize w3.drewN m4 = w4 at *
  by_cases hv : 0 ≤ x ∧ x ≤ 100 ∧ 1 ≤ y ∧ y ≤ 4
  · obtain ⟨hv1, hv2, hv3, hv4⟩ := hv
    obtain ⟨k, rfl⟩ := Int.eq_ofNat_of_zero_le hv1
    obtain ⟨m, rfl⟩ := Int.eq_ofNat_of_zero_le (show 0 ≤ y by omega)
    have hs : sched (k : Int) (m : Int) = schedL k (m : Int) := by
      rw [show sched (k : Int) (m : Int) = schedL (k : Int).toNat m from if_pos ⟨hv1, hv2, hv3, hv4⟩]; simp
    rw [hs, schedL_len] at s4
    rw [hs, schedL_len]
    clear hs hl
    have hmm : 0 < m := by omega
    go_wp2_with fail
    go_loopw [6, 7, 8] (fun i _ _ wr => ∃ (q : Nat), q ≤ k + 1 ∧ i = .int .i64 q ∧ wr = w4) (fun i _ _ _ => k + 1 - (intOf i).toNat)
    case atStart => exact ⟨0, by omega, rfl, rfl⟩
    case round =>
      obtain ⟨q, hq, rfl, rfl⟩ := hrel
      by_cases hlt : q + m ≤ k
      · go_wp2_with fail
        go_loopw [7, 8] (fun s j wr' => ∃ (t : Nat), t ≤ m ∧ j = .int .i64 ((q + t : Nat) : Int) ∧ s = .int .i64 (orS m (q % m) t : Nat) ∧ wr' = wr) (fun _ j _ => q + m - (intOf j).toNat)
        case atStart => exact ⟨0, by omega, by simp, rfl, rfl⟩
        case round =>
          obtain ⟨t, ht, rfl, rfl, rfl⟩ := hrel
          by_cases hlt2 : t < m
          · obtain ⟨b1, o1, rfl, g1⟩ := s4.int (show q + t < k by omega)
            rw [nth_schedL _ _ _ (show q + t < k by omega)] at g1
            have hmod : ((q + t : Nat) : Int) % (m : Int) = ((q % m + t) % m : Nat) := by simp
            rw [hmod] at g1
            have hstep := Lib.hid (show orS m (q % m) (t + 1) = orS m (q % m) t ||| 2 ^ ((q % m + t) % m) from rfl)
            have hsm := orS_small (r := q % m) hmm (by omega) t
            have hel := Nat.mod_lt (q % m + t) hmm
            clear hmod
            generalize (q % m + t) % m = e at *
            generalize orS m (q % m) t = S at *
            have he : e = 0 ∨ e = 1 ∨ e = 2 ∨ e = 3 := by omega
            have hor : ∀ x : Nat, x < 16 → bits .or .i64 (S : Int) (x : Int) = ((S ||| x : Nat) : Int) := fun x hx => i64_or_nat S x (by omega) (by omega)
            have Hor := Lib.hid hor
            clear hor
            rcases he with rfl | rfl | rfl | rfl
            · go_wp2
              refine ⟨⟨t + 1, by omega, by go_num, ?_, trivial⟩, by simp [intOf]; omega⟩
              rw [show bits .or .i64 (S : Int) 1 = ((S ||| 1 : Nat) : Int) from Hor.out 1 (by decide), hstep.out]
            · go_wp2
              refine ⟨⟨t + 1, by omega, by go_num, ?_, trivial⟩, by simp [intOf]; omega⟩
              rw [show bits .or .i64 (S : Int) 2 = ((S ||| 2 : Nat) : Int) from Hor.out 2 (by decide), hstep.out]
            · go_wp2
              refine ⟨⟨t + 1, by omega, by go_num, ?_, trivial⟩, by simp [intOf]; omega⟩
              rw [show bits .or .i64 (S : Int) 4 = ((S ||| 4 : Nat) : Int) from Hor.out 4 (by decide), hstep.out]
            · go_wp2
              refine ⟨⟨t + 1, by omega, by go_num, ?_, trivial⟩, by simp [intOf]; omega⟩
              rw [show bits .or .i64 (S : Int) 8 = ((S ||| 8 : Nat) : Int) from Hor.out 8 (by decide), hstep.out]
          · obtain rfl : t = m := by omega
            have hfull := orS_full t hmm (by omega) (q % t) (Nat.mod_lt q hmm)
            have hm4 : t = 1 ∨ t = 2 ∨ t = 3 ∨ t = 4 := by omega
            rw [hfull]
            clear hfull
            rcases hm4 with rfl | rfl | rfl | rfl
            all_goals
              go_wp2
              exact ⟨⟨q + 1, by omega, by go_num, trivial⟩, by simp [intOf]; omega⟩
      · go_wp2
        go_ret
        exact ⟨by simp, E4⟩
  · rw [show sched x y = [] from if_neg hv] at s4 ⊢
    clear s4
    have hb : (decide (x < 0) || decide (100 < x) || decide (y < 1) || decide (4 < y)) = true := by simp; omega
    go_wp2_with fail
    all_goals
      refine (alive_any _).mono ?_
      rintro e w5 ⟨rfl, e5⟩
      have E5 := E4.trans e5
      clear E4 e5
      go_wp2
      go_ret
      exact ⟨rfl, E5⟩
end Go.Proofs.Ytfcgnhgocdoimaa
