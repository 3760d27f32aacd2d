/- The helper functions of the exact laws, over lists of integers, bytes and bools: copy, compare, mark, hold. -/
import Derived.Test.YtmokncpppmchfaaDoorBase
namespace Go.Proofs.YtmokncpppmchfaaDoor
open Go.RowKit
set_option maxHeartbeats 400000
theorem info_int : (Tryd.prog.info? 3).map (fun i => (i.zero, i.size, i.bytes)) = some (some (.int .i64 0), 1, 8) := by kernel_rfl
theorem info_uint8 : (Tryd.prog.info? 5).map (fun i => (i.zero, i.size, i.bytes)) = some (some (.int .u8 0), 1, 1) := by kernel_rfl
/-- toByteS copies. -/
theorem toByteS_any (a : Option Addr) (c n : Nat) (xs : List Int) (w : World) (hn : n < 2^45)
    (r : Sl w a n (xs.map (Value.int .u8))) :
    Calls Tryd.prog 43 #[.slice a n c] w fun e w' => ∃ v, e = .returned v ∧ w'.ownsRow w.heap.size 5 1 v n (xs.map (Value.int .u8)) ∧ Ext w w' := by
  go_enter Tryd.func43, Tryd.ntmps43
  go_wp2_with (at_make; refine wpList_mk _ rfl _ _ 30 rfl 5 (.int .u8 0) 1 Tryd.underlying30 info_uint8 rfl _ n rfl rfl rfl (by omega) (by omega) ?_; intro w1 hown hgrow)
  have E1 : Ext w w1 := (Ext.grown (Below.refl _ _) hgrow (by simp))
  have H0 := mix_zero (xs.map (Value.int .u8)) (List.replicate n (.int .u8 0))
  rw [← H0] at hown
  clear H0 hgrow
  go_loopw [4] (fun i wr => ∃ k : Nat, k ≤ n ∧ i = .int .i64 k ∧ Ext w wr ∧ wr.ownsRow w.heap.size 5 1 (.slice (some ⟨w.heap.size, 0, none⟩) n n) n (mix (xs.map (Value.int .u8)) (List.replicate n (.int .u8 0)) k)) (fun i _ => n - (intOf i).toNat)
  case atStart => exact ⟨0, by omega, rfl, E1, hown⟩
  case round =>
    obtain ⟨k, hk, rfl, E2, hown2⟩ := hrel
    clear hown E1
    by_cases hlt : k < n
    · obtain ⟨b1, o1, rfl, g1⟩ := (r.ext E2).int hlt
      obtain ⟨u, g2, -⟩ := owns_get hown2 hlt
      have g3 := hown2.frozenAt k
      go_wp2
      go_roundw
      case rel =>
        obtain ⟨o2, gr⟩ := hown2.stored k ((Value.int .u8) (nth xs k))
        rw [mix_set _ _ k (by simp [r.int_len]) (by simp [r.int_len, hlt]) _ (getD_map_int _ _ _ (by rw [r.int_len]; exact hlt))] at o2
        exact ⟨k + 1, by omega, rfl, Ext.grown E2 gr (by simp), o2⟩
      case measure => simp [intOf]; omega
    · obtain rfl : k = n := by omega
      rw [mix_all _ _ k (by simp [r.int_len]) (by simp)] at hown2
      go_wp2
      go_ret
      exact ⟨_, rfl, hown2, E2⟩
theorem eqByteS_eq (a1 a2 : Option Addr) (c1 c2 n : Nat) (xs ys : List Int) (w : World) (hn : n < 2^47)
    (r1 : Sl w a1 n (xs.map (Value.int .u8))) (r2 : Sl w a2 n (ys.map (Value.int .u8))) :
    Calls Tryd.prog 44 #[.slice a1 n c1, .slice a2 n c2] w fun e w' => e = .returned (.bool (decide (xs = ys))) ∧ ∃ m, w' = w.drewN m := by
  go_enter Tryd.func44, Tryd.ntmps44
  go_wp2
  go_loopw [5] (fun i wr => ∃ k : Nat, k ≤ n ∧ i = .int .i64 k ∧ (∃ m, wr = w.drewN m) ∧ ∀ j, j < k → nth xs j = nth ys j) (fun i _ => n - (intOf i).toNat)
  case atStart => exact ⟨0, by omega, rfl, ⟨0, rfl⟩, by intro j hj; omega⟩
  case round =>
    obtain ⟨k, hk, rfl, ⟨m, rfl⟩, heq⟩ := hrel
    have Heq := Lib.hid heq
    clear heq
    by_cases hlt : k < n
    · obtain ⟨b1, o1, rfl, g1⟩ := r1.int hlt
      obtain ⟨b2, o2, rfl, g2⟩ := r2.int hlt
      go_wp2
      go_quiet (fail)
      go_wp2
      · have hne : nth xs k ≠ nth ys k := bne_iff_ne.1 (by assumption)
        go_ret
        exact ⟨ret_bool (by simp; intro h; exact hne (by rw [h])), m + nq, by simp⟩
      · have he : nth xs k = nth ys k := by simpa using (by assumption : (nth xs k != nth ys k) = false)
        go_roundw
        case rel => exact ⟨k + 1, by omega, rfl, ⟨_, rfl⟩, fun j hj => by
          rcases Nat.lt_succ_iff_lt_or_eq.1 hj with h | rfl
          · exact Heq.out j h
          · exact he⟩
        case measure => simp [intOf]; omega
    · obtain rfl : k = n := by omega
      go_wp2
      go_ret
      exact ⟨ret_bool (by simp; exact ext_nth (by rw [r1.int_len, r2.int_len]) (fun i hi => Heq.out i (by rw [r1.int_len] at hi; exact hi))), _, rfl⟩
theorem eqByteS_ne (a1 a2 : Option Addr) (c1 c2 n n2 : Nat) (w : World) (_hn : n < 2^47) (_hn2 : n2 < 2^47) (hne : ((n : Int) != n2) = true) :
    Calls Tryd.prog 44 #[.slice a1 n c1, .slice a2 n2 c2] w fun e w' => e = .returned (.bool false) ∧ w = w' := by
  go_enter Tryd.func44, Tryd.ntmps44
  go_wp2
  go_ret
  exact ⟨rfl, rfl⟩
/-- eqByteS: equality of two lists. -/
theorem eqByteS_any (a1 a2 : Option Addr) (c1 c2 n n2 : Nat) (xs ys : List Int) (w : World) (hn : n < 2^47) (hn2 : n2 < 2^47)
    (r1 : Sl w a1 n (xs.map (Value.int .u8))) (r2 : Sl w a2 n2 (ys.map (Value.int .u8))) :
    Calls Tryd.prog 44 #[.slice a1 n c1, .slice a2 n2 c2] w fun e w' => e = .returned (.bool (decide (xs = ys))) ∧ ∃ m, w' = w.drewN m := by
  by_cases h : n = n2
  · subst h
    exact eqByteS_eq a1 a2 c1 c2 n xs ys w hn r1 r2
  · refine (eqByteS_ne a1 a2 c1 c2 n n2 w hn hn2 (by simp; omega)).mono fun e w' he => ?_
    obtain ⟨rfl, rfl⟩ := he
    refine ⟨ret_bool ?_, 0, rfl⟩
    symm
    simp
    rintro rfl
    exact h (by rw [← r1.int_len, ← r2.int_len])
/-- The numbers from k on. -/
def marks (k : Int) (n : Nat) : List Int := (List.range n).map fun (i : Nat) => k + (i : Int)
theorem marks_len (k : Int) (n : Nat) : (marks k n).length = n := by simp [marks]
theorem nth_marks (k : Int) (n i : Nat) (h : i < n) : nth (marks k n) i = k + i := by simp [nth, marks, h]
end Go.Proofs.YtmokncpppmchfaaDoor
