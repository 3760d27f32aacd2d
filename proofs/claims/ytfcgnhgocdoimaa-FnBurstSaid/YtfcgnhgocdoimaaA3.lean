/- Contracts: Interleave. -/
import Derived.Test.YtfcgnhgocdoimaaA2
namespace Go.Proofs.Ytfcgnhgocdoimaa
open Go.RowKit
set_option maxHeartbeats 400000

/-- t indices from k on, d apart; all of them below n, for the k-th of d columns; the columns before k. -/
def col (d k t : Nat) : List Int := (List.range t).map fun i => ((k + i * d : Nat) : Int)
def cnt (n d k : Nat) : Nat := (n - k + (d - 1)) / d
def cols (n d k : Nat) : List Int := (List.range k).flatMap fun q => col d q (cnt n d q)
theorem col_len (d k t : Nat) : (col d k t).length = t := by simp [col]
theorem col_succ (d k t : Nat) : col d k (t + 1) = col d k t ++ [((k + t * d : Nat) : Int)] := by simp [col, List.range_succ]
theorem cols_succ (n d k : Nat) : cols n d (k + 1) = cols n d k ++ col d k (cnt n d k) := by simp [cols, List.range_succ]
theorem cnt_le (n d k : Nat) (hd : 1 ≤ d) : cnt n d k ≤ n := by
  unfold cnt
  rw [Nat.div_le_iff_le_mul_add_pred (by omega)]
  have : n ≤ d * n := Nat.le_mul_of_pos_left n (by omega)
  omega
theorem cols_len (n d : Nat) (hd : 1 ≤ d) : ∀ k, (cols n d k).length ≤ k * n := by
  intro k
  induction k with
  | zero => simp [cols]
  | succ k ih =>
    rw [cols_succ, List.length_append, col_len]
    have := cnt_le n d k hd
    rw [Nat.succ_mul]
    omega

theorem cnt_iff (n d q t : Nat) (hd : 1 ≤ d) : q + t * d < n ↔ t < cnt n d q := by
  unfold cnt
  rw [Nat.lt_iff_add_one_le, Nat.lt_iff_add_one_le, Nat.le_div_iff_mul_le (by omega), Nat.succ_mul]
  constructor <;> intro h <;> omega
theorem impl_Interleave_yes (n d : Nat) (w : World) (h2 : n ≤ 100) (h3 : 1 ≤ d) (h4 : d ≤ 8) :
    Calls Try.prog 29 #[.int .i64 n, .int .i64 d] w fun e w' => ∃ v, e = .returned v ∧ w'.ownsRow w.heap.size 3 1 v (cols n d d).length ((cols n d d).map (Value.int .i64)) ∧ Ext w w' := by
  go_enter Try.func29, Try.ntmps29
  go_wp2_with (at_make; refine wpList_mk0 _ rfl _ _ 26 rfl 3 (.int .i64 0) 8 Try.underlying26 info_int _ n rfl rfl rfl (by omega) (by omega) ?_; intro w1 v1 hown hgrow)
  have E1 : Ext w w1 := (Ext.grown (Below.refl _ _) hgrow (by simp))
  clear hgrow
  go_loopw [5, 25] (fun v i wr => ∃ q : Nat, q ≤ d ∧ i = .int .i64 q ∧ Ext w wr ∧ wr.ownsRow w.heap.size 3 1 v (cols n d q).length ((cols n d q).map (Value.int .i64))) (fun _ i _ => d - (intOf i).toNat)
  case atStart => exact ⟨0, by omega, rfl, E1, hown⟩
  case round =>
    obtain ⟨q, hq, rfl, E2, own2⟩ := hrel
    clear hown E1
    by_cases hlt : q < d
    · obtain ⟨wo, rfl⟩ : ∃ wo : World, wo = wr := ⟨_, rfl⟩
      go_wp2
      go_loopw [5, 7] (fun v i wr => ∃ t j : Nat, Hid (j = q + t * d) ∧ j ≤ n + 8 ∧ t ≤ cnt n d q ∧ i = .int .i64 j ∧ Ext w wr ∧ wr.ownsRow w.heap.size 3 1 v (cols n d q ++ col d q t).length ((cols n d q ++ col d q t).map (Value.int .i64))) (fun _ i _ => (200 - intOf i).toNat)
      case atStart => exact ⟨0, q, Lib.hid (by omega), by omega, by omega, rfl, E2, by rw [show cols n d q ++ col d q 0 = cols n d q from by simp [col]]; exact own2⟩
      case round =>
        obtain ⟨t, j, hj, hj2, ht, rfl, E3, own3⟩ := hrel
        clear own2 E2
        have hiff := cnt_iff n d q t h3
        have hcl := cols_len n d h3 q
        have hql : q * n ≤ 8 * 100 := Nat.mul_le_mul (by omega) h2
        have hct := cnt_le n d q h3
        by_cases hjn : j < n
        · have htc : t < cnt n d q := hiff.1 (by rw [← hj.out]; exact hjn)
          have hsz := E3.size
          have hlen : (cols n d q ++ col d q t).length ≤ 1000 := by rw [List.length_append, col_len]; omega
          have Hs := Lib.hid hj.out
          clear hiff hcl hql
          go_wp2_with (at_builtin; refine wpList_app _ own3 hsz _ rfl _ _ 26 rfl (.int .i64 0) 8 Try.underlying26 info_int rfl rfl rfl rfl (by omega) (by omega) ?_; intro v2 w2 own4 gr2 _)
          go_roundw
          case rel =>
            refine ⟨t + 1, j + d, Lib.hid (by rw [Hs.out, Nat.succ_mul]; omega), by omega, by omega, by go_num, Ext.grown E3 gr2 (owns_ge own3), ?_⟩
            rw [col_succ, ← Hs.out, ← List.append_assoc]
            simpa [Nat.add_assoc] using own4
          case measure => simp [intOf]; omega
        · have htc : t = cnt n d q := by
            have : ¬ t < cnt n d q := fun h => hjn (by rw [hj.out]; exact hiff.2 h)
            omega
          have Ht := Lib.hid htc
          clear htc hiff hcl hql
          go_wp2
          go_roundw
          case rel => exact ⟨q + 1, by omega, by go_num, E3, by rw [cols_succ, ← Ht.out]; exact own3⟩
          case measure => simp [intOf]; omega
    · obtain rfl : q = d := by omega
      go_wp2
      go_ret
      exact ⟨_, rfl, own2, E2⟩
theorem spec_Interleave_yes (n d : Nat) (w : World) (h2 : n ≤ 100) (h3 : 1 ≤ d) (h4 : d ≤ 8) :
    Calls Try.prog 28 #[.int .i64 n, .int .i64 d] w fun e w' => ∃ v, e = .returned v ∧ w'.ownsRow w.heap.size 3 1 v (cols n d d).length ((cols n d d).map (Value.int .i64)) ∧ Ext w w' := by
  go_enter Try.func28, Try.ntmps28
  go_wp2_with (go_at_call 37; refine (l1In_yes _ _ _ _ (by omega) (by omega)).mono ?_; rintro e w' ⟨rfl, rfl⟩)
  have E1 : Ext w (w.alloc (.cells #[] 3)) := (Below.refl _ _).alloc (Nat.le_refl _) _
  have hown := World.ownsRow_made (base := w.heap.size) (e := 3) (size := 1) w #[] 0 (Nat.le_refl _) (by simp) rfl
  go_loopw [5, 6] (fun v i wr => ∃ q : Nat, q ≤ d ∧ i = .int .i64 q ∧ Ext w wr ∧ wr.ownsRow w.heap.size 3 1 v (cols n d q).length ((cols n d q).map (Value.int .i64))) (fun _ i _ => d - (intOf i).toNat)
  case atStart => exact ⟨0, by omega, rfl, E1, hown⟩
  case round =>
    obtain ⟨q, hq, rfl, E2, own2⟩ := hrel
    clear hown E1
    by_cases hlt : q < d
    · obtain ⟨wo, rfl⟩ : ∃ wo : World, wo = wr := ⟨_, rfl⟩
      go_wp2
      go_loopw [5, 7] (fun v i wr => ∃ t j : Nat, Hid (j = q + t * d) ∧ j ≤ n + 8 ∧ t ≤ cnt n d q ∧ i = .int .i64 j ∧ Ext w wr ∧ wr.ownsRow w.heap.size 3 1 v (cols n d q ++ col d q t).length ((cols n d q ++ col d q t).map (Value.int .i64))) (fun _ i _ => (200 - intOf i).toNat)
      case atStart => exact ⟨0, q, Lib.hid (by omega), by omega, by omega, rfl, E2, by rw [show cols n d q ++ col d q 0 = cols n d q from by simp [col]]; exact own2⟩
      case round =>
        obtain ⟨t, j, hj, hj2, ht, rfl, E3, own3⟩ := hrel
        clear own2 E2
        have hiff := cnt_iff n d q t h3
        have hcl := cols_len n d h3 q
        have hql : q * n ≤ 8 * 100 := Nat.mul_le_mul (by omega) h2
        have hct := cnt_le n d q h3
        by_cases hjn : j < n
        · have htc : t < cnt n d q := hiff.1 (by rw [← hj.out]; exact hjn)
          have hsz := E3.size
          have hlen : (cols n d q ++ col d q t).length ≤ 1000 := by rw [List.length_append, col_len]; omega
          have Hs := Lib.hid hj.out
          clear hiff hcl hql
          go_wp2_with (at_builtin; refine wpList_app _ own3 hsz _ rfl _ _ 26 rfl (.int .i64 0) 8 Try.underlying26 info_int rfl rfl rfl rfl (by omega) (by omega) ?_; intro v2 w2 own4 gr2 _)
          go_roundw
          case rel =>
            refine ⟨t + 1, j + d, Lib.hid (by rw [Hs.out, Nat.succ_mul]; omega), by omega, by omega, by go_num, Ext.grown E3 gr2 (owns_ge own3), ?_⟩
            rw [col_succ, ← Hs.out, ← List.append_assoc]
            simpa [Nat.add_assoc] using own4
          case measure => simp [intOf]; omega
        · have htc : t = cnt n d q := by
            have : ¬ t < cnt n d q := fun h => hjn (by rw [hj.out]; exact hiff.2 h)
            omega
          have Ht := Lib.hid htc
          clear htc hiff hcl hql
          go_wp2
          go_roundw
          case rel => exact ⟨q + 1, by omega, by go_num, E3, by rw [cols_succ, ← Ht.out]; exact own3⟩
          case measure => simp [intOf]; omega
    · obtain rfl : q = d := by omega
      go_wp2
      go_ret
      exact ⟨_, rfl, own2, E2⟩
theorem impl_Interleave_no (n rows : Int) (w : World) (h : ¬ (0 ≤ n ∧ n ≤ 100 ∧ 1 ≤ rows ∧ rows ≤ 8)) :
    Calls Try.prog 29 #[.int .i64 n, .int .i64 rows] w fun e w' => e = .returned (.slice none 0 0) ∧ w = w' := by
  by_cases h1 : n < 0
  · clear h
    go_enter Try.func29, Try.ntmps29
    go_wp2
    go_ret
    exact ⟨rfl, rfl⟩
  · by_cases h2 : 100 < n
    · clear h
      go_enter Try.func29, Try.ntmps29
      go_wp2
      go_ret
      exact ⟨rfl, rfl⟩
    · by_cases h3 : rows < 1
      · clear h
        go_enter Try.func29, Try.ntmps29
        go_wp2
        go_ret
        exact ⟨rfl, rfl⟩
      · have h4 : 8 < rows := by omega
        clear h
        go_enter Try.func29, Try.ntmps29
        go_wp2
        go_ret
        exact ⟨rfl, rfl⟩
theorem spec_Interleave_no (n rows : Int) (w : World) (h : ¬ (0 ≤ n ∧ n ≤ 100 ∧ 1 ≤ rows ∧ rows ≤ 8)) :
    Calls Try.prog 28 #[.int .i64 n, .int .i64 rows] w fun e w' => ∃ v, e = .returned v ∧ w'.ownsRow w.heap.size 3 1 v 0 [] ∧ Ext w w' := by
  have hown := World.ownsRow_made (base := w.heap.size) (e := 3) (size := 1) w #[] 0 (Nat.le_refl _) (by simp) rfl
  have E1 : Ext w (w.alloc (.cells #[] 3)) := (Below.refl _ _).alloc (Nat.le_refl _) _
  by_cases h1 : 0 ≤ n ∧ n ≤ 100
  · have h2 : rows < 1 ∨ 8 < rows := by omega
    have H2 := Lib.hid h2
    clear h h2
    obtain ⟨h3, h4⟩ := h1
    go_enter Try.func28, Try.ntmps28
    go_wp2_with fail
    refine (l1In_yes _ _ _ _ (by omega) (by omega)).mono ?_
    rintro e w' ⟨rfl, rfl⟩
    go_wp2_with fail
    refine (l1In_no _ _ _ _ H2.out).mono ?_
    rintro e w' ⟨rfl, rfl⟩
    go_wp2
    go_ret
    exact ⟨_, rfl, hown, E1⟩
  · have h2 : n < 0 ∨ 100 < n := by omega
    have H2 := Lib.hid h2
    clear h h1 h2
    go_enter Try.func28, Try.ntmps28
    go_wp2_with fail
    refine (l1In_no _ _ _ _ H2.out).mono ?_
    rintro e w' ⟨rfl, rfl⟩
    go_wp2
    go_ret
    exact ⟨_, rfl, hown, E1⟩

/-- What Interleave returns. -/
def inter (n d : Int) : List Int := if 0 ≤ n ∧ n ≤ 100 ∧ 1 ≤ d ∧ d ≤ 8 then cols n.toNat d.toNat d.toNat else []
theorem inter_len (n d : Int) : (inter n d).length ≤ 800 := by
  unfold inter; split
  · have h := cols_len n.toNat d.toNat (by omega) d.toNat
    have : d.toNat * n.toNat ≤ 8 * 100 := Nat.mul_le_mul (by omega) (by omega)
    omega
  · simp
theorem impl_Interleave_any (n d : Int) (w : World) :
    Calls Try.prog 29 #[.int .i64 n, .int .i64 d] w fun e w' => ∃ v, e = .returned v ∧ w'.ownsRow w.heap.size 3 1 v (inter n d).length ((inter n d).map (Value.int .i64)) ∧ Ext w w' := by
  by_cases h : 0 ≤ n ∧ n ≤ 100 ∧ 1 ≤ d ∧ d ≤ 8
  · rw [show inter n d = cols n.toNat d.toNat d.toNat from if_pos h]
    obtain ⟨n', rfl⟩ := Int.eq_ofNat_of_zero_le h.1
    obtain ⟨d', rfl⟩ := Int.eq_ofNat_of_zero_le (show 0 ≤ d by omega)
    exact impl_Interleave_yes n' d' w (by omega) (by omega) (by omega)
  · rw [show inter n d = [] from if_neg h]
    refine (impl_Interleave_no n d w h).mono ?_
    rintro e w' ⟨rfl, rfl⟩
    exact ⟨_, rfl, World.ownsRow_nil _ _ _ _, Below.refl _ _⟩
theorem spec_Interleave_any (n d : Int) (w : World) :
    Calls Try.prog 28 #[.int .i64 n, .int .i64 d] w fun e w' => ∃ v, e = .returned v ∧ w'.ownsRow w.heap.size 3 1 v (inter n d).length ((inter n d).map (Value.int .i64)) ∧ Ext w w' := by
  by_cases h : 0 ≤ n ∧ n ≤ 100 ∧ 1 ≤ d ∧ d ≤ 8
  · rw [show inter n d = cols n.toNat d.toNat d.toNat from if_pos h]
    obtain ⟨n', rfl⟩ := Int.eq_ofNat_of_zero_le h.1
    obtain ⟨d', rfl⟩ := Int.eq_ofNat_of_zero_le (show 0 ≤ d by omega)
    exact spec_Interleave_yes n' d' w (by omega) (by omega) (by omega)
  · rw [show inter n d = [] from if_neg h]
    exact spec_Interleave_no n d w h
end Go.Proofs.Ytfcgnhgocdoimaa
