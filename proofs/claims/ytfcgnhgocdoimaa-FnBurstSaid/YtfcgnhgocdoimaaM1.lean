/- Interleave: what the list is like (plain). -/
import Derived.Test.YtfcgnhgocdoimaaA3
namespace Go.Proofs.Ytfcgnhgocdoimaa
/-- The place of v in the list. -/
def posOf (n d v : Nat) : Nat := ((List.range (v % d)).map fun q => cnt n d q).sum + v / d
def chkL (n d : Nat) : Nat → Int → List Int → Bool
  | k, _, [] => k == n
  | k, prev, x :: l => decide (0 ≤ x) && decide (x < n) && (posOf n d x.toNat == k) && (k == 0 || !(decide (prev < x) && decide (x ≠ prev + d) && decide (prev + d < n))) && chkL n d (k + 1) x l
theorem chk_all : ((List.range 101).all fun n => (List.range 8).all fun d => chkL n (d + 1) 0 0 (cols n (d + 1) (d + 1))) = true := by decide +kernel
theorem chk_one (n d : Nat) (h1 : n ≤ 100) (h2 : 1 ≤ d) (h3 : d ≤ 8) : chkL n d 0 0 (cols n d d) = true := by
  have h := chk_all
  rw [List.all_eq_true] at h
  have h4 := h n (by simp; omega)
  rw [List.all_eq_true] at h4
  have h5 := h4 (d - 1) (by simp; omega)
  rw [show d - 1 + 1 = d by omega] at h5
  exact h5
theorem chkL_spec (n d : Nat) : ∀ (l : List Int) (k : Nat) (prev : Int), chkL n d k prev l = true → k + l.length = n ∧ ∀ j, j < l.length → 0 ≤ nth l j ∧ nth l j < n ∧ posOf n d (nth l j).toNat = k + j ∧ (0 < k + j → ¬ (nth (prev :: l) j < nth l j ∧ nth l j ≠ nth (prev :: l) j + d ∧ nth (prev :: l) j + d < n))
  | [], k, prev, h => by
    simp [chkL] at h
    exact ⟨by simp; omega, fun j hj => by simp at hj⟩
  | x :: l, k, prev, h => by
    simp only [chkL, Bool.and_eq_true, decide_eq_true_eq, beq_iff_eq, Bool.or_eq_true, Bool.not_eq_true'] at h
    obtain ⟨⟨⟨⟨h1, h2⟩, h3⟩, h4⟩, h5⟩ := h
    obtain ⟨i1, i2⟩ := chkL_spec n d l (k + 1) x h5
    refine ⟨by simp; omega, fun j hj => ?_⟩
    cases j with
    | zero =>
      refine ⟨by simpa [nth] using h1, by simpa [nth] using h2, by simpa [nth] using h3, fun hk hc => ?_⟩
      rcases h4 with h4 | h4
      · omega
      · simp [nth] at hc h4
        have := h4 hc.1 hc.2.1
        omega
    | succ j =>
      have := i2 j (by simp at hj; omega)
      simp [nth] at this ⊢
      refine ⟨this.1, this.2.1, by omega, ?_⟩
      first | exact this.2.2.2 | exact fun _ => this.2.2.2 | exact fun a b => this.2.2.2 b | exact fun _ a b => this.2.2.2 (by omega) a b
end Go.Proofs.Ytfcgnhgocdoimaa
