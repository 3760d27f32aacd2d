/- Runs of a buffer: plain. -/
import Derived.Test.YtmcdlkbofhdnlaaA6
namespace Go.Proofs.Ytmcdlkbofhdnlaa
theorem brun_valid {s r : Int} : ∀ (xs : List Int) (f : Int), vbuf s r f → vbuf s r (brun s r f xs).2
  | [], f, h => by simpa [brun] using h
  | x :: xs, f, h => by
    simp only [brun]
    split
    · exact h
    · have := arr_valid h
      refine brun_valid xs _ ?_
      obtain ⟨h1, h2, h3, h4, h5, h6⟩ := this
      exact ⟨h1, h2, h3, h4, by omega, by omega⟩
theorem brun_le {s r : Int} : ∀ (xs : List Int) (f : Int), (brun s r f xs).1 ≤ xs.length
  | [], f => by simp [brun]
  | x :: xs, f => by
    simp only [brun]
    split
    · simp
    · have := brun_le (s := s) (r := r) xs (arr s r f - x); simp; omega
theorem brun_app1 {s r : Int} : ∀ (l l2 : List Int) (f : Int), (brun s r f l).1 < l.length → brun s r f (l ++ l2) = brun s r f l
  | [], l2, f, h => by simp at h
  | x :: l, l2, f, h => by
    simp only [List.cons_append, brun] at h ⊢
    split
    · rfl
    · rename_i hn
      rw [if_neg hn] at h
      simp at h
      rw [brun_app1 l l2 _ h]
theorem brun_app2 {s r : Int} : ∀ (l l2 : List Int) (f : Int), (brun s r f l).1 = l.length → brun s r f (l ++ l2) = (l.length + (brun s r (brun s r f l).2 l2).1, (brun s r (brun s r f l).2 l2).2)
  | [], l2, f, h => by simp [brun]
  | x :: l, l2, f, h => by
    simp only [List.cons_append, brun] at h ⊢
    by_cases hn : x < 0 ∨ arr s r f < x
    · rw [if_pos hn] at h; simp at h
    · rw [if_neg hn] at h ⊢
      simp at h
      rw [if_neg hn, brun_app2 l l2 _ h]
      simp; omega
theorem arr_mono {s r f f' : Int} (h : f ≤ f') : arr s r f ≤ arr s r f' := by
  unfold arr; split <;> split <;> omega
theorem brun_mono {s r : Int} : ∀ (xs : List Int) (f f' : Int), f ≤ f' → (brun s r f xs).1 ≤ (brun s r f' xs).1
  | [], f, f', h => by simp [brun]
  | x :: xs, f, f', h => by
    have h2 := arr_mono (s := s) (r := r) h
    simp only [brun]
    by_cases hn : x < 0 ∨ arr s r f < x
    · rw [if_pos hn]; simp
    · rw [if_neg hn, if_neg (by omega)]
      have := brun_mono (s := s) (r := r) xs (arr s r f - x) (arr s r f' - x) (by omega)
      simp; omega
end Go.Proofs.Ytmcdlkbofhdnlaa
