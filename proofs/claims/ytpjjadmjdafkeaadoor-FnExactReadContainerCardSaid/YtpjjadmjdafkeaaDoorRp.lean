/- What readContainer reads (plain). -/
import Derived.Test.YtpjjadmjdafkeaaDoorCv
namespace Go.Proofs.YtpjjadmjdafkeaaDoor
open Go.RowKit
/-- The number of entries, and what stands at the head. -/
def cNum (d : List Int) : Nat := (nth d 0).toNat
def cT (d : List Int) (i : Nat) : Int := nth d (1 + 5 * i) * 256 + nth d (1 + 5 * i + 1)
def cK (d : List Int) (i : Nat) : Int := nth d (1 + 5 * i + 2)
def cN (d : List Int) (i : Nat) : Int := nth d (1 + 5 * i + 3) * 256 + nth d (1 + 5 * i + 4)
/-- Where the bytes of entry i begin. -/
def cAt (d : List Int) : Nat → Nat
  | 0 => 1 + 5 * cNum d
  | i + 1 => cAt d i + (cN d i).toNat
def cD (d : List Int) (i : Nat) : List Int := (d.drop (cAt d i)).take (cN d i).toNat
/-- Nothing is too short. -/
def fits (d : List Int) : Prop := 1 ≤ d.length ∧ 1 + 5 * cNum d ≤ d.length ∧ cAt d (cNum d) ≤ d.length
instance (d : List Int) : Decidable (fits d) := by unfold fits; infer_instance
def cL (d : List Int) : List Smp := (List.range (cNum d)).map fun i => (cT d i, (cK d i == 1 : Bool), cD d i)
theorem cL_len (d : List Int) : (cL d).length = cNum d := by simp [cL]
theorem cL_get (d : List Int) {i : Nat} (h : i < cNum d) : sget (cL d) i = (cT d i, (cK d i == 1 : Bool), cD d i) := by
  rw [sget_eq _ _ (by rw [cL_len]; exact h)]; simp [cL]
theorem cAt_le (d : List Int) : ∀ i j, i ≤ j → cAt d i ≤ cAt d j := by
  intro i j h
  induction j with
  | zero => obtain rfl : i = 0 := by omega
            exact Nat.le_refl _
  | succ j ih =>
    by_cases hij : i = j + 1
    · subst hij; exact Nat.le_refl _
    · exact Nat.le_trans (ih (by omega)) (by simp only [cAt]; omega)
theorem nth_drop (d : List Int) (m i : Nat) : nth (d.drop m) i = nth d (m + i) := by simp [nth]
theorem nth_take (d : List Int) {m i : Nat} (h : i < m) : nth (d.take m) i = nth d i := by simp [nth, List.getElem?_take, h]
theorem tkE_false {rest : List Int} {er : Bool} {n : Nat} : tkE rest er n = false ↔ er = false ∧ n ≤ rest.length := by
  simp [tkE]
theorem tkE_true {rest : List Int} {er : Bool} {n : Nat} : tkE rest er n = true ↔ er = true ∨ rest.length < n := by
  simp [tkE]
theorem tkB_false {rest : List Int} {er : Bool} {n : Nat} (h : tkE rest er n = false) : tkB rest er n = rest.take n := by simp [tkB, h]
theorem tkR_false {rest : List Int} {er : Bool} {n : Nat} (h : tkE rest er n = false) : tkR rest er n = rest.drop n := by simp [tkR, h]
/-- The three reads of one entry's head. -/
theorem head_ok {rest : List Int} {er : Bool} (h : tkE (tkR (tkR rest er 2) (tkE rest er 2) 1) (tkE (tkR rest er 2) (tkE rest er 2) 1) 2 = false) :
    er = false ∧ 5 ≤ rest.length ∧ tk2 rest er = nth rest 0 * 256 + nth rest 1 ∧ tk1 (tkR rest er 2) (tkE rest er 2) = nth rest 2 ∧
      tk2 (tkR (tkR rest er 2) (tkE rest er 2) 1) (tkE (tkR rest er 2) (tkE rest er 2) 1) = nth rest 3 * 256 + nth rest 4 ∧
      tkR (tkR (tkR rest er 2) (tkE rest er 2) 1) (tkE (tkR rest er 2) (tkE rest er 2) 1) 2 = rest.drop 5 := by
  have h3 := tkE_false.1 h
  have h2 := tkE_false.1 h3.1
  have h1 := tkE_false.1 h2.1
  rw [tkR_false h]
  unfold tk1 tk2
  rw [tkB_false h, tkB_false h3.1, tkB_false h2.1, tkR_false h3.1, tkR_false h2.1]
  rw [tkR_false h3.1, tkR_false h2.1] at h3
  rw [tkR_false h2.1] at h2
  simp only [List.length_drop] at h3 h2
  refine ⟨h1.1, by omega, ?_, ?_, ?_, ?_⟩
  · rw [nth_take _ (by omega), nth_take _ (by omega)]
  · rw [nth_take _ (by omega), nth_drop]
  · rw [nth_take _ (by omega), nth_take _ (by omega), nth_drop, nth_drop, nth_drop, nth_drop]
  · rw [List.drop_drop, List.drop_drop]
theorem head_er {rest : List Int} {er : Bool} (h : tkE (tkR (tkR rest er 2) (tkE rest er 2) 1) (tkE (tkR rest er 2) (tkE rest er 2) 1) 2 = true) (he : er = false) : rest.length < 5 := by
  refine Classical.byContradiction fun h5 => ?_
  have h1 : tkE rest er 2 = false := tkE_false.2 ⟨he, by omega⟩
  rw [h1, tkR_false h1] at h
  have h2 : tkE (rest.drop 2) false 1 = false := tkE_false.2 ⟨rfl, by simp; omega⟩
  rw [h2, tkR_false h2] at h
  have h3 : tkE ((rest.drop 2).drop 1) false 2 = false := tkE_false.2 ⟨rfl, by simp; omega⟩
  rw [h3] at h
  cases h
end Go.Proofs.YtpjjadmjdafkeaaDoor
