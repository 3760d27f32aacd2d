/- readContainer: its contract. -/
import Derived.Test.YtpjjadmjdafkeaaDoorRp
import Derived.Test.YtpjjadmjdafkeaaDoorR1
namespace Go.Proofs.YtpjjadmjdafkeaaDoor
open Go.RowKit
set_option maxHeartbeats 1000000
theorem CuS.blk {w : World} {q : Nat} {rest : List Int} {er : Bool} (h : CuS w q rest er) : ∃ arr, w.heap[q]? = some (.cells arr 61 (0, 0)) := by
  cases er with
  | true => obtain ⟨x, s, h1⟩ := h; exact ⟨_, h1⟩
  | false => obtain ⟨a, n, c, h1, -⟩ := h; exact ⟨_, h1⟩
/-- A row of another kind stays when the cursor moves. -/
theorem CuS.keep {w w' : World} {q base e size n : Nat} {v : Value} {xs : List Value} {rest : List Int} {er : Bool} (h : CuS w q rest er) (g : w.grownBy w' (some q)) (o : w.ownsRow base e size v n xs) (hne : e ≠ 61) : w'.ownsRow base e size v n xs := by
  obtain ⟨arr, hb⟩ := h.blk
  exact o.kept g (own_ne_blk o hb hne)
/-- The first k entries' heads as they were read. -/
def HdOk (d : List Int) (cs : List Value) (ls : List Int) (k : Nat) : Prop :=
  1 + 5 * k ≤ d.length ∧ ∀ i, i < k → cs[i * 3]? = some (.int .i64 (cT d i)) ∧ cs[i * 3 + 1]? = some (.bool (cK d i == 1)) ∧ nth ls i = cN d i
/-- The state behind k heads. -/
def HdS (d : List Int) (cs : List Value) (ls : List Int) (k : Nat) (rest : List Int) (er : Bool) : Prop :=
  bys rest ∧ (er = false → rest = d.drop (1 + 5 * k) ∧ HdOk d cs ls k) ∧ (er = true → ¬ fits d)
theorem HdS.step {d rest : List Int} {cs : List Value} {ls : List Int} {k n : Nat} {er : Bool} (h : HdS d cs ls k rest er) (hk : k < n) (hn : n = cNum d) (hcs : cs.length = n * 3) (hls : ls.length = n) :
    HdS d (((cs.set (k * 3) (.int .i64 (tk2 rest er))).set (k * 3 + 1) (.bool (tk1 (tkR rest er 2) (tkE rest er 2) == 1)))) (ls.set k (tk2 (tkR (tkR rest er 2) (tkE rest er 2) 1) (tkE (tkR rest er 2) (tkE rest er 2) 1))) (k + 1)
      (tkR (tkR (tkR rest er 2) (tkE rest er 2) 1) (tkE (tkR rest er 2) (tkE rest er 2) 1) 2) (tkE (tkR (tkR rest er 2) (tkE rest er 2) 1) (tkE (tkR rest er 2) (tkE rest er 2) 1) 2) := by
  obtain ⟨hb, h0, h1⟩ := h
  refine ⟨tkR_bys (tkR_bys (tkR_bys hb _ _) _ _) _ _, fun he => ?_, fun he => ?_⟩
  · obtain ⟨e0, e1, e2, e3, e4, e5⟩ := head_ok he
    obtain ⟨r0, l0, l1⟩ := h0 e0
    rw [e5, e2, e3, e4]
    have hlen : 1 + 5 * (k + 1) ≤ d.length := by rw [r0, List.length_drop] at e1; omega
    refine ⟨by rw [r0, List.drop_drop]; congr 1, hlen, fun i hi => ?_⟩
    by_cases hik : i = k
    · subst hik
      rw [r0, nth_drop, nth_drop, nth_drop, nth_drop, nth_drop]
      refine ⟨?_, ?_, ?_⟩
      · rw [List.getElem?_set_ne (by omega), List.getElem?_set_self (by omega)]; rfl
      · rw [List.getElem?_set_self (by rw [List.length_set]; omega)]; rfl
      · rw [nth_eq _ _ (by rw [List.length_set]; omega)]; simp [cN]
    · obtain ⟨g0, g1, g2⟩ := l1 i (by omega)
      refine ⟨?_, ?_, ?_⟩
      · rw [List.getElem?_set_ne (by omega), List.getElem?_set_ne (by omega)]; exact g0
      · rw [List.getElem?_set_ne (by omega), List.getElem?_set_ne (by omega)]; exact g1
      · rw [← g2]; simp only [nth, List.getD_eq_getElem?_getD]; rw [List.getElem?_set_ne (by omega)]
  · cases er with
    | true => exact h1 rfl
    | false =>
      have h5 := head_er he rfl
      obtain ⟨r0, l0, l1⟩ := h0 rfl
      rw [r0, List.length_drop] at h5
      intro hf
      have := hf.2.1
      omega
end Go.Proofs.YtpjjadmjdafkeaaDoor
