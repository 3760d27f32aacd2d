/- Cutting and joining lists of coded pictures: the program's. -/
import Derived.Test.YtmokncpppmchfaaDoorJ5
namespace Go.Proofs.YtmokncpppmchfaaDoor
open Go.RowKit
set_option maxHeartbeats 1000000
theorem sumN_shift (g : Nat → Nat) (F : Nat) : ∀ m, sumN (fun i => g (F + i)) m + sumN g F = sumN g (F + m)
  | 0 => by simp [sumN]
  | m + 1 => by have := sumN_shift g F m; rw [← Nat.add_assoc]; simp only [sumN]; omega
theorem okC.shift {r : Nat → Cd} {n : Nat} (h : okC r n) {F m : Nat} (hm : F + m ≤ n) : okC (fun i => r (F + i)) m := by
  have h1 := sumN_shift (fun i => szC (r i)) F m
  have h2 : sumN (fun i => szC (r i)) (F + m) ≤ sumN (fun i => szC (r i)) n := sumN_mono hm
  have h3 := h.2
  have h4 := h.1
  unfold smN at h3
  refine ⟨by omega, ?_⟩
  unfold smN
  simp only at h1 h2 h3 ⊢
  omega
/-- The joined list. -/
def joinR (n1 : Nat) (r1 r2 : Nat → Cd) (i : Nat) : Cd := if i < n1 then r1 i else r2 (i - n1)
theorem joinR_l {n1 : Nat} {r1 r2 : Nat → Cd} {i : Nat} (h : i < n1) : joinR n1 r1 r2 i = r1 i := by simp [joinR, h]
theorem joinR_r {n1 : Nat} {r1 r2 : Nat → Cd} {i : Nat} (h : n1 ≤ i) : joinR n1 r1 r2 i = r2 (i - n1) := by simp [joinR, show ¬ i < n1 by omega]
theorem okC.join {r1 r2 : Nat → Cd} {n1 n2 : Nat} (h1 : okC r1 n1) (h2 : okC r2 n2) (hs : smN szC r1 n1 + n1 + (smN szC r2 n2 + n2) ≤ 1048576) : okC (joinR n1 r1 r2) (n1 + n2) := by
  have k1 := sumN_shift (fun i => szC (joinR n1 r1 r2 i)) n1 n2
  have k2 : sumN (fun i => szC (joinR n1 r1 r2 (n1 + i))) n2 = smN szC r2 n2 := sumN_congr fun i hi => by rw [joinR_r (by omega)]; simp
  have k3 : sumN (fun i => szC (joinR n1 r1 r2 i)) n1 = smN szC r1 n1 := sumN_congr fun i hi => by rw [joinR_l hi]
  refine ⟨by omega, ?_⟩
  unfold smN
  omega
theorem CP.shift {w : World} {b off n : Nat} {r : Nat → Cd} (h : CP w (some ⟨b, off, none⟩) n r) {F m : Nat} (hm : F + m ≤ n) : CP w (some ⟨b, off + F * 5, none⟩) m (fun i => r (F + i)) := fun i hi => by
  obtain ⟨b', o', ha, hc⟩ := h (F + i) (by omega)
  simp only [Option.some.injEq, Addr.mk.injEq, and_true] at ha
  obtain ⟨rfl, rfl⟩ := ha
  exact ⟨_, _, rfl, by rw [Nat.add_assoc, ← Nat.add_mul]; exact hc⟩
theorem CE.one {w : World} {lo hi n : Nat} {v : Value} {r : Nat → Cd} {cs : List Value} (h : CE w lo hi v n n r cs) : ∀ u ∈ cs, u.oneCell' = true := by
  obtain ⟨us, h1, -, -, -, h5⟩ := h
  have hcl : cs.length = n * 5 := h1.1
  intro u hu
  obtain ⟨j, hj, rfl⟩ := List.getElem_of_mem hu
  obtain ⟨a, c, ss, ⟨k0, k1, k2, k3, k4⟩, -⟩ := h5 (j / 5) (by omega)
  have hd : j = j / 5 * 5 + j % 5 := by omega
  have hm : j % 5 < 5 := Nat.mod_lt _ (by decide)
  have he : cs[j]? = some cs[j] := List.getElem?_eq_getElem hj
  generalize cs[j] = u at *
  generalize j / 5 = d at *
  generalize j % 5 = m at *
  subst hd
  match m, hm with
  | 0, _ => rw [Nat.add_zero] at he; rw [k0] at he; simp only [Option.some.injEq] at he; rw [← he]; rfl
  | 1, _ => rw [k1] at he; simp only [Option.some.injEq] at he; rw [← he]; rfl
  | 2, _ => rw [k2] at he; simp only [Option.some.injEq] at he; rw [← he]; rfl
  | 3, _ => rw [k3] at he; simp only [Option.some.injEq] at he; rw [← he]; rfl
  | 4, _ => rw [k4] at he; simp only [Option.some.injEq] at he; rw [← he]; rfl
/-- append(s, t...) of lists of coded pictures of the call's own. -/
theorem CE.join {w w' : World} {lo1 hi1 lo2 hi2 hi' n1 n2 : Nat} {v1 v2 v' : Value} {r1 r2 : Nat → Cd} {cs1 cs2 : List Value} (h1 : CE w lo1 hi1 v1 n1 n1 r1 cs1) (h2 : CE w lo2 hi2 v2 n2 n2 r2 cs2) (hb : hi1 ≤ lo2) (hh : hi2 ≤ hi')
    (own : w'.ownsRow lo1 38 5 v' (n1 + n2) (cs1 ++ cs2)) (g : w.grownBy w' v1.ownBlock) : CE w' lo1 hi' v' (n1 + n2) (n1 + n2) (joinR n1 r1 r2) (cs1 ++ cs2) := by
  have o1 := h1.own
  have hcl : cs1.length = n1 * 5 := o1.1
  obtain ⟨us, -, a2, a3, a4, a5⟩ := h1
  obtain ⟨vs, -, b2, b3, b4, b5⟩ := h2
  obtain ⟨ws, w1, w2⟩ : ∃ ws : Nat → Nat, (∀ i, i < n1 → ws i = us i) ∧ ∀ i, ws (n1 + i) = vs i := ⟨fun i => if i < n1 then us i else vs (i - n1), fun i hi => by simp [hi], fun i => by simp; omega⟩
  have w3 : ws n1 = vs 0 := by have := w2 0; rwa [Nat.add_zero] at this
  have hle : ∀ i, i < n1 → us (i + 1) ≤ ws (i + 1) := fun i hi => by
    by_cases e : i + 1 = n1
    · rw [e, w3]; omega
    · rw [w1 _ (by omega)]; exact Nat.le_refl _
  refine ⟨ws, own, ?_, by rw [w2]; omega, fun i hi => ?_, fun i hi => ?_⟩
  · by_cases e : n1 = 0
    · subst e
      rw [w3]; omega
    · rw [w1 0 (by omega)]; exact a2
  · by_cases e : i < n1
    · rw [w1 i e]; exact Nat.le_trans (a4 i e) (hle i e)
    · obtain ⟨j, rfl⟩ := Nat.exists_eq_add_of_le (show n1 ≤ i by omega)
      rw [Nat.add_assoc, w2, w2]; exact b4 j (by omega)
  · by_cases e : i < n1
    · obtain ⟨a, c, ss, ⟨k0, k1, k2, k3, k4⟩, k5⟩ := a5 i e
      rw [joinR_l e]
      refine ⟨a, c, ss, ⟨?_, ?_, ?_, ?_, ?_⟩, ?_⟩
      · rw [List.getElem?_append_left (by omega)]; exact k0
      · rw [List.getElem?_append_left (by omega)]; exact k1
      · rw [List.getElem?_append_left (by omega)]; exact k2
      · rw [List.getElem?_append_left (by omega)]; exact k3
      · rw [List.getElem?_append_left (by omega)]; exact k4
      · rw [w1 i e]
        exact SSk.up (SSk.kept k5 g o1 (by decide) (by decide)) (hle i e)
    · obtain ⟨j, rfl⟩ := Nat.exists_eq_add_of_le (show n1 ≤ i by omega)
      obtain ⟨a, c, ss, ⟨k0, k1, k2, k3, k4⟩, k5⟩ := b5 j (by omega)
      rw [joinR_r (by omega), show n1 + j - n1 = j by omega, Nat.add_assoc, w2, w2]
      refine ⟨a, c, ss, ⟨?_, ?_, ?_, ?_, ?_⟩, SSg.kept k5 g o1 (by decide) (by decide)⟩
      · rw [List.getElem?_append_right (by omega), show (n1 + j) * 5 - cs1.length = j * 5 by omega]; exact k0
      · rw [List.getElem?_append_right (by omega), show (n1 + j) * 5 + 1 - cs1.length = j * 5 + 1 by omega]; exact k1
      · rw [List.getElem?_append_right (by omega), show (n1 + j) * 5 + 2 - cs1.length = j * 5 + 2 by omega]; exact k2
      · rw [List.getElem?_append_right (by omega), show (n1 + j) * 5 + 3 - cs1.length = j * 5 + 3 by omega]; exact k3
      · rw [List.getElem?_append_right (by omega), show (n1 + j) * 5 + 4 - cs1.length = j * 5 + 4 by omega]; exact k4
theorem CE.none (w : World) (r : Nat → Cd) (lo hi : Nat) (h : lo ≤ hi) : CE w lo hi (.slice none 0 0) 0 0 r [] := CE.zero r (World.ownsRow_nil _ _ _ _) h
end Go.Proofs.YtmokncpppmchfaaDoor
