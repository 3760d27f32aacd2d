/- Requantizing, plain: what is kept, what is valid, how many levels are not zero. -/
import Derived.Test.YtlmoeabchiddnaaDoorRq
import Derived.Test.YtlmoeabchiddnaaDoorSr
namespace Go.Proofs.YtlmoeabchiddnaaDoor
open Go.RowKit
set_option maxHeartbeats 1000000
theorem rnd_zero {s : Int} (hs : 1 ≤ s) : rnd 0 s = 0 := by
  unfold rnd
  exact Int.ediv_eq_zero_of_lt (by omega) (by omega)
theorem qz_zero {q : Nat} (hq : q < 16) : qz 0 q = 0 := by
  unfold qz
  rw [if_neg (by omega), rnd_zero (stp_rng hq).1]
theorem rqz_zero {f t : Nat} (ht : t < 16) : rqz f t 0 = 0 := by
  unfold rqz dq
  rw [Int.zero_mul, clipI_in (by omega) (by omega), qz_zero ht]
theorem rnd_mul {l s : Int} (hl : 0 ≤ l) (hs : 1 ≤ s) : rnd (l * s) s = l := by
  unfold rnd
  refine (Int.ediv_eq_iff_of_pos (by omega)).2 ?_
  have e : l * (2 * s) = 2 * (l * s) := by rw [← Int.mul_assoc, Int.mul_comm l 2, Int.mul_assoc]
  constructor
  · omega
  · omega
theorem rqz_self {f : Nat} {l : Int} (hf : f < 16) (h : absI l * stp f ≤ 4080) : rqz f f l = l := by
  have hs := stp_rng hf
  unfold rqz dq absI at *
  generalize hst : stp f = s at *
  by_cases hl : l < 0
  · rw [if_pos hl] at h
    have e : -l * s = -(l * s) := Int.neg_mul _ _
    have h2 : 1 ≤ -l * s := by
      have := Int.mul_le_mul (show 1 ≤ -l by omega) hs.1 (by omega) (by omega)
      omega
    rw [clipI_in (by omega) (by omega)]
    unfold qz
    rw [if_pos (by omega), hst, ← e, rnd_mul (by omega) hs.1]
    omega
  · rw [if_neg hl] at h
    have h2 : 0 ≤ l * s := Int.mul_nonneg (by omega) (by omega)
    rw [clipI_in (by omega) (by omega)]
    unfold qz
    rw [if_neg (by omega), hst, rnd_mul (by omega) hs.1]
theorem done64_lv {m : Mac} (h : m.ok) (f t : Nat) : (m.done f t 64).lv = m.lv.map (rqz f t) := by
  show mixI (m.lv.map (rqz f t)) m.lv 64 = _
  unfold mixI
  rw [List.take_of_length_le (by simp [h.lv]), List.drop_of_length_le (by simp [h.lv]), List.append_nil]
theorem done64_nth {m : Mac} (h : m.ok) (f t : Nat) {j : Nat} (hj : j < 64) : nth (m.done f t 64).lv j = rqz f t (nth m.lv j) := by
  have hl : j < m.lv.length := by rw [h.lv]; exact hj
  rw [done64_lv h]
  simp [nth, hl]
theorem done_self {m : Mac} (h : m.ok) {f : Nat} (hf : f < 16) (hs : ∀ j, j < 64 → absI (nth m.lv j) * stp f ≤ 4080) : m.done f f 64 = m := by
  have e : (m.done f f 64).lv = m.lv := by
    refine ext_nth (by rw [done64_lv h]; simp) fun j hj => ?_
    have hj' : j < 64 := by rw [done64_lv h] at hj; simpa [h.lv] using hj
    rw [done64_nth h _ _ hj', rqz_self hf (hs j hj')]
  obtain ⟨k, x, y, ms, lv⟩ := m
  have e' : (Mac.done ⟨k, x, y, ms, lv⟩ f f 64).lv = lv := e
  show Mac.mk k x y ms (mixI (lv.map (rqz f f)) lv 64) = _
  have e2 : mixI (lv.map (rqz f f)) lv 64 = lv := e'
  rw [e2]
theorem done_valid {m : Mac} (h : m.ok) (hv : m.valid) {f t : Nat} (ht : t < 16) : (m.done f t 64).valid := by
  obtain ⟨h1, h2, h3, h4, h5, h6, h7⟩ := hv
  refine ⟨h1, h2, h3, h4, h5, ?_, ?_⟩
  · intro hk
    have hz : m.lv = zero64 := h6 hk
    rw [done64_lv h, hz]
    unfold zero64
    rw [List.map_replicate, rqz_zero ht]
  · refine inB_iff.2 fun j hj => ?_
    have hj' : j < 64 := by rw [done64_lv h] at hj; simpa [h.lv] using hj
    rw [done64_nth h _ _ hj']
    have hd := dq_rng (nth m.lv j) f
    exact qz_rng hd.1 hd.2 ht
theorem runT_mono {xs ys : List Int} (h : ∀ i, i < 16 → nth ys i ≠ 0 → nth xs i ≠ 0) : ∀ k, k ≤ 16 → (runT ys k).2.length ≤ (runT xs k).2.length := by
  intro k
  induction k with
  | zero => intro _; exact Nat.le_refl _
  | succ k ih =>
    intro hk
    have ih := ih (by omega)
    obtain ⟨s0, s1⟩ := scan_rng k (by omega)
    have hh := h (nth scanL k).toNat (by omega)
    unfold runT
    by_cases hy : nth ys (nth scanL k).toNat = 0
    · rw [if_pos hy]
      split
      · exact ih
      · simp; omega
    · rw [if_neg hy, if_neg (hh hy)]
      simpa using ih
theorem runs_fewer {m : Mac} (h : m.ok) {f t : Nat} (ht : t < 16) {k : Nat} (hk : k < 4) : (runsL (sub (m.done f t 64).lv (k * 16) 16)).length ≤ (runsL (sub m.lv (k * 16) 16)).length := by
  refine runT_mono (fun i hi hy hx => hy ?_) 16 (Nat.le_refl _)
  rw [nth_sub _ _ _ _ hi] at hx ⊢
  rw [done64_nth h _ _ (by omega), hx, rqz_zero ht]
end Go.Proofs.YtlmoeabchiddnaaDoor
