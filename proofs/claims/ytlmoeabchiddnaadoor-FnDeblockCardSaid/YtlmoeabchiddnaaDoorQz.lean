/- Quantization: both sides, for arguments in range. -/
import Derived.Test.YtlmoeabchiddnaaDoorCl
import Derived.Test.YtlmoeabchiddnaaDoorA2
import Derived.Test.YtlmoeabchiddnaaDoorRegion
namespace Go.Proofs.YtlmoeabchiddnaaDoor
open Go.RowKit
set_option maxHeartbeats 1000000
/-- The steps. -/
def stepL : List Int := [1, 2, 4, 8, 12, 16, 24, 32, 48, 64, 96, 128, 192, 256, 384, 512]
def stp (q : Nat) : Int := nth stepL q
theorem stp_rng {q : Nat} (h : q < 16) : 1 ≤ stp q ∧ stp q ≤ 512 := by
  have : ∀ q, q < 16 → 1 ≤ stp q ∧ stp q ≤ 512 := by decide
  exact this q h
/-- |c| divided by s, rounded. -/
def rnd (c s : Int) : Int := (2 * c + s) / (2 * s)
def qz (c : Int) (q : Nat) : Int := if c < 0 then -rnd (-c) (stp q) else rnd c (stp q)
def dq (l : Int) (q : Nat) : Int := clipI (l * stp q) (-4080) 4080
theorem rnd_rng {c s : Int} (h0 : 0 ≤ c) (hs : 1 ≤ s) : 0 ≤ rnd c s ∧ rnd c s ≤ c := by
  unfold rnd
  constructor
  · exact Int.ediv_nonneg (by omega) (by omega)
  · have h2 : 2 * c + s < (c + 1) * (2 * s) := by
      have h3 : 0 ≤ c * (2 * s - 2) := Int.mul_nonneg h0 (by omega)
      have h4 : (c + 1) * (2 * s) = c * (2 * s - 2) + 2 * c + 2 * s := by
        rw [Int.add_mul, Int.mul_sub]; omega
      omega
    have := Int.ediv_lt_of_lt_mul (by omega) h2
    omega
theorem dq_rng (l : Int) (q : Nat) : -4080 ≤ dq l q ∧ dq l q ≤ 4080 := clipI_lo (by omega)
theorem qz_rng {c : Int} {q : Nat} (h1 : -4080 ≤ c) (h2 : c ≤ 4080) (hq : q < 16) : -4080 ≤ qz c q ∧ qz c q ≤ 4080 := by
  have hs := stp_rng hq
  unfold qz
  split
  · have := rnd_rng (c := -c) (s := stp q) (by omega) hs.1; omega
  · have := rnd_rng (c := c) (s := stp q) (by omega) hs.1; omega
theorem cellOfBlk {w : World} {b : Nat} {arr : Array Value} {T : TypeId} {i : Nat} {v : Value} (h : w.heap[b]? = some (.cells arr T (0, 0))) (hi : arr[i]? = some v) : w.cell? ⟨b, i, none⟩ = some v := by
  simp [World.cell?, h, hi]
theorem mul_bnd {l s : Int} (h1 : -4080 ≤ l) (h2 : l ≤ 4080) (s1 : 1 ≤ s) (s2 : s ≤ 512) : -2088960 ≤ l * s ∧ l * s ≤ 2088960 := by
  have a1 : l * s ≤ 4080 * s := Int.mul_le_mul_of_nonneg_right h2 (by omega)
  have a2 : -4080 * s ≤ l * s := Int.mul_le_mul_of_nonneg_right h1 (by omega)
  omega
theorem spec_QuantStep_in (q : Nat) (w : World) (hq : q < 16) :
    Calls Tryd.prog 112 #[.int .i64 q] w fun e w' => e = .returned (.int .i64 (stp q)) ∧ Ext w w' := by
  have E1 := Ext.alloc w (.cells (stepL.map (Value.int .i64)).toArray 3)
  have hc : (w.alloc (.cells (stepL.map (Value.int .i64)).toArray 3)).cell? ⟨w.heap.size, q, none⟩ = some (.int .i64 (stp q)) := by
    refine cellOfBlk (blk_new w _) ?_
    have : ∀ q, q < 16 → (stepL.map (Value.int .i64)).toArray[q]? = some (.int .i64 (stp q)) := by
      intro q hq
      have hl : q < stepL.length := hq
      simp [stp, nth, hl]
    exact this q hq
  have e : (stepL.map (Value.int .i64)).toArray = #[.int .i64 1, .int .i64 2, .int .i64 4, .int .i64 8, .int .i64 12, .int .i64 16, .int .i64 24, .int .i64 32, .int .i64 48, .int .i64 64, .int .i64 96, .int .i64 128, .int .i64 192, .int .i64 256, .int .i64 384, .int .i64 512] := rfl
  rw [e] at hc E1
  go_enter Tryd.func112, Tryd.ntmps112
  go_wp2_with fail
  refine (l1In_yes _ _ _ _ (by omega) (by omega)).mono ?_
  rintro e w1 ⟨rfl, rfl⟩
  go_wp2
  go_ret
  exact ⟨rfl, E1⟩
theorem l4Quant_in (c : Int) (q : Nat) (w : World) (h1 : -4080 ≤ c) (h2 : c ≤ 4080) (hq : q < 16) :
    Calls Tryd.prog 111 #[.int .i64 c, .int .i64 q] w fun e w' => e = .returned (.int .i64 (qz c q)) ∧ Ext w w' := by
  have hs := stp_rng hq
  go_enter Tryd.func111, Tryd.ntmps111
  go_wp2_with fail
  refine (spec_QuantStep_in q _ hq).mono ?_
  rintro e w1 ⟨rfl, E1⟩
  have hz : qz c q = if c < 0 then -rnd (-c) (stp q) else rnd c (stp q) := rfl
  have Hz := Lib.hid hz
  clear hz
  generalize stp q = s at *
  by_cases hc : c < 0
  · have hr : rnd (-c) s = (-c * 2 + s) / (2 * s) := by unfold rnd; congr 1; omega
    have Hr := Lib.hid hr
    have hr2 := rnd_rng (c := -c) (s := s) (by omega) hs.1
    rw [hr] at hr2
    clear hr
    go_wp2
    go_ret
    exact ⟨by rw [Hz.out, if_pos hc, Hr.out]; rfl, E1⟩
  · have hr : rnd c s = (c * 2 + s) / (2 * s) := by unfold rnd; congr 1; omega
    have Hr := Lib.hid hr
    have hr2 := rnd_rng (c := c) (s := s) (by omega) hs.1
    rw [hr] at hr2
    clear hr
    go_wp2
    go_ret
    exact ⟨by rw [Hz.out, if_neg (by omega), Hr.out]; rfl, E1⟩
theorem spec_Quantize_in (c : Int) (q : Nat) (w : World) (h1 : -4080 ≤ c) (h2 : c ≤ 4080) (hq : q < 16) :
    Calls Tryd.prog 77 #[.int .i64 c, .int .i64 q] w fun e w' => e = .returned (.int .i64 (qz c q)) ∧ Ext w w' := by
  go_enter Tryd.func77, Tryd.ntmps77
  go_wp2_with fail
  refine (l1In_yes _ _ _ _ h1 h2).mono ?_
  rintro e w1 ⟨rfl, rfl⟩
  go_wp2_with fail
  refine (l1In_yes _ _ _ _ (by omega) (by omega)).mono ?_
  rintro e w1 ⟨rfl, rfl⟩
  go_wp2_with fail
  refine (l4Quant_in c q _ h1 h2 hq).mono ?_
  rintro e w1 ⟨rfl, E1⟩
  go_wp2
  go_ret
  exact ⟨rfl, E1⟩
theorem spec_Dequantize_in (l : Int) (q : Nat) (w : World) (h1 : -4080 ≤ l) (h2 : l ≤ 4080) (hq : q < 16) :
    Calls Tryd.prog 78 #[.int .i64 l, .int .i64 q] w fun e w' => e = .returned (.int .i64 (dq l q)) ∧ Ext w w' := by
  have hs := stp_rng hq
  go_enter Tryd.func78, Tryd.ntmps78
  go_wp2_with fail
  refine (l1In_yes _ _ _ _ h1 h2).mono ?_
  rintro e w1 ⟨rfl, rfl⟩
  go_wp2_with fail
  refine (l1In_yes _ _ _ _ (by omega) (by omega)).mono ?_
  rintro e w1 ⟨rfl, rfl⟩
  go_wp2_with fail
  refine (spec_QuantStep_in q _ hq).mono ?_
  rintro e w1 ⟨rfl, E1⟩
  have hm := mul_bnd h1 h2 hs.1 hs.2
  have hz : dq l q = clipI (l * stp q) (-4080) 4080 := rfl
  have Hz := Lib.hid hz
  clear hz
  generalize stp q = s at *
  go_wp2_with fail
  refine (l1Clip_any _ _ _ _).mono ?_
  rintro e w2 ⟨rfl, rfl⟩
  go_wp2
  go_ret
  exact ⟨by rw [Hz.out]; rfl, E1⟩
/-- The program's table of steps lies in its variable. -/
def TabQ (w : World) : Prop := ∀ j, j < 16 → w.cell? ⟨0, j, none⟩ = some (.int .i64 (stp j))
theorem TabQ.ext {w w' : World} (h : TabQ w) (e : Ext w w') : TabQ w' := fun j hj => cell_ext e (h j hj)
theorem qualityValid_in (q : Int) (w : World) (h1 : 0 ≤ q) (h2 : q ≤ 15) :
    Calls Tryd.prog 68 #[.int .i64 q] w fun e w' => e = .returned (.bool true) ∧ w = w' := by
  go_enter Tryd.func68, Tryd.ntmps68
  go_wp2
  go_ret
  exact ⟨by first | rfl | (simp; done) | (simp; omega), rfl⟩
theorem impl_abs_any (c : Int) (w : World) (h1 : -1099511627776 ≤ c) (h2 : c ≤ 1099511627776) :
    Calls Tryd.prog 108 #[.int .i64 c] w fun e w' => e = .returned (.int .i64 (if c < 0 then -c else c)) ∧ w = w' := by
  go_enter Tryd.func108, Tryd.ntmps108
  by_cases hc : c < 0
  · rw [if_pos hc]
    go_wp2
    go_ret
    first | exact ⟨rfl, rfl⟩ | exact ⟨by simp; omega, rfl⟩
  · rw [if_neg hc]
    go_wp2
    go_ret
    first | exact ⟨rfl, rfl⟩ | exact ⟨by simp; omega, rfl⟩
theorem rounded_any (c s : Int) (w : World) (h1 : 0 ≤ c) (h2 : c ≤ 1000000) (h3 : 1 ≤ s) (h4 : s ≤ 1000000) :
    Calls Tryd.prog 126 #[.int .i64 c, .int .i64 s] w fun e w' => e = .returned (.int .i64 (rnd c s)) ∧ w = w' := by
  have hr : rnd c s = (2 * c + s) / (2 * s) := rfl
  have Hr := Lib.hid hr
  have hr2 := rnd_rng h1 h3
  rw [hr] at hr2
  clear hr
  go_enter Tryd.func126, Tryd.ntmps126
  go_wp2
  go_ret
  exact ⟨by rw [Hr.out]; rfl, rfl⟩
theorem impl_Quantize_in (c : Int) (q : Nat) (w : World) (hT : TabQ w) (h1 : -4080 ≤ c) (h2 : c ≤ 4080) (hq : q < 16) :
    Calls Tryd.prog 113 #[.int .i64 c, .int .i64 q] w fun e w' => e = .returned (.int .i64 (qz c q)) ∧ ∃ n, w' = w.drewN n := by
  have hs := stp_rng hq
  have ht := hT q hq
  have hz : qz c q = if c < 0 then -rnd (-c) (stp q) else rnd c (stp q) := rfl
  have Hz := Lib.hid hz
  clear hz
  have HT := Lib.hid ht
  generalize stp q = s at *
  go_enter Tryd.func113, Tryd.ntmps113
  go_wp2_with fail
  refine (qualityValid_in _ _ (by omega) (by omega)).mono ?_
  rintro e w1 ⟨rfl, rfl⟩
  obtain ⟨ac, hac⟩ : ∃ ac, ac = (if c < 0 then -c else c) := ⟨_, rfl⟩
  have hac1 : 0 ≤ ac ∧ ac ≤ 4080 := by rw [hac]; split <;> omega
  have HA := Lib.hid hac
  clear hac ht
  have hr1 := rnd_rng (c := ac) (s := s) hac1.1 hs.1
  have Hr1 := Lib.hid hr1
  clear hr1
  go_wp2_with fail
  refine wp_region_inv2 (by kernel_rfl) [(5, 6), (17, 0), (18, 1), (19, 2), (20, 3), (21, 4), (22, 5)] [[], [0], [], [2], [2, 3], [0, 1, 2, 3, 4], [0, 1, 2, 3, 4, 5]] (fun i own ys wx => match i with | 0 => own = .int .i64 c | 1 => own = .int .i64 ac | 2 => own = .int .i64 q | 3 => own = .pointer (some ⟨0, q, none⟩) | 4 => own = .int .i64 s | 5 => own = .int .i64 (rnd ac s) | 6 => own = .int .i64 (rnd ac s) | _ => True) (fun kx wx => ∃ n, wx = w.drewN n) (by kernel_rfl) (by kernel_rfl) (by kernel_rfl) ?g0_r1 ?gop_r1 ?gend_r1
  case g0_r1 => exact ⟨1, rfl⟩
  case gop_r1 =>
    refine ⟨?_, ?_, ?_, ?_, ?_, ?_, ?_, trivial⟩
    · intro kx xs wx hk hG hD hI Qo Kx hK hQo
      clear hD
      clear hI
      simp only [patchS, Nat.reduceAdd, Nat.reduceEqDiff, ↓reduceIte] at hQo ⊢
      go_wp2
      exact hK.out _ _ ⟨rfl, hG, fun _ _ _ _ _ _ h => h⟩
    · intro kx xs wx hk hG hD hI Qo Kx hK hQo
      have d0 : (xs 0) = .int .i64 c := hD 0 rfl
      clear hD
      clear hI
      simp only [patchS, Nat.reduceAdd, Nat.reduceEqDiff, ↓reduceIte] at hQo ⊢
      generalize xs 0 = y0 at *
      subst d0
      go_wp2_with fail
      refine (impl_abs_any c _ (by omega) (by omega)).mono ?_
      rintro e w2 ⟨rfl, rfl⟩
      rw [← HA.out]
      go_wp2
      exact hK.out _ _ ⟨rfl, hG, fun _ _ _ _ _ _ h => h⟩
    · intro kx xs wx hk hG hD hI Qo Kx hK hQo
      clear hD
      clear hI
      simp only [patchS, Nat.reduceAdd, Nat.reduceEqDiff, ↓reduceIte] at hQo ⊢
      go_wp2
      exact hK.out _ _ ⟨rfl, hG, fun _ _ _ _ _ _ h => h⟩
    · intro kx xs wx hk hG hD hI Qo Kx hK hQo
      have d2 : (xs 2) = .int .i64 q := hD 2 rfl
      clear hD
      clear hI
      simp only [patchS, Nat.reduceAdd, Nat.reduceEqDiff, ↓reduceIte] at hQo ⊢
      generalize xs 2 = y2 at *
      subst d2
      go_wp2
      exact hK.out _ _ ⟨rfl, hG, fun _ _ _ _ _ _ h => h⟩
    · intro kx xs wx hk hG hD hI Qo Kx hK hQo
      have d3 : (xs 3) = .pointer (some ⟨0, q, none⟩) := hD 3 rfl
      clear hD
      clear hI
      simp only [patchS, Nat.reduceAdd, Nat.reduceEqDiff, ↓reduceIte] at hQo ⊢
      generalize xs 3 = y3 at *
      subst d3
      obtain ⟨nn, rfl⟩ := hG
      have ht := HT.out
      have hG : ∃ n, w.drewN nn = w.drewN n := ⟨nn, rfl⟩
      go_wp2
      exact hK.out _ _ ⟨rfl, hG, fun _ _ _ _ _ _ h => h⟩
    · intro kx xs wx hk hG hD hI Qo Kx hK hQo
      have d1 : (xs 1) = .int .i64 ac := hD 1 rfl
      have d4 : (xs 4) = .int .i64 s := hD 4 rfl
      clear hD
      clear hI
      simp only [patchS, Nat.reduceAdd, Nat.reduceEqDiff, ↓reduceIte] at hQo ⊢
      generalize xs 1 = y1 at *
      generalize xs 4 = y4 at *
      subst d1
      subst d4
      go_wp2_with fail
      refine (rounded_any ac s _ (by omega) (by omega) (by omega) (by omega)).mono ?_
      rintro e w2 ⟨rfl, rfl⟩
      go_wp2
      exact hK.out _ _ ⟨rfl, hG, fun _ _ _ _ _ _ h => h⟩
    · intro kx xs wx hk hG hD hI Qo Kx hK hQo
      have d5 : (xs 5) = .int .i64 (rnd ac s) := hD 5 rfl
      clear hD
      clear hI
      simp only [patchS, Nat.reduceAdd, Nat.reduceEqDiff, ↓reduceIte] at hQo ⊢
      generalize xs 5 = y5 at *
      subst d5
      go_wp2
      exact hK.out _ _ ⟨rfl, hG, fun _ _ _ _ _ _ h => h⟩
  intro xs wx hV hG
  have d0 : (xs 0) = .int .i64 c := hV 0 (by decide)
  have d1 : (xs 1) = .int .i64 ac := hV 1 (by decide)
  have d2 : (xs 2) = .int .i64 q := hV 2 (by decide)
  have d3 : (xs 3) = .pointer (some ⟨0, q, none⟩) := hV 3 (by decide)
  have d4 : (xs 4) = .int .i64 s := hV 4 (by decide)
  have d5 : (xs 5) = .int .i64 (rnd ac s) := hV 5 (by decide)
  have d6 : (xs 6) = .int .i64 (rnd ac s) := hV 6 (by decide)
  clear hV
  simp only [patchS, Nat.reduceAdd, Nat.reduceEqDiff, ↓reduceIte]
  generalize xs 0 = y0 at *
  generalize xs 1 = y1 at *
  generalize xs 2 = y2 at *
  generalize xs 3 = y3 at *
  generalize xs 4 = y4 at *
  generalize xs 5 = y5 at *
  generalize xs 6 = y6 at *
  replace hG : ∃ n, wx = w.drewN n := hG
  clear d0 d1 d2 d3 d4 d5
  subst d6
  obtain ⟨nn, rfl⟩ := hG
  have hr1 := Hr1.out
  by_cases hc : c < 0
  · rw [if_pos hc] at HA
    have ha2 := HA.out
    have hz2 : qz c q = -rnd ac s := by rw [Hz.out, if_pos hc, ← ha2]
    have HZ2 := Lib.hid hz2
    clear hz2 Hz Hr1 HA ha2
    generalize rnd ac s = R at *
    go_wp2
    go_ret
    exact ⟨by rw [HZ2.out]; rfl, nn, rfl⟩
  · rw [if_neg hc] at HA
    have ha2 := HA.out
    go_wp2
    go_ret
    exact ⟨by rw [Hz.out, if_neg (by omega), ← ha2]; rfl, nn, rfl⟩
theorem impl_Dequantize_in (l : Int) (q : Nat) (w : World) (hT : TabQ w) (h1 : -4080 ≤ l) (h2 : l ≤ 4080) (hq : q < 16) :
    Calls Tryd.prog 114 #[.int .i64 l, .int .i64 q] w fun e w' => e = .returned (.int .i64 (dq l q)) ∧ w = w' := by
  have hs := stp_rng hq
  have ht := hT q hq
  have hm := mul_bnd h1 h2 hs.1 hs.2
  have hz : dq l q = clipI (l * stp q) (-4080) 4080 := rfl
  have Hz := Lib.hid hz
  clear hz
  generalize stp q = s at *
  go_enter Tryd.func114, Tryd.ntmps114
  go_wp2_with fail
  refine (qualityValid_in _ _ (by omega) (by omega)).mono ?_
  rintro e w1 ⟨rfl, rfl⟩
  go_wp2_with fail
  refine (clamp_any _ _ _ _ (by omega)).mono ?_
  rintro e w1 ⟨rfl, rfl⟩
  go_wp2
  go_ret
  exact ⟨by rw [Hz.out]; rfl, rfl⟩
end Go.Proofs.YtlmoeabchiddnaaDoor
