/- Quantization: both sides, for arguments in range. | Pictures: samples, half samples, blocks, edges, predictions: plain. | append(dst, src...) onto a row of the call's own, whatever the source. | A sample of a picture, a half sample, the samples that predict a macroblock: both sides. | Half samples, the samples that predict a macroblock: both sides. | The 64 samples that predict a macroblock: both sides. | Ranges over functions: entering and leaving a function that holds one. -/
import Derived.Test.YtbnhaegidfbgbaaDoorQc1
import Derived.RegionTactic
import Derived.Deep.Cut
import Derived.RangeFuncNested
import Derived.RangeFuncBound
import Derived.RangeFuncCalls
import Derived.RangeFuncLeaves
import Derived.Shelf.Abstract
import Derived.Shelf.RegionOpen
import Derived.WalkKit
import Derived.OwnWalkIn
import Derived.TacticsInMore
import Derived.LoopNIn
import Derived.LoopIn
namespace Go.Proofs.YtbnhaegidfbgbaaDoor
open Go.RowKit
set_option maxHeartbeats 1000000
/-- The steps. -/
def stepL : List Int := [1, 2, 4, 8, 12, 16, 24, 32, 48, 64, 96, 128, 192, 256, 384, 512]
def stp (q : Nat) : Int := nth stepL q
theorem stp_rng {q : Nat} (h : q < 16) : 1 ≤ stp q ∧ stp q ≤ 512 := by
  have : ∀ q, q < 16 → 1 ≤ stp q ∧ stp q ≤ 512 := by decide
  exact this q h
/-- |c| divided by s, rounded. -/
def rnd (c s : Int) : Int := (2 * c + s) / (2 * s)
def qz (c : Int) (q : Nat) : Int := if c < 0 then -rnd (-c) (stp q) else rnd c (stp q)
def dq (l : Int) (q : Nat) : Int := clipI (l * stp q) (-4080) 4080
theorem rnd_rng {c s : Int} (h0 : 0 ≤ c) (hs : 1 ≤ s) : 0 ≤ rnd c s ∧ rnd c s ≤ c := by
  unfold rnd
  constructor
  · exact Int.ediv_nonneg (by omega) (by omega)
  · have h2 : 2 * c + s < (c + 1) * (2 * s) := by
      have h3 : 0 ≤ c * (2 * s - 2) := Int.mul_nonneg h0 (by omega)
      have h4 : (c + 1) * (2 * s) = c * (2 * s - 2) + 2 * c + 2 * s := by
        rw [Int.add_mul, Int.mul_sub]; omega
      omega
    have := Int.ediv_lt_of_lt_mul (by omega) h2
    omega
theorem dq_rng (l : Int) (q : Nat) : -4080 ≤ dq l q ∧ dq l q ≤ 4080 := clipI_lo (by omega)
theorem qz_rng {c : Int} {q : Nat} (h1 : -4080 ≤ c) (h2 : c ≤ 4080) (hq : q < 16) : -4080 ≤ qz c q ∧ qz c q ≤ 4080 := by
  have hs := stp_rng hq
  unfold qz
  split
  · have := rnd_rng (c := -c) (s := stp q) (by omega) hs.1; omega
  · have := rnd_rng (c := c) (s := stp q) (by omega) hs.1; omega
theorem cellOfBlk {w : World} {b : Nat} {arr : Array Value} {T : TypeId} {i : Nat} {v : Value} (h : w.heap[b]? = some (.cells arr T (0, 0))) (hi : arr[i]? = some v) : w.cell? ⟨b, i, none⟩ = some v := by
  simp [World.cell?, h, hi]
theorem mul_bnd {l s : Int} (h1 : -4080 ≤ l) (h2 : l ≤ 4080) (s1 : 1 ≤ s) (s2 : s ≤ 512) : -2088960 ≤ l * s ∧ l * s ≤ 2088960 := by
  have a1 : l * s ≤ 4080 * s := Int.mul_le_mul_of_nonneg_right h2 (by omega)
  have a2 : -4080 * s ≤ l * s := Int.mul_le_mul_of_nonneg_right h1 (by omega)
  omega
theorem spec_QuantStep_in (q : Nat) (w : World) (hq : q < 16) :
    Calls Tryd.prog 118 #[.int .i64 q] w fun e w' => e = .returned (.int .i64 (stp q)) ∧ Ext w w' := by
  have E1 := Ext.alloc w (.cells (stepL.map (Value.int .i64)).toArray 3)
  have hc : (w.alloc (.cells (stepL.map (Value.int .i64)).toArray 3)).cell? ⟨w.heap.size, q, none⟩ = some (.int .i64 (stp q)) := by
    refine cellOfBlk (blk_new w _) ?_
    have : ∀ q, q < 16 → (stepL.map (Value.int .i64)).toArray[q]? = some (.int .i64 (stp q)) := by
      intro q hq
      have hl : q < stepL.length := hq
      simp [stp, nth, hl]
    exact this q hq
  have e : (stepL.map (Value.int .i64)).toArray = #[.int .i64 1, .int .i64 2, .int .i64 4, .int .i64 8, .int .i64 12, .int .i64 16, .int .i64 24, .int .i64 32, .int .i64 48, .int .i64 64, .int .i64 96, .int .i64 128, .int .i64 192, .int .i64 256, .int .i64 384, .int .i64 512] := rfl
  rw [e] at hc E1
  go_enter Tryd.func118, Tryd.ntmps118
  go_wp2_with fail
  refine (l1In_yes _ _ _ _ (by omega) (by omega)).mono ?_
  rintro e w1 ⟨rfl, rfl⟩
  go_wp2
  go_ret
  exact ⟨rfl, E1⟩
theorem l4Quant_in (c : Int) (q : Nat) (w : World) (h1 : -4080 ≤ c) (h2 : c ≤ 4080) (hq : q < 16) :
    Calls Tryd.prog 131 #[.int .i64 c, .int .i64 q] w fun e w' => e = .returned (.int .i64 (qz c q)) ∧ Ext w w' := by
  have hs := stp_rng hq
  go_enter Tryd.func131, Tryd.ntmps131
  go_wp2_with fail
  refine (spec_QuantStep_in q _ hq).mono ?_
  rintro e w1 ⟨rfl, E1⟩
  have hz : qz c q = if c < 0 then -rnd (-c) (stp q) else rnd c (stp q) := rfl
  have Hz := Lib.hid hz
  clear hz
  generalize stp q = s at *
  by_cases hc : c < 0
  · have hr : rnd (-c) s = (-c * 2 + s) / (2 * s) := by unfold rnd; congr 1; omega
    have Hr := Lib.hid hr
    have hr2 := rnd_rng (c := -c) (s := s) (by omega) hs.1
    rw [hr] at hr2
    clear hr
    go_wp2
    go_ret
    exact ⟨by rw [Hz.out, if_pos hc, Hr.out]; rfl, E1⟩
  · have hr : rnd c s = (c * 2 + s) / (2 * s) := by unfold rnd; congr 1; omega
    have Hr := Lib.hid hr
    have hr2 := rnd_rng (c := c) (s := s) (by omega) hs.1
    rw [hr] at hr2
    clear hr
    go_wp2
    go_ret
    exact ⟨by rw [Hz.out, if_neg (by omega), Hr.out]; rfl, E1⟩
/-- The program's table of steps lies in its variable. -/
def TabQ (w : World) : Prop := ∀ j, j < 16 → w.cell? ⟨0, j, none⟩ = some (.int .i64 (stp j))
theorem TabQ.ext {w w' : World} (h : TabQ w) (e : Ext w w') : TabQ w' := fun j hj => cell_ext e (h j hj)
theorem qualityValid_in (q : Int) (w : World) (h1 : 0 ≤ q) (h2 : q ≤ 15) :
    Calls Tryd.prog 41 #[.int .i64 q] w fun e w' => e = .returned (.bool true) ∧ w = w' := by
  go_enter Tryd.func41, Tryd.ntmps41
  go_wp2
  go_ret
  exact ⟨by first | rfl | (simp; done) | (simp; omega), rfl⟩
theorem impl_abs_any (c : Int) (w : World) (h1 : -1099511627776 ≤ c) (h2 : c ≤ 1099511627776) :
    Calls Tryd.prog 127 #[.int .i64 c] w fun e w' => e = .returned (.int .i64 (if c < 0 then -c else c)) ∧ w = w' := by
  go_enter Tryd.func127, Tryd.ntmps127
  by_cases hc : c < 0
  · rw [if_pos hc]
    go_wp2
    go_ret
    first | exact ⟨rfl, rfl⟩ | exact ⟨by simp; omega, rfl⟩
  · rw [if_neg hc]
    go_wp2
    go_ret
    first | exact ⟨rfl, rfl⟩ | exact ⟨by simp; omega, rfl⟩
theorem rounded_any (c s : Int) (w : World) (h1 : 0 ≤ c) (h2 : c ≤ 1000000) (h3 : 1 ≤ s) (h4 : s ≤ 1000000) :
    Calls Tryd.prog 126 #[.int .i64 c, .int .i64 s] w fun e w' => e = .returned (.int .i64 (rnd c s)) ∧ w = w' := by
  have hr : rnd c s = (2 * c + s) / (2 * s) := rfl
  have Hr := Lib.hid hr
  have hr2 := rnd_rng h1 h3
  rw [hr] at hr2
  clear hr
  go_enter Tryd.func126, Tryd.ntmps126
  go_wp2
  go_ret
  exact ⟨by rw [Hr.out]; rfl, rfl⟩
theorem impl_Quantize_in (c : Int) (q : Nat) (w : World) (hT : TabQ w) (h1 : -4080 ≤ c) (h2 : c ≤ 4080) (hq : q < 16) :
    Calls Tryd.prog 90 #[.int .i64 c, .int .i64 q] w fun e w' => e = .returned (.int .i64 (qz c q)) ∧ ∃ n, w' = w.drewN n := by
  have hs := stp_rng hq
  have ht := hT q hq
  have hz : qz c q = if c < 0 then -rnd (-c) (stp q) else rnd c (stp q) := rfl
  have Hz := Lib.hid hz
  clear hz
  have HT := Lib.hid ht
  generalize stp q = s at *
  go_enter Tryd.func90, Tryd.ntmps90
  go_wp2_with fail
  refine (qualityValid_in _ _ (by omega) (by omega)).mono ?_
  rintro e w1 ⟨rfl, rfl⟩
  obtain ⟨ac, hac⟩ : ∃ ac, ac = (if c < 0 then -c else c) := ⟨_, rfl⟩
  have hac1 : 0 ≤ ac ∧ ac ≤ 4080 := by rw [hac]; split <;> omega
  have HA := Lib.hid hac
  clear hac ht
  have hr1 := rnd_rng (c := ac) (s := s) hac1.1 hs.1
  have Hr1 := Lib.hid hr1
  clear hr1
  go_wp2_with fail
  refine wp_region_inv2 (by kernel_rfl) [(5, 6), (17, 0), (18, 1), (19, 2), (20, 3), (21, 4), (22, 5)] [[], [0], [], [2], [2, 3], [0, 1, 2, 3, 4], [0, 1, 2, 3, 4, 5]] (fun i own ys wx => match i with | 0 => own = .int .i64 c | 1 => own = .int .i64 ac | 2 => own = .int .i64 q | 3 => own = .pointer (some ⟨0, q, none⟩) | 4 => own = .int .i64 s | 5 => own = .int .i64 (rnd ac s) | 6 => own = .int .i64 (rnd ac s) | _ => True) (fun kx wx => ∃ n, wx = w.drewN n) (by kernel_rfl) (by kernel_rfl) (by kernel_rfl) ?g0_r1 ?gop_r1 ?gend_r1
  case g0_r1 => exact ⟨1, rfl⟩
  case gop_r1 =>
    refine ⟨?_, ?_, ?_, ?_, ?_, ?_, ?_, trivial⟩
    · intro kx xs wx hk hG hD hI Qo Kx hK hQo
      clear hD
      clear hI
      simp only [patchS, Nat.reduceAdd, Nat.reduceEqDiff, ↓reduceIte] at hQo ⊢
      go_wp2
      exact hK.out _ _ ⟨rfl, hG, fun _ _ _ _ _ _ h => h⟩
    · intro kx xs wx hk hG hD hI Qo Kx hK hQo
      have d0 : (xs 0) = .int .i64 c := hD 0 rfl
      clear hD
      clear hI
      simp only [patchS, Nat.reduceAdd, Nat.reduceEqDiff, ↓reduceIte] at hQo ⊢
      generalize xs 0 = y0 at *
      subst d0
      go_wp2_with fail
      refine (impl_abs_any c _ (by omega) (by omega)).mono ?_
      rintro e w2 ⟨rfl, rfl⟩
      rw [← HA.out]
      go_wp2
      exact hK.out _ _ ⟨rfl, hG, fun _ _ _ _ _ _ h => h⟩
    · intro kx xs wx hk hG hD hI Qo Kx hK hQo
      clear hD
      clear hI
      simp only [patchS, Nat.reduceAdd, Nat.reduceEqDiff, ↓reduceIte] at hQo ⊢
      go_wp2
      exact hK.out _ _ ⟨rfl, hG, fun _ _ _ _ _ _ h => h⟩
    · intro kx xs wx hk hG hD hI Qo Kx hK hQo
      have d2 : (xs 2) = .int .i64 q := hD 2 rfl
      clear hD
      clear hI
      simp only [patchS, Nat.reduceAdd, Nat.reduceEqDiff, ↓reduceIte] at hQo ⊢
      generalize xs 2 = y2 at *
      subst d2
      go_wp2
      exact hK.out _ _ ⟨rfl, hG, fun _ _ _ _ _ _ h => h⟩
    · intro kx xs wx hk hG hD hI Qo Kx hK hQo
      have d3 : (xs 3) = .pointer (some ⟨0, q, none⟩) := hD 3 rfl
      clear hD
      clear hI
      simp only [patchS, Nat.reduceAdd, Nat.reduceEqDiff, ↓reduceIte] at hQo ⊢
      generalize xs 3 = y3 at *
      subst d3
      obtain ⟨nn, rfl⟩ := hG
      have ht := HT.out
      have hG : ∃ n, w.drewN nn = w.drewN n := ⟨nn, rfl⟩
      go_wp2
      exact hK.out _ _ ⟨rfl, hG, fun _ _ _ _ _ _ h => h⟩
    · intro kx xs wx hk hG hD hI Qo Kx hK hQo
      have d1 : (xs 1) = .int .i64 ac := hD 1 rfl
      have d4 : (xs 4) = .int .i64 s := hD 4 rfl
      clear hD
      clear hI
      simp only [patchS, Nat.reduceAdd, Nat.reduceEqDiff, ↓reduceIte] at hQo ⊢
      generalize xs 1 = y1 at *
      generalize xs 4 = y4 at *
      subst d1
      subst d4
      go_wp2_with fail
      refine (rounded_any ac s _ (by omega) (by omega) (by omega) (by omega)).mono ?_
      rintro e w2 ⟨rfl, rfl⟩
      go_wp2
      exact hK.out _ _ ⟨rfl, hG, fun _ _ _ _ _ _ h => h⟩
    · intro kx xs wx hk hG hD hI Qo Kx hK hQo
      have d5 : (xs 5) = .int .i64 (rnd ac s) := hD 5 rfl
      clear hD
      clear hI
      simp only [patchS, Nat.reduceAdd, Nat.reduceEqDiff, ↓reduceIte] at hQo ⊢
      generalize xs 5 = y5 at *
      subst d5
      go_wp2
      exact hK.out _ _ ⟨rfl, hG, fun _ _ _ _ _ _ h => h⟩
  intro xs wx hV hG
  have d0 : (xs 0) = .int .i64 c := hV 0 (by decide)
  have d1 : (xs 1) = .int .i64 ac := hV 1 (by decide)
  have d2 : (xs 2) = .int .i64 q := hV 2 (by decide)
  have d3 : (xs 3) = .pointer (some ⟨0, q, none⟩) := hV 3 (by decide)
  have d4 : (xs 4) = .int .i64 s := hV 4 (by decide)
  have d5 : (xs 5) = .int .i64 (rnd ac s) := hV 5 (by decide)
  have d6 : (xs 6) = .int .i64 (rnd ac s) := hV 6 (by decide)
  clear hV
  simp only [patchS, Nat.reduceAdd, Nat.reduceEqDiff, ↓reduceIte]
  generalize xs 0 = y0 at *
  generalize xs 1 = y1 at *
  generalize xs 2 = y2 at *
  generalize xs 3 = y3 at *
  generalize xs 4 = y4 at *
  generalize xs 5 = y5 at *
  generalize xs 6 = y6 at *
  replace hG : ∃ n, wx = w.drewN n := hG
  clear d0 d1 d2 d3 d4 d5
  subst d6
  obtain ⟨nn, rfl⟩ := hG
  have hr1 := Hr1.out
  by_cases hc : c < 0
  · rw [if_pos hc] at HA
    have ha2 := HA.out
    have hz2 : qz c q = -rnd ac s := by rw [Hz.out, if_pos hc, ← ha2]
    have HZ2 := Lib.hid hz2
    clear hz2 Hz Hr1 HA ha2
    generalize rnd ac s = R at *
    go_wp2
    go_ret
    exact ⟨by rw [HZ2.out]; rfl, nn, rfl⟩
  · rw [if_neg hc] at HA
    have ha2 := HA.out
    go_wp2
    go_ret
    exact ⟨by rw [Hz.out, if_neg (by omega), ← ha2]; rfl, nn, rfl⟩
theorem impl_Dequantize_in (l : Int) (q : Nat) (w : World) (hT : TabQ w) (h1 : -4080 ≤ l) (h2 : l ≤ 4080) (hq : q < 16) :
    Calls Tryd.prog 113 #[.int .i64 l, .int .i64 q] w fun e w' => e = .returned (.int .i64 (dq l q)) ∧ w = w' := by
  have hs := stp_rng hq
  have ht := hT q hq
  have hm := mul_bnd h1 h2 hs.1 hs.2
  have hz : dq l q = clipI (l * stp q) (-4080) 4080 := rfl
  have Hz := Lib.hid hz
  clear hz
  generalize stp q = s at *
  go_enter Tryd.func113, Tryd.ntmps113
  go_wp2_with fail
  refine (qualityValid_in _ _ (by omega) (by omega)).mono ?_
  rintro e w1 ⟨rfl, rfl⟩
  go_wp2_with fail
  refine (clamp_any _ _ _ _ (by omega)).mono ?_
  rintro e w1 ⟨rfl, rfl⟩
  go_wp2
  go_ret
  exact ⟨by rw [Hz.out]; rfl, rfl⟩
end Go.Proofs.YtbnhaegidfbgbaaDoor
namespace Go.Proofs.YtbnhaegidfbgbaaDoor
open Go.RowKit
set_option maxHeartbeats 1000000
/-- The sample at a position, or the nearest one. -/
def pat (p : Pic) (x y : Int) : Int := nth p.px (clipI y 0 (p.h - 1) * p.w + clipI x 0 (p.w - 1)).toNat
theorem pat_idx {p : Pic} (hv : p.valid) (x y : Int) : 0 ≤ clipI y 0 (p.h - 1) * p.w + clipI x 0 (p.w - 1) ∧ clipI y 0 (p.h - 1) * p.w + clipI x 0 (p.w - 1) < p.px.length ∧ 0 ≤ clipI y 0 (p.h - 1) * p.w ∧ clipI y 0 (p.h - 1) * p.w ≤ 1024 := by
  obtain ⟨⟨w1, w2, w3⟩, ⟨h1, h2, h3⟩, hl, -⟩ := hv
  have a1 := clipI_lo (n := y) (show (0 : Int) ≤ p.h - 1 by omega)
  have a2 := clipI_lo (n := x) (show (0 : Int) ≤ p.w - 1 by omega)
  rw [hl]
  generalize clipI y 0 (p.h - 1) = u at *
  generalize clipI x 0 (p.w - 1) = v at *
  have b1 : 0 ≤ u * p.w := Int.mul_nonneg (by omega) (by omega)
  have b2 : (u + 1) * p.w ≤ p.h * p.w := Int.mul_le_mul_of_nonneg_right (by omega) (by omega)
  have b3 : p.h * p.w ≤ 32 * 32 := Int.mul_le_mul h2 w2 (by omega) (by omega)
  rw [Int.add_mul, Int.one_mul] at b2
  rw [Int.mul_comm p.h] at b2 b3
  omega
theorem pat_rng {p : Pic} (hv : p.valid) (x y : Int) : 0 ≤ pat p x y ∧ pat p x y ≤ 255 := by
  have := pat_idx hv x y
  exact smp_nth hv.2.2.2 (by omega)
theorem pat_in {p : Pic} {x y : Nat} (hx : (x : Int) < p.w) (hy : (y : Int) < p.h) {W : Nat} (hW : p.w = W) : pat p x y = nth p.px (y * W + x) := by
  unfold pat
  rw [clipI_in (by omega) (by omega), clipI_in (by omega) (by omega), hW, ← Int.natCast_mul, ← Int.natCast_add, Int.toNat_natCast]
/-- The sample at a position in half samples. -/
def hlf (p : Pic) (x y : Int) : Int :=
  if y % 2 = 0 then if x % 2 = 0 then pat p (x / 2) (y / 2) else (pat p (x / 2) (y / 2) + pat p (x / 2 + 1) (y / 2) + 1) / 2
  else if x % 2 = 0 then (pat p (x / 2) (y / 2) + pat p (x / 2) (y / 2 + 1) + 1) / 2
  else (pat p (x / 2) (y / 2) + pat p (x / 2 + 1) (y / 2) + pat p (x / 2) (y / 2 + 1) + pat p (x / 2 + 1) (y / 2 + 1) + 2) / 4
theorem hlf_two (p : Pic) (x y : Int) : hlf p (2 * x) (2 * y) = pat p x y := by
  unfold hlf
  rw [if_pos (by omega), if_pos (by omega), show 2 * x / 2 = x by omega, show 2 * y / 2 = y by omega]
/-- The 64 samples that predict a macroblock. -/
def blkL (p : Pic) (x y vx vy : Int) : List Int := (List.range 64).map fun k => hlf p (2 * (x + (k % 8 : Nat)) + vx) (2 * (y + (k / 8 : Nat)) + vy)
theorem blkL_len (p : Pic) (x y vx vy : Int) : (blkL p x y vx vy).length = 64 := by simp [blkL]
theorem nth_blkL (p : Pic) (x y vx vy : Int) {k : Nat} (h : k < 64) : nth (blkL p x y vx vy) k = hlf p (2 * (x + (k % 8 : Nat)) + vx) (2 * (y + (k / 8 : Nat)) + vy) := by
  simp [nth, blkL, h]
/-- The block of 4 by 4 samples at a position. -/
def prt (p : Pic) (x y : Int) : List Int := (List.range 16).map fun k => pat p (x + (k % 4 : Nat)) (y + (k / 4 : Nat))
theorem prt_len (p : Pic) (x y : Int) : (prt p x y).length = 16 := by simp [prt]
theorem nth_prt (p : Pic) (x y : Int) {k : Nat} (h : k < 16) : nth (prt p x y) k = pat p (x + (k % 4 : Nat)) (y + (k / 4 : Nat)) := by simp [nth, prt, h]
theorem prt_smp {p : Pic} (hv : p.valid) (x y : Int) : smp (prt p x y) := by
  refine smp_of_nth fun i hi => ?_
  rw [prt_len] at hi
  rw [nth_prt _ _ _ hi]
  exact pat_rng hv _ _
/-- A block of a macroblock's samples. -/
def pof (L : List Int) (i j : Nat) : List Int := (List.range 16).map fun t => nth L ((j + t / 4) * 8 + i + t % 4)
theorem pof_len (L : List Int) (i j : Nat) : (pof L i j).length = 16 := by simp [pof]
theorem nth_pof (L : List Int) (i j : Nat) {k : Nat} (h : k < 16) : nth (pof L i j) k = nth L ((j + k / 4) * 8 + i + k % 4) := by simp [nth, pof, h]
theorem pof_blk (p : Pic) (x y : Int) {i j : Nat} (hi : i ≤ 4) (hj : j ≤ 4) : pof (blkL p x y 0 0) i j = prt p (x + i) (y + j) := by
  refine ext_nth (by rw [pof_len, prt_len]) fun t ht => ?_
  rw [pof_len] at ht
  have h1 : ((j + t / 4) * 8 + i + t % 4) % 8 = i + t % 4 := by omega
  have h2 : ((j + t / 4) * 8 + i + t % 4) / 8 = j + t / 4 := by omega
  rw [nth_pof _ _ _ ht, nth_prt _ _ _ ht, nth_blkL _ _ _ _ _ (by omega), h1, h2, Int.add_zero, Int.add_zero, hlf_two]
  congr 1 <;> omega
/-- The samples around a block. -/
structure Ed where
  ab : List Int
  lf : List Int
  co : Int
  up : Bool
  le : Bool
structure Ed.ok (e : Ed) : Prop where
  ab : e.ab.length = 4
  lf : e.lf.length = 4
  sab : smp e.ab
  slf : smp e.lf
  sco : 0 ≤ e.co ∧ e.co ≤ 255
def edg (p : Pic) (x y top : Int) : Ed :=
  ⟨(List.range 4).map fun k : Nat => if top < y then pat p (x + k) (y - 1) else 128, (List.range 4).map fun k : Nat => if 0 < x then pat p (x - 1) (y + k) else 128,
   if top < y ∧ 0 < x then pat p (x - 1) (y - 1) else 128, decide (top < y), decide (0 < x)⟩
theorem edg_ab (p : Pic) (x y top : Int) {k : Nat} (h : k < 4) : nth (edg p x y top).ab k = if top < y then pat p (x + k) (y - 1) else 128 := by simp [nth, edg, h]
theorem edg_lf (p : Pic) (x y top : Int) {k : Nat} (h : k < 4) : nth (edg p x y top).lf k = if 0 < x then pat p (x - 1) (y + k) else 128 := by simp [nth, edg, h]
theorem edg_ok {p : Pic} (hv : p.valid) (x y top : Int) : (edg p x y top).ok := by
  have l1 : (edg p x y top).ab.length = 4 := by simp [edg]
  have l2 : (edg p x y top).lf.length = 4 := by simp [edg]
  refine ⟨l1, l2, smp_of_nth fun k hk => ?_, smp_of_nth fun k hk => ?_, ?_⟩
  · rw [l1] at hk
    rw [edg_ab _ _ _ _ hk]
    split
    · exact pat_rng hv _ _
    · omega
  · rw [l2] at hk
    rw [edg_lf _ _ _ _ hk]
    split
    · exact pat_rng hv _ _
    · omega
  · show 0 ≤ (if top < y ∧ 0 < x then pat p (x - 1) (y - 1) else 128) ∧ _
    unfold edg
    simp only
    split
    · exact pat_rng hv _ _
    · omega
/-- The sum of the edge's available samples, and how many. -/
def mnT (e : Ed) : Nat → Int
  | 0 => 0
  | k + 1 => mnT e k + (if e.up then nth e.ab k else 0) + (if e.le then nth e.lf k else 0)
def mnN (e : Ed) (k : Nat) : Int := k * ((if e.up then 1 else 0) + (if e.le then 1 else 0))
def mean (e : Ed) : Int := if mnN e 4 = 0 then 128 else (2 * mnT e 4 + mnN e 4) / (2 * mnN e 4)
theorem mnT_rng {e : Ed} (h : e.ok) {k : Nat} (hk : k ≤ 4) : 0 ≤ mnT e k ∧ mnT e k ≤ 255 * mnN e k := by
  induction k with
  | zero => simp [mnT, mnN]
  | succ k ih =>
    have h1 := ih (by omega)
    have h2 := smp_nth h.sab (i := k) (by rw [h.ab]; omega)
    have h3 := smp_nth h.slf (i := k) (by rw [h.lf]; omega)
    have e1 : mnN e (k + 1) = mnN e k + ((if e.up then 1 else 0) + (if e.le then 1 else 0)) := by
      unfold mnN
      rw [Int.natCast_add, Int.add_mul]; omega
    rw [e1]
    simp only [mnT]
    split <;> split <;> omega
theorem mnN_cases (e : Ed) : mnN e 4 = 0 ∨ mnN e 4 = 4 ∨ mnN e 4 = 8 := by
  unfold mnN
  cases e.up <;> cases e.le <;> simp
theorem mean_rng {e : Ed} (h : e.ok) : 0 ≤ mean e ∧ mean e ≤ 255 := by
  have h1 := mnT_rng h (k := 4) (by omega)
  unfold mean
  rcases mnN_cases e with h2 | h2 | h2 <;> rw [h2] at h1 ⊢
  · rw [if_pos rfl]; omega
  · rw [if_neg (by omega)]; omega
  · rw [if_neg (by omega)]; omega
/-- The border from the lowest left sample over the corner to the last one above. -/
def bord (e : Ed) (k : Nat) : Int := if k < 4 then nth e.lf (3 - k) else if k = 4 then e.co else nth e.ab (k - 5)
theorem bord_rng {e : Ed} (h : e.ok) {k : Nat} (hk : k ≤ 8) : 0 ≤ bord e k ∧ bord e k ≤ 255 := by
  unfold bord
  split
  · exact smp_nth h.slf (by rw [h.lf]; omega)
  · split
    · exact h.sco
    · exact smp_nth h.sab (by rw [h.ab]; omega)
/-- The prediction of the sample in column x and row y. -/
def prd1 (mode : Nat) (e : Ed) (x y : Nat) : Int :=
  match mode with
  | 0 => mean e
  | 1 => nth e.ab x
  | 2 => nth e.lf y
  | 3 => (bord e (3 + x - y) + 2 * bord e (4 + x - y) + bord e (5 + x - y) + 2) / 4
  | _ => clipI (nth e.ab x + nth e.lf y - e.co) 0 255
def prd (mode : Nat) (e : Ed) : List Int := (List.range 16).map fun k => prd1 mode e (k % 4) (k / 4)
theorem prd_len (mode : Nat) (e : Ed) : (prd mode e).length = 16 := by simp [prd]
theorem nth_prd (mode : Nat) (e : Ed) {k : Nat} (h : k < 16) : nth (prd mode e) k = prd1 mode e (k % 4) (k / 4) := by simp [nth, prd, h]
theorem prd1_rng (mode : Nat) {e : Ed} (h : e.ok) {x y : Nat} (hx : x < 4) (hy : y < 4) : 0 ≤ prd1 mode e x y ∧ prd1 mode e x y ≤ 255 := by
  unfold prd1
  split
  · exact mean_rng h
  · exact smp_nth h.sab (by rw [h.ab]; omega)
  · exact smp_nth h.slf (by rw [h.lf]; omega)
  · have h1 := bord_rng h (k := 3 + x - y) (by omega)
    have h2 := bord_rng h (k := 4 + x - y) (by omega)
    have h3 := bord_rng h (k := 5 + x - y) (by omega)
    omega
  · exact clipI_lo (by omega)
theorem prd_smp (mode : Nat) {e : Ed} (h : e.ok) : smp (prd mode e) := by
  refine smp_of_nth fun i hi => ?_
  rw [prd_len] at hi
  rw [nth_prd _ _ hi]
  exact prd1_rng mode h (by omega) (by omega)
/-- The differences. -/
def dif (a b : List Int) : List Int := (List.range 16).map fun k => nth a k - nth b k
theorem dif_len (a b : List Int) : (dif a b).length = 16 := by simp [dif]
theorem nth_dif (a b : List Int) {k : Nat} (h : k < 16) : nth (dif a b) k = nth a k - nth b k := by simp [nth, dif, h]
theorem dif_rng {a b : List Int} (ha : smp a) (hb : smp b) (la : a.length = 16) (lb : b.length = 16) : inB 255 (dif a b) = true := by
  refine inB_yes fun j hj => ?_
  rw [dif_len] at hj
  rw [nth_dif _ _ hj]
  have := smp_nth ha (i := j) (by omega)
  have := smp_nth hb (i := j) (by omega)
  omega
/-- Levels of residuals; residuals of levels. -/
def cod (b : List Int) (q : Nat) : List Int := (had b).map fun c => qz c q
def dec (l : List Int) (q : Nat) : List Int := ihad (l.map fun x => dq x q)
theorem cod_len (b : List Int) (q : Nat) : (cod b q).length = 16 := by simp [cod, had_len]
theorem nth_cod (b : List Int) (q : Nat) {k : Nat} (h : k < 16) : nth (cod b q) k = qz (nth (had b) k) q := by
  have hl := had_len b
  have h1 : k < (had b).length := by omega
  rw [nth_eq _ _ h1, nth_eq _ _ (by rw [cod_len]; exact h)]
  simp [cod]
theorem ihad_len (b : List Int) : (ihad b).length = 16 := by simp [ihad, had_len]
theorem dec_len (l : List Int) (q : Nat) : (dec l q).length = 16 := ihad_len _
theorem had_255 {b : List Int} (hl : b.length = 16) (hb : inB 255 b = true) {k : Nat} (hk : k < 16) : -4080 ≤ nth (had b) k ∧ nth (had b) k ≤ 4080 := by
  have := had_rng (b := b) (B := 255) (fun t ht => inB_iff.1 hb t (by omega)) hk
  omega
theorem cod_rng {b : List Int} (hl : b.length = 16) (hb : inB 255 b = true) {q : Nat} (hq : q < 16) : inB 4080 (cod b q) = true := by
  refine inB_yes fun j hj => ?_
  rw [cod_len] at hj
  rw [nth_cod _ _ hj]
  have := had_255 hl hb hj
  exact qz_rng this.1 this.2 hq
/-- A block of a picture replaced, its first k samples. -/
def putS (px : List Int) (W x y : Nat) (pr rs : List Int) : Nat → List Int
  | 0 => px
  | k + 1 => (putS px W x y pr rs k).set ((y + k / 4) * W + x + k % 4) (clipI (nth pr k + nth rs k) 0 255)
theorem putS_len (px : List Int) (W x y : Nat) (pr rs : List Int) (k : Nat) : (putS px W x y pr rs k).length = px.length := by
  induction k with
  | zero => rfl
  | succ k ih => simp [putS, ih]
theorem smp_setP {zs : List Int} (h : smp zs) (i : Nat) {v : Int} (hv : 0 ≤ v ∧ v ≤ 255) : smp (zs.set i v) := by
  intro z hz
  rcases List.mem_or_eq_of_mem_set hz with h1 | rfl
  · exact h z h1
  · exact hv
theorem putS_smp {px : List Int} (h : smp px) (W x y : Nat) (pr rs : List Int) (k : Nat) : smp (putS px W x y pr rs k) := by
  induction k with
  | zero => exact h
  | succ k ih => exact smp_setP ih _ (clipI_lo (by omega))
/-- How block k of a macroblock is predicted. -/
def prK (ref : Pic) (W H : Int) (cur : List Int) (x y : Nat) (m : Mac) (top : Int) (k : Nat) : List Int :=
  if m.kind = 2 then prd (nth m.modes k).toNat (edg ⟨W, H, cur⟩ (x + k % 2 * 4 : Nat) (y + k / 2 * 4 : Nat) top) else pof (blkL ref x y m.x m.y) (k % 2 * 4) (k / 2 * 4)
/-- A macroblock of a picture replaced, its first k blocks. -/
def bldS (ref p : Pic) (x y : Nat) (m : Mac) (q : Nat) (top : Int) : Nat → List Int
  | 0 => p.px
  | k + 1 => putS (bldS ref p x y m q top k) p.w.toNat (x + k % 2 * 4) (y + k / 2 * 4) (prK ref p.w p.h (bldS ref p x y m q top k) x y m top k) (dec (sub m.lv (k * 16) 16) q) 16
end Go.Proofs.YtbnhaegidfbgbaaDoor
namespace Go.Proofs.YtbnhaegidfbgbaaDoor
open Go.RowKit
section
variable {P : Program} (w : World)
theorem run_app_nil (base : Nat) (t ty e : TypeId) (i : TypeInfo) (size : Nat) (ht : P.underlying t = some (.slice e)) (hi : P.info? e = some i)
    (v : Value) (n : Nat) (xs : List Value) (hown : w.ownsRow base e size v n xs) (c : Nat) : (Builtin.append_ #[t, t] ty #[v, .slice none 0 c]).run P w = .ok v w := by
  rcases hown.2 with ⟨rfl, rfl⟩ | ⟨g, cap, cur, rfl, _, _, hnc, _⟩
  · simp [Builtin.append_, run_underlying ht, sizeOf, typeInfo, hi, Builtin.lenOf, Builtin.firstCells]
  · simp [Builtin.append_, run_underlying ht, sizeOf, typeInfo, hi, Builtin.lenOf, Builtin.firstCells, hnc, storeCells]
theorem Sl.cellsOf {a : Addr} {m : Nat} {us : List Value} (h : Sl w (some a) m us) (hm : 0 < m) : ∀ j u, us[j]? = some u → w.cell? (a.add j) = some u := by
  intro j u hu
  have hj : j < us.length := (List.getElem?_eq_some_iff.1 hu).1
  obtain ⟨b, off, ha, hc⟩ := h.2 j (by rw [← h.1]; exact hj)
  simp only [Option.some.injEq] at ha
  subst ha
  rw [Addr.add_lit, hc]
  simp [List.getD, hu]
theorem wpList_apps {ops : Array Oper} {rest : List Oper} {o : Oper} {a : Act} {Q : Exit → Act → World → Prop} {base e : Nat} {v : Value} {n : Nat} {xs : List Value}
    (hown : w.ownsRow base e 1 v n xs) (hbase : base ≤ w.heap.size)
    (hg : o.guard = none) (s x : Operand) (t : TypeId) (ho : o.op = .call { callee := .builtin .append, args := #[s, x], argTypes := #[t, t] })
    (z : Value) (bytes : Nat) (h1 : P.underlying t = some (.slice e)) (h2 : (P.info? e).map (fun i => (i.zero, i.size, i.bytes)) = some (some z, 1, bytes)) (hz1 : z.cells.size = 1)
    (hs : a.eval s = v) (A : Option Addr) (m c : Nat) (us : List Value) (hx : a.eval x = .slice A m c) (src : Sl w A m us) (hu1 : ∀ u ∈ us, u.oneCell' = true)
    (hb : (n + m) * bytes ≤ 140737488355328) (hn : n + m < 2 ^ 62)
    (h : ∀ v' w', w'.ownsRow base e 1 v' (n + m) (xs ++ us) → w.grownBy w' v.ownBlock → wpList P ops Q rest (a.put o.dst v') w') : wpList P ops Q (o :: rest) a w := by
  obtain ⟨i0, hi, hz0, hz1', hz2⟩ := info_parts h2
  cases A with
  | none =>
    have hm : m = 0 := by
      refine Classical.byContradiction fun h0 => ?_
      obtain ⟨b, off, ha, -⟩ := src.2 0 (by omega)
      cases ha
    subst hm
    have hus : us = [] := List.eq_nil_of_length_eq_zero src.1
    subst hus
    refine wpList_plain hg fun _ hK => ?_
    have hrun := run_app_nil (P := P) w base t o.type e i0 1 h1 hi v n xs hown c
    unfold Oper.wp execOp
    simp only [ho, resolve, invoke, builtin, Sem.run_bind, Sem.run_pure, Result.andThen_ok, List.map_toArray, List.map_cons, List.map_nil, hs, hx, hrun]
    exact hK _ _ (h v w (by simpa using hown) (World.grownBy.refl w _))
  | some ad =>
    refine wpList_append_own _ hg s x t ho base e i0 z 1 bytes h1 hi hz0 hz1' hz2 hz1 (by decide) v n xs hs hown ad m c us hx (by rw [src.1]; omega) ?_ hu1 (by unfold maxLen; omega) hb hbase ?_
    · by_cases hm : 0 < m
      · exact src.cellsOf _ hm
      · have hus : us = [] := List.eq_nil_of_length_eq_zero (by rw [src.1]; omega)
        subst hus
        intro j u hj
        simp at hj
    · intro v' w' a1 a2 _
      exact h v' w' a1 a2
end
end Go.Proofs.YtbnhaegidfbgbaaDoor
namespace Go.Proofs.YtbnhaegidfbgbaaDoor
open Go.RowKit
set_option maxHeartbeats 1000000
/-- The value of a picture. -/
def picV (W H : Int) (a : Option Addr) (n c : Nat) : Value := .agg #[.int .i64 W, .int .i64 H, .slice a n c]
theorem ret_intH {k : IntKind} {a b : Int} (h : Hid (a = b)) : Ending.returned (.int k a) = .returned (.int k b) := by rw [h.out]
set_option maxRecDepth 100000 in
theorem at_any (p : Pic) (x y : Int) (a : Option Addr) (c n : Nat) (w : World) (hv : p.valid) (hn : n = p.px.length) (r : Sl w a n (p.px.map (Value.int .i64))) :
    Calls Tryd.prog 91 #[.agg #[.int .i64 p.w, .int .i64 p.h, .slice a n c], .int .i64 x, .int .i64 y] w fun e w' => e = .returned (.int .i64 (pat p x y)) ∧ Ext w w' := by
  have hi := pat_idx hv x y
  have hw := hv.1
  have hh := hv.2.1
  obtain ⟨w1, w2, -⟩ := hw
  obtain ⟨h1, h2, -⟩ := hh
  have Hp := Lib.hid (show pat p x y = nth p.px (clipI y 0 (p.h - 1) * p.w + clipI x 0 (p.w - 1)).toNat from rfl)
  have c1 := clipI_lo (n := y) (show (0 : Int) ≤ p.h - 1 by omega)
  have c2 := clipI_lo (n := x) (show (0 : Int) ≤ p.w - 1 by omega)
  obtain ⟨cy, hcy⟩ : ∃ cy, cy = clipI y 0 (p.h - 1) := ⟨_, rfl⟩
  obtain ⟨cx, hcx⟩ : ∃ cx, cx = clipI x 0 (p.w - 1) := ⟨_, rfl⟩
  rw [← hcy] at hi c1 Hp
  rw [← hcx] at hi c2 Hp
  have Hcy := Lib.hid hcy
  have Hcx := Lib.hid hcx
  clear hcy hcx
  have hk : (cy * p.w + cx).toNat < n := by omega
  obtain ⟨k, hk2⟩ : ∃ k : Nat, cy * p.w + cx = (k : Int) := ⟨(cy * p.w + cx).toNat, by omega⟩
  rw [hk2] at hi hk
  rw [hk2, Int.toNat_natCast] at Hp
  rw [Int.toNat_natCast] at hk
  have Hk := Lib.hid hk2
  clear hk2
  obtain ⟨b, off, rfl, hc⟩ := r.int hk
  have Hc := Lib.hid hc
  have p0 := blk_new w (.cells #[.int .i64 p.w, .int .i64 p.h, .slice (some ⟨b, off, none⟩) n c] 25)
  have E0 := Ext.alloc w (.cells #[.int .i64 p.w, .int .i64 p.h, .slice (some ⟨b, off, none⟩) n c] 25)
  have HN := Lib.hid hn
  obtain ⟨B, hB⟩ : ∃ B, B = w.heap.size := ⟨_, rfl⟩
  rw [← hB] at p0
  have HB := Lib.hid hB
  clear hn r hc hv
  go_enter Tryd.func91, Tryd.ntmps91
  go_wp2_with fail
  rw [← hB]
  clear hB
  generalize w.alloc (.cells #[.int .i64 p.w, .int .i64 p.h, .slice (some ⟨b, off, none⟩) n c] 25) = w0 at *
  obtain ⟨pw, ph, px⟩ := p
  simp only at *
  refine wp_region_inv2 (by kernel_rfl) [(6, 18), (7, 0), (8, 1), (9, 2), (10, 3), (11, 4), (12, 5), (13, 6), (14, 7), (15, 8), (16, 9), (17, 10), (18, 11), (19, 12), (20, 13), (21, 14), (22, 15), (23, 16), (24, 17)] [[], [0], [], [], [3], [3, 4], [2, 3, 4, 5], [], [7], [2, 3, 4, 5, 6, 7, 8], [], [], [11], [11, 12], [2, 3, 4, 5, 6, 10, 11, 12, 13], [2, 3, 4, 5, 6, 7, 8, 9, 10, 11, 12, 13, 14], [0, 1, 2, 3, 4, 5, 6, 7, 8, 9, 10, 11, 12, 13, 14, 15], [0, 1, 2, 3, 4, 5, 6, 7, 8, 9, 10, 11, 12, 13, 14, 15, 16], [0, 1, 2, 3, 4, 5, 6, 7, 8, 9, 10, 11, 12, 13, 14, 15, 16, 17]] (fun i own ys wx => match i with | 0 => own = .pointer (some ⟨B, 2, none⟩) | 1 => own = .slice (some ⟨b, off, none⟩) n c | 2 => own = .int .i64 y | 3 => own = .pointer (some ⟨B, 1, none⟩) | 4 => own = .int .i64 ph | 5 => own = .int .i64 (ph - 1) | 6 => own = .int .i64 cy | 7 => own = .pointer (some ⟨B, 0, none⟩) | 8 => own = .int .i64 pw | 9 => own = .int .i64 (cy * pw) | 10 => own = .int .i64 x | 11 => own = .pointer (some ⟨B, 0, none⟩) | 12 => own = .int .i64 pw | 13 => own = .int .i64 (pw - 1) | 14 => own = .int .i64 cx | 15 => own = .int .i64 (k : Nat) | 16 => own = .pointer (some ⟨b, off + k, none⟩) | 17 => own = .int .i64 (nth px k) | 18 => own = .int .i64 (nth px k) | _ => True) (fun kx wx => Ext w0 wx) (by kernel_rfl) (by kernel_rfl) (by kernel_rfl) ?g0_r1 ?gop_r1 ?gend_r1
  case g0_r1 => exact Ext.drewN _ 1
  case gop_r1 =>
    refine ⟨?_, ?_, ?_, ?_, ?_, ?_, ?_, ?_, ?_, ?_, ?_, ?_, ?_, ?_, ?_, ?_, ?_, ?_, ?_, trivial⟩
    · intro kx xs wx hk hG hD hI Qo Kx hK hQo
      clear hD
      clear hI
      simp only [patchS, Nat.reduceAdd, Nat.reduceEqDiff, ↓reduceIte] at hQo ⊢
      go_wp2
      exact hK.out _ _ ⟨rfl, hG, fun _ _ _ _ _ _ h => h⟩
    · intro kx xs wx hk hG hD hI Qo Kx hK hQo
      have d0 : (xs 0) = .pointer (some ⟨B, 2, none⟩) := hD 0 rfl
      clear hD
      clear hI
      simp only [patchS, Nat.reduceAdd, Nat.reduceEqDiff, ↓reduceIte] at hQo ⊢
      generalize xs 0 = y0 at *
      subst d0
      obtain ⟨-, k0, k1, k2, -⟩ := bx3 (hG.blk p0)
      go_wp2
      exact hK.out _ _ ⟨rfl, hG, fun _ _ _ _ _ _ h => h⟩
    · intro kx xs wx hk hG hD hI Qo Kx hK hQo
      clear hD
      clear hI
      simp only [patchS, Nat.reduceAdd, Nat.reduceEqDiff, ↓reduceIte] at hQo ⊢
      go_wp2
      exact hK.out _ _ ⟨rfl, hG, fun _ _ _ _ _ _ h => h⟩
    · intro kx xs wx hk hG hD hI Qo Kx hK hQo
      clear hD
      clear hI
      simp only [patchS, Nat.reduceAdd, Nat.reduceEqDiff, ↓reduceIte] at hQo ⊢
      go_wp2
      exact hK.out _ _ ⟨rfl, hG, fun _ _ _ _ _ _ h => h⟩
    · intro kx xs wx hk hG hD hI Qo Kx hK hQo
      have d3 : (xs 3) = .pointer (some ⟨B, 1, none⟩) := hD 3 rfl
      clear hD
      clear hI
      simp only [patchS, Nat.reduceAdd, Nat.reduceEqDiff, ↓reduceIte] at hQo ⊢
      generalize xs 3 = y3 at *
      subst d3
      obtain ⟨-, k0, k1, k2, -⟩ := bx3 (hG.blk p0)
      go_wp2
      exact hK.out _ _ ⟨rfl, hG, fun _ _ _ _ _ _ h => h⟩
    · intro kx xs wx hk hG hD hI Qo Kx hK hQo
      have d4 : (xs 4) = .int .i64 ph := hD 4 rfl
      clear hD
      clear hI
      simp only [patchS, Nat.reduceAdd, Nat.reduceEqDiff, ↓reduceIte] at hQo ⊢
      generalize xs 4 = y4 at *
      subst d4
      go_wp2
      exact hK.out _ _ ⟨rfl, hG, fun _ _ _ _ _ _ h => h⟩
    · intro kx xs wx hk hG hD hI Qo Kx hK hQo
      have d2 : (xs 2) = .int .i64 y := hD 2 rfl
      have d5 : (xs 5) = .int .i64 (ph - 1) := hD 5 rfl
      clear hD
      clear hI
      simp only [patchS, Nat.reduceAdd, Nat.reduceEqDiff, ↓reduceIte] at hQo ⊢
      generalize xs 2 = y2 at *
      generalize xs 5 = y5 at *
      subst d2
      subst d5
      go_wp2_with fail
      refine (clamp_any _ _ _ _ (by omega)).mono ?_
      rintro e w2 ⟨rfl, rfl⟩
      rw [← Hcy.out]
      go_wp2
      exact hK.out _ _ ⟨rfl, hG, fun _ _ _ _ _ _ h => h⟩
    · intro kx xs wx hk hG hD hI Qo Kx hK hQo
      clear hD
      clear hI
      simp only [patchS, Nat.reduceAdd, Nat.reduceEqDiff, ↓reduceIte] at hQo ⊢
      go_wp2
      exact hK.out _ _ ⟨rfl, hG, fun _ _ _ _ _ _ h => h⟩
    · intro kx xs wx hk hG hD hI Qo Kx hK hQo
      have d7 : (xs 7) = .pointer (some ⟨B, 0, none⟩) := hD 7 rfl
      clear hD
      clear hI
      simp only [patchS, Nat.reduceAdd, Nat.reduceEqDiff, ↓reduceIte] at hQo ⊢
      generalize xs 7 = y7 at *
      subst d7
      obtain ⟨-, k0, k1, k2, -⟩ := bx3 (hG.blk p0)
      go_wp2
      exact hK.out _ _ ⟨rfl, hG, fun _ _ _ _ _ _ h => h⟩
    · intro kx xs wx hk hG hD hI Qo Kx hK hQo
      have d6 : (xs 6) = .int .i64 cy := hD 6 rfl
      have d8 : (xs 8) = .int .i64 pw := hD 8 rfl
      clear hD
      clear hI
      simp only [patchS, Nat.reduceAdd, Nat.reduceEqDiff, ↓reduceIte] at hQo ⊢
      generalize xs 6 = y6 at *
      generalize xs 8 = y8 at *
      subst d6
      subst d8
      go_wp2
      exact hK.out _ _ ⟨rfl, hG, fun _ _ _ _ _ _ h => h⟩
    · intro kx xs wx hk hG hD hI Qo Kx hK hQo
      clear hD
      clear hI
      simp only [patchS, Nat.reduceAdd, Nat.reduceEqDiff, ↓reduceIte] at hQo ⊢
      go_wp2
      exact hK.out _ _ ⟨rfl, hG, fun _ _ _ _ _ _ h => h⟩
    · intro kx xs wx hk hG hD hI Qo Kx hK hQo
      clear hD
      clear hI
      simp only [patchS, Nat.reduceAdd, Nat.reduceEqDiff, ↓reduceIte] at hQo ⊢
      go_wp2
      exact hK.out _ _ ⟨rfl, hG, fun _ _ _ _ _ _ h => h⟩
    · intro kx xs wx hk hG hD hI Qo Kx hK hQo
      have d11 : (xs 11) = .pointer (some ⟨B, 0, none⟩) := hD 11 rfl
      clear hD
      clear hI
      simp only [patchS, Nat.reduceAdd, Nat.reduceEqDiff, ↓reduceIte] at hQo ⊢
      generalize xs 11 = y11 at *
      subst d11
      obtain ⟨-, k0, k1, k2, -⟩ := bx3 (hG.blk p0)
      go_wp2
      exact hK.out _ _ ⟨rfl, hG, fun _ _ _ _ _ _ h => h⟩
    · intro kx xs wx hk hG hD hI Qo Kx hK hQo
      have d12 : (xs 12) = .int .i64 pw := hD 12 rfl
      clear hD
      clear hI
      simp only [patchS, Nat.reduceAdd, Nat.reduceEqDiff, ↓reduceIte] at hQo ⊢
      generalize xs 12 = y12 at *
      subst d12
      go_wp2
      exact hK.out _ _ ⟨rfl, hG, fun _ _ _ _ _ _ h => h⟩
    · intro kx xs wx hk hG hD hI Qo Kx hK hQo
      have d10 : (xs 10) = .int .i64 x := hD 10 rfl
      have d13 : (xs 13) = .int .i64 (pw - 1) := hD 13 rfl
      clear hD
      clear hI
      simp only [patchS, Nat.reduceAdd, Nat.reduceEqDiff, ↓reduceIte] at hQo ⊢
      generalize xs 10 = y10 at *
      generalize xs 13 = y13 at *
      subst d10
      subst d13
      go_wp2_with fail
      refine (clamp_any _ _ _ _ (by omega)).mono ?_
      rintro e w2 ⟨rfl, rfl⟩
      rw [← Hcx.out]
      go_wp2
      exact hK.out _ _ ⟨rfl, hG, fun _ _ _ _ _ _ h => h⟩
    · intro kx xs wx hk hG hD hI Qo Kx hK hQo
      have d9 : (xs 9) = .int .i64 (cy * pw) := hD 9 rfl
      have d14 : (xs 14) = .int .i64 cx := hD 14 rfl
      clear hD
      clear hI
      simp only [patchS, Nat.reduceAdd, Nat.reduceEqDiff, ↓reduceIte] at hQo ⊢
      generalize xs 9 = y9 at *
      generalize xs 14 = y14 at *
      subst d9
      subst d14
      have hkb : 0 ≤ cy * pw + cx ∧ cy * pw + cx ≤ 2000 := by omega
      go_wp2
      exact hK.out _ _ ⟨by rw [← Hk.out], hG, fun _ _ _ _ _ _ h => h⟩
    · intro kx xs wx hk hG hD hI Qo Kx hK hQo
      have d1 : (xs 1) = .slice (some ⟨b, off, none⟩) n c := hD 1 rfl
      have d15 : (xs 15) = .int .i64 (k : Nat) := hD 15 rfl
      clear hD
      clear hI
      simp only [patchS, Nat.reduceAdd, Nat.reduceEqDiff, ↓reduceIte] at hQo ⊢
      generalize xs 1 = y1 at *
      generalize xs 15 = y15 at *
      subst d1
      subst d15
      go_wp2
      exact hK.out _ _ ⟨rfl, hG, fun _ _ _ _ _ _ h => h⟩
    · intro kx xs wx hk hG hD hI Qo Kx hK hQo
      have d16 : (xs 16) = .pointer (some ⟨b, off + k, none⟩) := hD 16 rfl
      clear hD
      clear hI
      simp only [patchS, Nat.reduceAdd, Nat.reduceEqDiff, ↓reduceIte] at hQo ⊢
      generalize xs 16 = y16 at *
      subst d16
      have hcc := cell_ext (E0.trans hG) Hc.out
      go_wp2
      exact hK.out _ _ ⟨rfl, hG, fun _ _ _ _ _ _ h => h⟩
    · intro kx xs wx hk hG hD hI Qo Kx hK hQo
      have d17 : (xs 17) = .int .i64 (nth px k) := hD 17 rfl
      clear hD
      clear hI
      simp only [patchS, Nat.reduceAdd, Nat.reduceEqDiff, ↓reduceIte] at hQo ⊢
      generalize xs 17 = y17 at *
      subst d17
      go_wp2
      exact hK.out _ _ ⟨rfl, hG, fun _ _ _ _ _ _ h => h⟩
  intro xs wx hV hG
  have d0 : (xs 0) = .pointer (some ⟨B, 2, none⟩) := hV 0 (by decide)
  have d1 : (xs 1) = .slice (some ⟨b, off, none⟩) n c := hV 1 (by decide)
  have d2 : (xs 2) = .int .i64 y := hV 2 (by decide)
  have d3 : (xs 3) = .pointer (some ⟨B, 1, none⟩) := hV 3 (by decide)
  have d4 : (xs 4) = .int .i64 ph := hV 4 (by decide)
  have d5 : (xs 5) = .int .i64 (ph - 1) := hV 5 (by decide)
  have d6 : (xs 6) = .int .i64 cy := hV 6 (by decide)
  have d7 : (xs 7) = .pointer (some ⟨B, 0, none⟩) := hV 7 (by decide)
  have d8 : (xs 8) = .int .i64 pw := hV 8 (by decide)
  have d9 : (xs 9) = .int .i64 (cy * pw) := hV 9 (by decide)
  have d10 : (xs 10) = .int .i64 x := hV 10 (by decide)
  have d11 : (xs 11) = .pointer (some ⟨B, 0, none⟩) := hV 11 (by decide)
  have d12 : (xs 12) = .int .i64 pw := hV 12 (by decide)
  have d13 : (xs 13) = .int .i64 (pw - 1) := hV 13 (by decide)
  have d14 : (xs 14) = .int .i64 cx := hV 14 (by decide)
  have d15 : (xs 15) = .int .i64 (k : Nat) := hV 15 (by decide)
  have d16 : (xs 16) = .pointer (some ⟨b, off + k, none⟩) := hV 16 (by decide)
  have d17 : (xs 17) = .int .i64 (nth px k) := hV 17 (by decide)
  have d18 : (xs 18) = .int .i64 (nth px k) := hV 18 (by decide)
  clear hV
  simp only [patchS, Nat.reduceAdd, Nat.reduceEqDiff, ↓reduceIte]
  generalize xs 0 = y0 at *
  generalize xs 1 = y1 at *
  generalize xs 2 = y2 at *
  generalize xs 3 = y3 at *
  generalize xs 4 = y4 at *
  generalize xs 5 = y5 at *
  generalize xs 6 = y6 at *
  generalize xs 7 = y7 at *
  generalize xs 8 = y8 at *
  generalize xs 9 = y9 at *
  generalize xs 10 = y10 at *
  generalize xs 11 = y11 at *
  generalize xs 12 = y12 at *
  generalize xs 13 = y13 at *
  generalize xs 14 = y14 at *
  generalize xs 15 = y15 at *
  generalize xs 16 = y16 at *
  generalize xs 17 = y17 at *
  generalize xs 18 = y18 at *
  replace hG : Ext w0 wx := hG
  clear d0 d1 d2 d3 d4 d5 d6 d7 d8 d9 d10 d11 d12 d13 d14 d15 d16 d17
  subst d18
  go_wp2
  go_ret
  exact ⟨(ret_intH Hp).symm, E0.trans hG⟩
set_option maxRecDepth 100000 in
theorem l1At_any (p : Pic) (x y : Int) (a : Option Addr) (c n : Nat) (w : World) (hv : p.valid) (hn : n = p.px.length) (r : Sl w a n (p.px.map (Value.int .i64))) :
    Calls Tryd.prog 124 #[.agg #[.int .i64 p.w, .int .i64 p.h, .slice a n c], .int .i64 x, .int .i64 y] w fun e w' => e = .returned (.int .i64 (pat p x y)) ∧ Ext w w' := by
  have hi := pat_idx hv x y
  have hw := hv.1
  have hh := hv.2.1
  obtain ⟨w1, w2, -⟩ := hw
  obtain ⟨h1, h2, -⟩ := hh
  have Hp := Lib.hid (show pat p x y = nth p.px (clipI y 0 (p.h - 1) * p.w + clipI x 0 (p.w - 1)).toNat from rfl)
  have c1 := clipI_lo (n := y) (show (0 : Int) ≤ p.h - 1 by omega)
  have c2 := clipI_lo (n := x) (show (0 : Int) ≤ p.w - 1 by omega)
  obtain ⟨cy, hcy⟩ : ∃ cy, cy = clipI y 0 (p.h - 1) := ⟨_, rfl⟩
  obtain ⟨cx, hcx⟩ : ∃ cx, cx = clipI x 0 (p.w - 1) := ⟨_, rfl⟩
  rw [← hcy] at hi c1 Hp
  rw [← hcx] at hi c2 Hp
  have Hcy := Lib.hid hcy
  have Hcx := Lib.hid hcx
  clear hcy hcx
  have hk : (cy * p.w + cx).toNat < n := by omega
  obtain ⟨k, hk2⟩ : ∃ k : Nat, cy * p.w + cx = (k : Int) := ⟨(cy * p.w + cx).toNat, by omega⟩
  rw [hk2] at hi hk
  rw [hk2, Int.toNat_natCast] at Hp
  rw [Int.toNat_natCast] at hk
  have Hk := Lib.hid hk2
  clear hk2
  obtain ⟨b, off, rfl, hc⟩ := r.int hk
  have Hc := Lib.hid hc
  have p0 := blk_new w (.cells #[.int .i64 p.w, .int .i64 p.h, .slice (some ⟨b, off, none⟩) n c] 25)
  have E0 := Ext.alloc w (.cells #[.int .i64 p.w, .int .i64 p.h, .slice (some ⟨b, off, none⟩) n c] 25)
  have HN := Lib.hid hn
  obtain ⟨B, hB⟩ : ∃ B, B = w.heap.size := ⟨_, rfl⟩
  rw [← hB] at p0
  have HB := Lib.hid hB
  clear hn r hc hv
  go_enter Tryd.func124, Tryd.ntmps124
  go_wp2_with fail
  rw [← hB]
  clear hB
  generalize w.alloc (.cells #[.int .i64 p.w, .int .i64 p.h, .slice (some ⟨b, off, none⟩) n c] 25) = w0 at *
  obtain ⟨pw, ph, px⟩ := p
  simp only at *
  refine wp_region_inv2 (by kernel_rfl) [(6, 18), (7, 0), (8, 1), (9, 2), (10, 3), (11, 4), (12, 5), (13, 6), (14, 7), (15, 8), (16, 9), (17, 10), (18, 11), (19, 12), (20, 13), (21, 14), (22, 15), (23, 16), (24, 17)] [[], [0], [], [], [3], [3, 4], [2, 3, 4, 5], [], [7], [2, 3, 4, 5, 6, 7, 8], [], [], [11], [11, 12], [2, 3, 4, 5, 6, 10, 11, 12, 13], [2, 3, 4, 5, 6, 7, 8, 9, 10, 11, 12, 13, 14], [0, 1, 2, 3, 4, 5, 6, 7, 8, 9, 10, 11, 12, 13, 14, 15], [0, 1, 2, 3, 4, 5, 6, 7, 8, 9, 10, 11, 12, 13, 14, 15, 16], [0, 1, 2, 3, 4, 5, 6, 7, 8, 9, 10, 11, 12, 13, 14, 15, 16, 17]] (fun i own ys wx => match i with | 0 => own = .pointer (some ⟨B, 2, none⟩) | 1 => own = .slice (some ⟨b, off, none⟩) n c | 2 => own = .int .i64 y | 3 => own = .pointer (some ⟨B, 1, none⟩) | 4 => own = .int .i64 ph | 5 => own = .int .i64 (ph - 1) | 6 => own = .int .i64 cy | 7 => own = .pointer (some ⟨B, 0, none⟩) | 8 => own = .int .i64 pw | 9 => own = .int .i64 (cy * pw) | 10 => own = .int .i64 x | 11 => own = .pointer (some ⟨B, 0, none⟩) | 12 => own = .int .i64 pw | 13 => own = .int .i64 (pw - 1) | 14 => own = .int .i64 cx | 15 => own = .int .i64 (k : Nat) | 16 => own = .pointer (some ⟨b, off + k, none⟩) | 17 => own = .int .i64 (nth px k) | 18 => own = .int .i64 (nth px k) | _ => True) (fun kx wx => Ext w0 wx) (by kernel_rfl) (by kernel_rfl) (by kernel_rfl) ?g0_r2 ?gop_r2 ?gend_r2
  case g0_r2 => exact Ext.drewN _ 1
  case gop_r2 =>
    refine ⟨?_, ?_, ?_, ?_, ?_, ?_, ?_, ?_, ?_, ?_, ?_, ?_, ?_, ?_, ?_, ?_, ?_, ?_, ?_, trivial⟩
    · intro kx xs wx hk hG hD hI Qo Kx hK hQo
      clear hD
      clear hI
      simp only [patchS, Nat.reduceAdd, Nat.reduceEqDiff, ↓reduceIte] at hQo ⊢
      go_wp2
      exact hK.out _ _ ⟨rfl, hG, fun _ _ _ _ _ _ h => h⟩
    · intro kx xs wx hk hG hD hI Qo Kx hK hQo
      have d0 : (xs 0) = .pointer (some ⟨B, 2, none⟩) := hD 0 rfl
      clear hD
      clear hI
      simp only [patchS, Nat.reduceAdd, Nat.reduceEqDiff, ↓reduceIte] at hQo ⊢
      generalize xs 0 = y0 at *
      subst d0
      obtain ⟨-, k0, k1, k2, -⟩ := bx3 (hG.blk p0)
      go_wp2
      exact hK.out _ _ ⟨rfl, hG, fun _ _ _ _ _ _ h => h⟩
    · intro kx xs wx hk hG hD hI Qo Kx hK hQo
      clear hD
      clear hI
      simp only [patchS, Nat.reduceAdd, Nat.reduceEqDiff, ↓reduceIte] at hQo ⊢
      go_wp2
      exact hK.out _ _ ⟨rfl, hG, fun _ _ _ _ _ _ h => h⟩
    · intro kx xs wx hk hG hD hI Qo Kx hK hQo
      clear hD
      clear hI
      simp only [patchS, Nat.reduceAdd, Nat.reduceEqDiff, ↓reduceIte] at hQo ⊢
      go_wp2
      exact hK.out _ _ ⟨rfl, hG, fun _ _ _ _ _ _ h => h⟩
    · intro kx xs wx hk hG hD hI Qo Kx hK hQo
      have d3 : (xs 3) = .pointer (some ⟨B, 1, none⟩) := hD 3 rfl
      clear hD
      clear hI
      simp only [patchS, Nat.reduceAdd, Nat.reduceEqDiff, ↓reduceIte] at hQo ⊢
      generalize xs 3 = y3 at *
      subst d3
      obtain ⟨-, k0, k1, k2, -⟩ := bx3 (hG.blk p0)
      go_wp2
      exact hK.out _ _ ⟨rfl, hG, fun _ _ _ _ _ _ h => h⟩
    · intro kx xs wx hk hG hD hI Qo Kx hK hQo
      have d4 : (xs 4) = .int .i64 ph := hD 4 rfl
      clear hD
      clear hI
      simp only [patchS, Nat.reduceAdd, Nat.reduceEqDiff, ↓reduceIte] at hQo ⊢
      generalize xs 4 = y4 at *
      subst d4
      go_wp2
      exact hK.out _ _ ⟨rfl, hG, fun _ _ _ _ _ _ h => h⟩
    · intro kx xs wx hk hG hD hI Qo Kx hK hQo
      have d2 : (xs 2) = .int .i64 y := hD 2 rfl
      have d5 : (xs 5) = .int .i64 (ph - 1) := hD 5 rfl
      clear hD
      clear hI
      simp only [patchS, Nat.reduceAdd, Nat.reduceEqDiff, ↓reduceIte] at hQo ⊢
      generalize xs 2 = y2 at *
      generalize xs 5 = y5 at *
      subst d2
      subst d5
      go_wp2_with fail
      refine (l1Clip_any _ _ _ _).mono ?_
      rintro e w2 ⟨rfl, rfl⟩
      rw [← Hcy.out]
      go_wp2
      exact hK.out _ _ ⟨rfl, hG, fun _ _ _ _ _ _ h => h⟩
    · intro kx xs wx hk hG hD hI Qo Kx hK hQo
      clear hD
      clear hI
      simp only [patchS, Nat.reduceAdd, Nat.reduceEqDiff, ↓reduceIte] at hQo ⊢
      go_wp2
      exact hK.out _ _ ⟨rfl, hG, fun _ _ _ _ _ _ h => h⟩
    · intro kx xs wx hk hG hD hI Qo Kx hK hQo
      have d7 : (xs 7) = .pointer (some ⟨B, 0, none⟩) := hD 7 rfl
      clear hD
      clear hI
      simp only [patchS, Nat.reduceAdd, Nat.reduceEqDiff, ↓reduceIte] at hQo ⊢
      generalize xs 7 = y7 at *
      subst d7
      obtain ⟨-, k0, k1, k2, -⟩ := bx3 (hG.blk p0)
      go_wp2
      exact hK.out _ _ ⟨rfl, hG, fun _ _ _ _ _ _ h => h⟩
    · intro kx xs wx hk hG hD hI Qo Kx hK hQo
      have d6 : (xs 6) = .int .i64 cy := hD 6 rfl
      have d8 : (xs 8) = .int .i64 pw := hD 8 rfl
      clear hD
      clear hI
      simp only [patchS, Nat.reduceAdd, Nat.reduceEqDiff, ↓reduceIte] at hQo ⊢
      generalize xs 6 = y6 at *
      generalize xs 8 = y8 at *
      subst d6
      subst d8
      go_wp2
      exact hK.out _ _ ⟨rfl, hG, fun _ _ _ _ _ _ h => h⟩
    · intro kx xs wx hk hG hD hI Qo Kx hK hQo
      clear hD
      clear hI
      simp only [patchS, Nat.reduceAdd, Nat.reduceEqDiff, ↓reduceIte] at hQo ⊢
      go_wp2
      exact hK.out _ _ ⟨rfl, hG, fun _ _ _ _ _ _ h => h⟩
    · intro kx xs wx hk hG hD hI Qo Kx hK hQo
      clear hD
      clear hI
      simp only [patchS, Nat.reduceAdd, Nat.reduceEqDiff, ↓reduceIte] at hQo ⊢
      go_wp2
      exact hK.out _ _ ⟨rfl, hG, fun _ _ _ _ _ _ h => h⟩
    · intro kx xs wx hk hG hD hI Qo Kx hK hQo
      have d11 : (xs 11) = .pointer (some ⟨B, 0, none⟩) := hD 11 rfl
      clear hD
      clear hI
      simp only [patchS, Nat.reduceAdd, Nat.reduceEqDiff, ↓reduceIte] at hQo ⊢
      generalize xs 11 = y11 at *
      subst d11
      obtain ⟨-, k0, k1, k2, -⟩ := bx3 (hG.blk p0)
      go_wp2
      exact hK.out _ _ ⟨rfl, hG, fun _ _ _ _ _ _ h => h⟩
    · intro kx xs wx hk hG hD hI Qo Kx hK hQo
      have d12 : (xs 12) = .int .i64 pw := hD 12 rfl
      clear hD
      clear hI
      simp only [patchS, Nat.reduceAdd, Nat.reduceEqDiff, ↓reduceIte] at hQo ⊢
      generalize xs 12 = y12 at *
      subst d12
      go_wp2
      exact hK.out _ _ ⟨rfl, hG, fun _ _ _ _ _ _ h => h⟩
    · intro kx xs wx hk hG hD hI Qo Kx hK hQo
      have d10 : (xs 10) = .int .i64 x := hD 10 rfl
      have d13 : (xs 13) = .int .i64 (pw - 1) := hD 13 rfl
      clear hD
      clear hI
      simp only [patchS, Nat.reduceAdd, Nat.reduceEqDiff, ↓reduceIte] at hQo ⊢
      generalize xs 10 = y10 at *
      generalize xs 13 = y13 at *
      subst d10
      subst d13
      go_wp2_with fail
      refine (l1Clip_any _ _ _ _).mono ?_
      rintro e w2 ⟨rfl, rfl⟩
      rw [← Hcx.out]
      go_wp2
      exact hK.out _ _ ⟨rfl, hG, fun _ _ _ _ _ _ h => h⟩
    · intro kx xs wx hk hG hD hI Qo Kx hK hQo
      have d9 : (xs 9) = .int .i64 (cy * pw) := hD 9 rfl
      have d14 : (xs 14) = .int .i64 cx := hD 14 rfl
      clear hD
      clear hI
      simp only [patchS, Nat.reduceAdd, Nat.reduceEqDiff, ↓reduceIte] at hQo ⊢
      generalize xs 9 = y9 at *
      generalize xs 14 = y14 at *
      subst d9
      subst d14
      have hkb : 0 ≤ cy * pw + cx ∧ cy * pw + cx ≤ 2000 := by omega
      go_wp2
      exact hK.out _ _ ⟨by rw [← Hk.out], hG, fun _ _ _ _ _ _ h => h⟩
    · intro kx xs wx hk hG hD hI Qo Kx hK hQo
      have d1 : (xs 1) = .slice (some ⟨b, off, none⟩) n c := hD 1 rfl
      have d15 : (xs 15) = .int .i64 (k : Nat) := hD 15 rfl
      clear hD
      clear hI
      simp only [patchS, Nat.reduceAdd, Nat.reduceEqDiff, ↓reduceIte] at hQo ⊢
      generalize xs 1 = y1 at *
      generalize xs 15 = y15 at *
      subst d1
      subst d15
      go_wp2
      exact hK.out _ _ ⟨rfl, hG, fun _ _ _ _ _ _ h => h⟩
    · intro kx xs wx hk hG hD hI Qo Kx hK hQo
      have d16 : (xs 16) = .pointer (some ⟨b, off + k, none⟩) := hD 16 rfl
      clear hD
      clear hI
      simp only [patchS, Nat.reduceAdd, Nat.reduceEqDiff, ↓reduceIte] at hQo ⊢
      generalize xs 16 = y16 at *
      subst d16
      have hcc := cell_ext (E0.trans hG) Hc.out
      go_wp2
      exact hK.out _ _ ⟨rfl, hG, fun _ _ _ _ _ _ h => h⟩
    · intro kx xs wx hk hG hD hI Qo Kx hK hQo
      have d17 : (xs 17) = .int .i64 (nth px k) := hD 17 rfl
      clear hD
      clear hI
      simp only [patchS, Nat.reduceAdd, Nat.reduceEqDiff, ↓reduceIte] at hQo ⊢
      generalize xs 17 = y17 at *
      subst d17
      go_wp2
      exact hK.out _ _ ⟨rfl, hG, fun _ _ _ _ _ _ h => h⟩
  intro xs wx hV hG
  have d0 : (xs 0) = .pointer (some ⟨B, 2, none⟩) := hV 0 (by decide)
  have d1 : (xs 1) = .slice (some ⟨b, off, none⟩) n c := hV 1 (by decide)
  have d2 : (xs 2) = .int .i64 y := hV 2 (by decide)
  have d3 : (xs 3) = .pointer (some ⟨B, 1, none⟩) := hV 3 (by decide)
  have d4 : (xs 4) = .int .i64 ph := hV 4 (by decide)
  have d5 : (xs 5) = .int .i64 (ph - 1) := hV 5 (by decide)
  have d6 : (xs 6) = .int .i64 cy := hV 6 (by decide)
  have d7 : (xs 7) = .pointer (some ⟨B, 0, none⟩) := hV 7 (by decide)
  have d8 : (xs 8) = .int .i64 pw := hV 8 (by decide)
  have d9 : (xs 9) = .int .i64 (cy * pw) := hV 9 (by decide)
  have d10 : (xs 10) = .int .i64 x := hV 10 (by decide)
  have d11 : (xs 11) = .pointer (some ⟨B, 0, none⟩) := hV 11 (by decide)
  have d12 : (xs 12) = .int .i64 pw := hV 12 (by decide)
  have d13 : (xs 13) = .int .i64 (pw - 1) := hV 13 (by decide)
  have d14 : (xs 14) = .int .i64 cx := hV 14 (by decide)
  have d15 : (xs 15) = .int .i64 (k : Nat) := hV 15 (by decide)
  have d16 : (xs 16) = .pointer (some ⟨b, off + k, none⟩) := hV 16 (by decide)
  have d17 : (xs 17) = .int .i64 (nth px k) := hV 17 (by decide)
  have d18 : (xs 18) = .int .i64 (nth px k) := hV 18 (by decide)
  clear hV
  simp only [patchS, Nat.reduceAdd, Nat.reduceEqDiff, ↓reduceIte]
  generalize xs 0 = y0 at *
  generalize xs 1 = y1 at *
  generalize xs 2 = y2 at *
  generalize xs 3 = y3 at *
  generalize xs 4 = y4 at *
  generalize xs 5 = y5 at *
  generalize xs 6 = y6 at *
  generalize xs 7 = y7 at *
  generalize xs 8 = y8 at *
  generalize xs 9 = y9 at *
  generalize xs 10 = y10 at *
  generalize xs 11 = y11 at *
  generalize xs 12 = y12 at *
  generalize xs 13 = y13 at *
  generalize xs 14 = y14 at *
  generalize xs 15 = y15 at *
  generalize xs 16 = y16 at *
  generalize xs 17 = y17 at *
  generalize xs 18 = y18 at *
  replace hG : Ext w0 wx := hG
  clear d0 d1 d2 d3 d4 d5 d6 d7 d8 d9 d10 d11 d12 d13 d14 d15 d16 d17
  subst d18
  go_wp2
  go_ret
  exact ⟨(ret_intH Hp).symm, E0.trans hG⟩
end Go.Proofs.YtbnhaegidfbgbaaDoor
namespace Go.Proofs.YtbnhaegidfbgbaaDoor
open Go.RowKit
set_option maxHeartbeats 1000000
theorem tm_even {x : Int} (h : x % 2 = 0) : (x.tmod 2 == 0) = true := by simp [Int.tmod_eq_zero_of_dvd (Int.dvd_of_emod_eq_zero h)]
theorem tm_odd {x : Int} (h : ¬ x % 2 = 0) : (x.tmod 2 == 0) = false := by
  simp only [beq_eq_false_iff_ne, ne_eq]
  intro h2
  exact h (Int.emod_eq_zero_of_dvd (Int.dvd_of_tmod_eq_zero h2))
theorem half_ee {p : Pic} {x y : Int} (hx : x % 2 = 0) (hy : y % 2 = 0) : hlf p x y = pat p (x / 2) (y / 2) := by unfold hlf; rw [if_pos hy, if_pos hx]
theorem half_oe {p : Pic} {x y : Int} (hx : ¬ x % 2 = 0) (hy : y % 2 = 0) : hlf p x y = (pat p (x / 2) (y / 2) + pat p (x / 2 + 1) (y / 2) + 1) / 2 := by unfold hlf; rw [if_pos hy, if_neg hx]
theorem half_eo {p : Pic} {x y : Int} (hx : x % 2 = 0) (hy : ¬ y % 2 = 0) : hlf p x y = (pat p (x / 2) (y / 2) + pat p (x / 2) (y / 2 + 1) + 1) / 2 := by unfold hlf; rw [if_neg hy, if_pos hx]
theorem half_oo {p : Pic} {x y : Int} (hx : ¬ x % 2 = 0) (hy : ¬ y % 2 = 0) : hlf p x y = (pat p (x / 2) (y / 2) + pat p (x / 2 + 1) (y / 2) + pat p (x / 2) (y / 2 + 1) + pat p (x / 2 + 1) (y / 2 + 1) + 2) / 4 := by unfold hlf; rw [if_neg hy, if_neg hx]
set_option maxRecDepth 100000 in
theorem l7Half_ee (p : Pic) (x y : Int) (a : Option Addr) (c n : Nat) (w : World) (hv : p.valid) (hn : n = p.px.length) (r : Sl w a n (p.px.map (Value.int .i64)))
    (x1 : -2000 ≤ x) (x2 : x ≤ 2000) (y1 : -2000 ≤ y) (y2 : y ≤ 2000) (hx : x % 2 = 0) (hy : y % 2 = 0) :
    Calls Tryd.prog 128 #[.agg #[.int .i64 p.w, .int .i64 p.h, .slice a n c], .int .i64 x, .int .i64 y] w fun e w' => e = .returned (.int .i64 (hlf p x y)) ∧ Ext w w' := by
  have hh := half_ee (p := p) hx hy
  have dx : (x.tmod 2 == 0) = true := tm_even hx
  have dy : (y.tmod 2 == 0) = true := tm_even hy
  have HH := Lib.hid hh
  clear hx hy hh
  have p0 := blk_new w (.cells #[.int .i64 p.w, .int .i64 p.h, .slice a n c] 25)
  have E0 := Ext.alloc w (.cells #[.int .i64 p.w, .int .i64 p.h, .slice a n c] 25)
  obtain ⟨B, hB⟩ : ∃ B, B = w.heap.size := ⟨_, rfl⟩
  rw [← hB] at p0
  have HB := Lib.hid hB
  have HN := Lib.hid hn
  have HV := Lib.hid hv
  clear hn hv
  obtain ⟨s0, hs0⟩ : ∃ s0, s0 = pat p (x / 2) (y / 2) := ⟨_, rfl⟩
  have b0 := pat_rng HV.out (x / 2) (y / 2)
  rw [← hs0] at b0
  have H0 := Lib.hid hs0
  clear hs0
  rw [← H0.out] at HH
  obtain ⟨-, k0, k1, k2, -⟩ := bx3 p0
  go_enter Tryd.func128, Tryd.ntmps128
  go_wp2_with fail
  refine (l7Floor_any _ 2 _ (by omega) (by omega) (by omega) (by omega)).mono ?_
  rintro e w2 ⟨rfl, rfl⟩
  go_wp2_with fail
  refine (l7Floor_any _ 2 _ (by omega) (by omega) (by omega) (by omega)).mono ?_
  rintro e w2 ⟨rfl, rfl⟩
  go_wp2_with fail
  refine (l1At_any p (x / 2) (y / 2) a c n _ HV.out HN.out (r.ext E0)).mono ?_
  rintro e w2 ⟨rfl, e2⟩
  rw [← H0.out]
  have p2 := e2.blk p0
  have E2 := E0.trans e2
  rw [← hB]
  clear hB p0 k0 k1 k2 E0 e2
  obtain ⟨-, k0, k1, k2, -⟩ := bx3 p2

  go_wp2
  go_ret
  exact ⟨(ret_intH HH).symm, E2⟩
set_option maxRecDepth 100000 in
theorem l7Half_oe (p : Pic) (x y : Int) (a : Option Addr) (c n : Nat) (w : World) (hv : p.valid) (hn : n = p.px.length) (r : Sl w a n (p.px.map (Value.int .i64)))
    (x1 : -2000 ≤ x) (x2 : x ≤ 2000) (y1 : -2000 ≤ y) (y2 : y ≤ 2000) (hx : ¬ x % 2 = 0) (hy : y % 2 = 0) :
    Calls Tryd.prog 128 #[.agg #[.int .i64 p.w, .int .i64 p.h, .slice a n c], .int .i64 x, .int .i64 y] w fun e w' => e = .returned (.int .i64 (hlf p x y)) ∧ Ext w w' := by
  have hh := half_oe (p := p) hx hy
  have dx : (x.tmod 2 == 0) = false := tm_odd hx
  have dy : (y.tmod 2 == 0) = true := tm_even hy
  have HH := Lib.hid hh
  clear hx hy hh
  have p0 := blk_new w (.cells #[.int .i64 p.w, .int .i64 p.h, .slice a n c] 25)
  have E0 := Ext.alloc w (.cells #[.int .i64 p.w, .int .i64 p.h, .slice a n c] 25)
  obtain ⟨B, hB⟩ : ∃ B, B = w.heap.size := ⟨_, rfl⟩
  rw [← hB] at p0
  have HB := Lib.hid hB
  have HN := Lib.hid hn
  have HV := Lib.hid hv
  clear hn hv
  obtain ⟨s0, hs0⟩ : ∃ s0, s0 = pat p (x / 2) (y / 2) := ⟨_, rfl⟩
  have b0 := pat_rng HV.out (x / 2) (y / 2)
  rw [← hs0] at b0
  have H0 := Lib.hid hs0
  clear hs0
  obtain ⟨s1, hs1⟩ : ∃ s1, s1 = pat p (x / 2 + 1) (y / 2) := ⟨_, rfl⟩
  have b1 := pat_rng HV.out (x / 2 + 1) (y / 2)
  rw [← hs1] at b1
  have H1 := Lib.hid hs1
  clear hs1
  rw [← H0.out, ← H1.out] at HH
  obtain ⟨-, k0, k1, k2, -⟩ := bx3 p0
  go_enter Tryd.func128, Tryd.ntmps128
  go_wp2_with fail
  refine (l7Floor_any _ 2 _ (by omega) (by omega) (by omega) (by omega)).mono ?_
  rintro e w2 ⟨rfl, rfl⟩
  go_wp2_with fail
  refine (l7Floor_any _ 2 _ (by omega) (by omega) (by omega) (by omega)).mono ?_
  rintro e w2 ⟨rfl, rfl⟩
  go_wp2_with fail
  refine (l1At_any p (x / 2) (y / 2) a c n _ HV.out HN.out (r.ext E0)).mono ?_
  rintro e w2 ⟨rfl, e2⟩
  rw [← H0.out]
  have p2 := e2.blk p0
  have E2 := E0.trans e2
  rw [← hB]
  clear hB p0 k0 k1 k2 E0 e2
  obtain ⟨-, k0, k1, k2, -⟩ := bx3 p2
  go_wp2_with fail
  refine (l1At_any p (x / 2 + 1) (y / 2) a c n _ HV.out HN.out (r.ext E2)).mono ?_
  rintro e w3 ⟨rfl, e3⟩
  rw [← H1.out]
  go_wp2
  go_ret
  exact ⟨(ret_intH HH).symm, E2.trans e3⟩
set_option maxRecDepth 100000 in
theorem l7Half_eo (p : Pic) (x y : Int) (a : Option Addr) (c n : Nat) (w : World) (hv : p.valid) (hn : n = p.px.length) (r : Sl w a n (p.px.map (Value.int .i64)))
    (x1 : -2000 ≤ x) (x2 : x ≤ 2000) (y1 : -2000 ≤ y) (y2 : y ≤ 2000) (hx : x % 2 = 0) (hy : ¬ y % 2 = 0) :
    Calls Tryd.prog 128 #[.agg #[.int .i64 p.w, .int .i64 p.h, .slice a n c], .int .i64 x, .int .i64 y] w fun e w' => e = .returned (.int .i64 (hlf p x y)) ∧ Ext w w' := by
  have hh := half_eo (p := p) hx hy
  have dx : (x.tmod 2 == 0) = true := tm_even hx
  have dy : (y.tmod 2 == 0) = false := tm_odd hy
  have HH := Lib.hid hh
  clear hx hy hh
  have p0 := blk_new w (.cells #[.int .i64 p.w, .int .i64 p.h, .slice a n c] 25)
  have E0 := Ext.alloc w (.cells #[.int .i64 p.w, .int .i64 p.h, .slice a n c] 25)
  obtain ⟨B, hB⟩ : ∃ B, B = w.heap.size := ⟨_, rfl⟩
  rw [← hB] at p0
  have HB := Lib.hid hB
  have HN := Lib.hid hn
  have HV := Lib.hid hv
  clear hn hv
  obtain ⟨s0, hs0⟩ : ∃ s0, s0 = pat p (x / 2) (y / 2) := ⟨_, rfl⟩
  have b0 := pat_rng HV.out (x / 2) (y / 2)
  rw [← hs0] at b0
  have H0 := Lib.hid hs0
  clear hs0
  obtain ⟨s1, hs1⟩ : ∃ s1, s1 = pat p (x / 2) (y / 2 + 1) := ⟨_, rfl⟩
  have b1 := pat_rng HV.out (x / 2) (y / 2 + 1)
  rw [← hs1] at b1
  have H1 := Lib.hid hs1
  clear hs1
  rw [← H0.out, ← H1.out] at HH
  obtain ⟨-, k0, k1, k2, -⟩ := bx3 p0
  go_enter Tryd.func128, Tryd.ntmps128
  go_wp2_with fail
  refine (l7Floor_any _ 2 _ (by omega) (by omega) (by omega) (by omega)).mono ?_
  rintro e w2 ⟨rfl, rfl⟩
  go_wp2_with fail
  refine (l7Floor_any _ 2 _ (by omega) (by omega) (by omega) (by omega)).mono ?_
  rintro e w2 ⟨rfl, rfl⟩
  go_wp2_with fail
  refine (l1At_any p (x / 2) (y / 2) a c n _ HV.out HN.out (r.ext E0)).mono ?_
  rintro e w2 ⟨rfl, e2⟩
  rw [← H0.out]
  have p2 := e2.blk p0
  have E2 := E0.trans e2
  rw [← hB]
  clear hB p0 k0 k1 k2 E0 e2
  obtain ⟨-, k0, k1, k2, -⟩ := bx3 p2
  go_wp2_with fail
  refine (l1At_any p (x / 2) (y / 2 + 1) a c n _ HV.out HN.out (r.ext E2)).mono ?_
  rintro e w3 ⟨rfl, e3⟩
  rw [← H1.out]
  go_wp2
  go_ret
  exact ⟨(ret_intH HH).symm, E2.trans e3⟩
set_option maxRecDepth 100000 in
theorem l7Half_oo (p : Pic) (x y : Int) (a : Option Addr) (c n : Nat) (w : World) (hv : p.valid) (hn : n = p.px.length) (r : Sl w a n (p.px.map (Value.int .i64)))
    (x1 : -2000 ≤ x) (x2 : x ≤ 2000) (y1 : -2000 ≤ y) (y2 : y ≤ 2000) (hx : ¬ x % 2 = 0) (hy : ¬ y % 2 = 0) :
    Calls Tryd.prog 128 #[.agg #[.int .i64 p.w, .int .i64 p.h, .slice a n c], .int .i64 x, .int .i64 y] w fun e w' => e = .returned (.int .i64 (hlf p x y)) ∧ Ext w w' := by
  have hh := half_oo (p := p) hx hy
  have dx : (x.tmod 2 == 0) = false := tm_odd hx
  have dy : (y.tmod 2 == 0) = false := tm_odd hy
  have HH := Lib.hid hh
  clear hx hy hh
  have p0 := blk_new w (.cells #[.int .i64 p.w, .int .i64 p.h, .slice a n c] 25)
  have E0 := Ext.alloc w (.cells #[.int .i64 p.w, .int .i64 p.h, .slice a n c] 25)
  obtain ⟨B, hB⟩ : ∃ B, B = w.heap.size := ⟨_, rfl⟩
  rw [← hB] at p0
  have HB := Lib.hid hB
  have HN := Lib.hid hn
  have HV := Lib.hid hv
  clear hn hv
  obtain ⟨s0, hs0⟩ : ∃ s0, s0 = pat p (x / 2) (y / 2) := ⟨_, rfl⟩
  have b0 := pat_rng HV.out (x / 2) (y / 2)
  rw [← hs0] at b0
  have H0 := Lib.hid hs0
  clear hs0
  obtain ⟨s1, hs1⟩ : ∃ s1, s1 = pat p (x / 2 + 1) (y / 2) := ⟨_, rfl⟩
  have b1 := pat_rng HV.out (x / 2 + 1) (y / 2)
  rw [← hs1] at b1
  have H1 := Lib.hid hs1
  clear hs1
  obtain ⟨s2, hs2⟩ : ∃ s2, s2 = pat p (x / 2) (y / 2 + 1) := ⟨_, rfl⟩
  have b2 := pat_rng HV.out (x / 2) (y / 2 + 1)
  rw [← hs2] at b2
  have H2 := Lib.hid hs2
  clear hs2
  obtain ⟨s3, hs3⟩ : ∃ s3, s3 = pat p (x / 2 + 1) (y / 2 + 1) := ⟨_, rfl⟩
  have b3 := pat_rng HV.out (x / 2 + 1) (y / 2 + 1)
  rw [← hs3] at b3
  have H3 := Lib.hid hs3
  clear hs3
  rw [← H0.out, ← H1.out, ← H2.out, ← H3.out] at HH
  obtain ⟨-, k0, k1, k2, -⟩ := bx3 p0
  go_enter Tryd.func128, Tryd.ntmps128
  go_wp2_with fail
  refine (l7Floor_any _ 2 _ (by omega) (by omega) (by omega) (by omega)).mono ?_
  rintro e w2 ⟨rfl, rfl⟩
  go_wp2_with fail
  refine (l7Floor_any _ 2 _ (by omega) (by omega) (by omega) (by omega)).mono ?_
  rintro e w2 ⟨rfl, rfl⟩
  go_wp2_with fail
  refine (l1At_any p (x / 2) (y / 2) a c n _ HV.out HN.out (r.ext E0)).mono ?_
  rintro e w2 ⟨rfl, e2⟩
  rw [← H0.out]
  have p2 := e2.blk p0
  have E2 := E0.trans e2
  rw [← hB]
  clear hB p0 k0 k1 k2 E0 e2
  obtain ⟨-, k0, k1, k2, -⟩ := bx3 p2
  clear k0 k1 k2
  go_wp2_with fail
  refine wp_region_inv2 (by kernel_rfl) [(6, 22), (54, 0), (55, 1), (56, 2), (57, 3), (58, 4), (59, 5), (60, 6), (61, 7), (62, 8), (63, 9), (64, 10), (65, 11), (66, 12), (67, 13), (68, 14), (69, 15), (70, 16), (71, 17), (72, 18), (73, 19), (74, 20), (75, 21)] [[], [], [], [2], [], [1, 2, 3, 4], [0, 1, 2, 3, 4, 5], [], [], [], [9], [1, 2, 3, 4, 5, 7, 8, 9, 10], [0, 1, 2, 3, 4, 5, 6, 7, 8, 9, 10, 11], [], [], [14], [], [16], [1, 2, 3, 4, 5, 7, 8, 9, 10, 11, 13, 14, 15, 16, 17], [0, 1, 2, 3, 4, 5, 6, 7, 8, 9, 10, 11, 12, 13, 14, 15, 16, 17, 18], [0, 1, 2, 3, 4, 5, 6, 7, 8, 9, 10, 11, 12, 13, 14, 15, 16, 17, 18, 19], [0, 1, 2, 3, 4, 5, 6, 7, 8, 9, 10, 11, 12, 13, 14, 15, 16, 17, 18, 19, 20], [0, 1, 2, 3, 4, 5, 6, 7, 8, 9, 10, 11, 12, 13, 14, 15, 16, 17, 18, 19, 20, 21]] (fun i own ys wx => match i with | 0 => own = .int .i64 s0 | 1 => own = .agg #[.int .i64 p.w, .int .i64 p.h, .slice a n c] | 2 => own = .int .i64 (x / 2) | 3 => own = .int .i64 (x / 2 + 1) | 4 => own = .int .i64 (y / 2) | 5 => own = .int .i64 s1 | 6 => own = .int .i64 (s0 + s1) | 7 => own = .agg #[.int .i64 p.w, .int .i64 p.h, .slice a n c] | 8 => own = .int .i64 (x / 2) | 9 => own = .int .i64 (y / 2) | 10 => own = .int .i64 (y / 2 + 1) | 11 => own = .int .i64 s2 | 12 => own = .int .i64 (s0 + s1 + s2) | 13 => own = .agg #[.int .i64 p.w, .int .i64 p.h, .slice a n c] | 14 => own = .int .i64 (x / 2) | 15 => own = .int .i64 (x / 2 + 1) | 16 => own = .int .i64 (y / 2) | 17 => own = .int .i64 (y / 2 + 1) | 18 => own = .int .i64 s3 | 19 => own = .int .i64 (s0 + s1 + s2 + s3) | 20 => own = .int .i64 (s0 + s1 + s2 + s3 + 2) | 21 => own = .int .i64 ((s0 + s1 + s2 + s3 + 2) / 4) | 22 => own = .int .i64 ((s0 + s1 + s2 + s3 + 2) / 4) | _ => True) (fun kx wx => Ext w2 wx) (by kernel_rfl) (by kernel_rfl) (by kernel_rfl) ?g0_r4 ?gop_r4 ?gend_r4
  case g0_r4 => exact Ext.drewN _ 1
  case gop_r4 =>
    refine ⟨?_, ?_, ?_, ?_, ?_, ?_, ?_, ?_, ?_, ?_, ?_, ?_, ?_, ?_, ?_, ?_, ?_, ?_, ?_, ?_, ?_, ?_, ?_, trivial⟩
    · intro kx xs wx hk hG hD hI Qo Kx hK hQo
      clear hD
      clear hI
      simp only [patchS, Nat.reduceAdd, Nat.reduceEqDiff, ↓reduceIte] at hQo ⊢
      go_wp2
      exact hK.out _ _ ⟨rfl, hG, fun _ _ _ _ _ _ h => h⟩
    · intro kx xs wx hk hG hD hI Qo Kx hK hQo
      clear hD
      clear hI
      simp only [patchS, Nat.reduceAdd, Nat.reduceEqDiff, ↓reduceIte] at hQo ⊢
      obtain ⟨-, k0, k1, k2, -⟩ := bx3 (hG.blk p2)
      go_wp2
      exact hK.out _ _ ⟨rfl, hG, fun _ _ _ _ _ _ h => h⟩
    · intro kx xs wx hk hG hD hI Qo Kx hK hQo
      clear hD
      clear hI
      simp only [patchS, Nat.reduceAdd, Nat.reduceEqDiff, ↓reduceIte] at hQo ⊢
      go_wp2
      exact hK.out _ _ ⟨rfl, hG, fun _ _ _ _ _ _ h => h⟩
    · intro kx xs wx hk hG hD hI Qo Kx hK hQo
      have d2 : (xs 2) = .int .i64 (x / 2) := hD 2 rfl
      clear hD
      clear hI
      simp only [patchS, Nat.reduceAdd, Nat.reduceEqDiff, ↓reduceIte] at hQo ⊢
      generalize xs 2 = y2 at *
      subst d2
      go_wp2
      exact hK.out _ _ ⟨rfl, hG, fun _ _ _ _ _ _ h => h⟩
    · intro kx xs wx hk hG hD hI Qo Kx hK hQo
      clear hD
      clear hI
      simp only [patchS, Nat.reduceAdd, Nat.reduceEqDiff, ↓reduceIte] at hQo ⊢
      go_wp2
      exact hK.out _ _ ⟨rfl, hG, fun _ _ _ _ _ _ h => h⟩
    · intro kx xs wx hk hG hD hI Qo Kx hK hQo
      have d1 : (xs 1) = .agg #[.int .i64 p.w, .int .i64 p.h, .slice a n c] := hD 1 rfl
      have d3 : (xs 3) = .int .i64 (x / 2 + 1) := hD 3 rfl
      have d4 : (xs 4) = .int .i64 (y / 2) := hD 4 rfl
      clear hD
      clear hI
      simp only [patchS, Nat.reduceAdd, Nat.reduceEqDiff, ↓reduceIte] at hQo ⊢
      generalize xs 1 = y1 at *
      generalize xs 3 = y3 at *
      generalize xs 4 = y4 at *
      subst d1
      subst d3
      subst d4
      go_wp2_with fail
      refine (l1At_any p (x / 2 + 1) (y / 2) a c n _ HV.out HN.out (r.ext (E2.trans hG))).mono ?_
      rintro e w3 ⟨rfl, e3⟩
      rw [← H1.out]
      go_wp2
      exact hK.out _ _ ⟨rfl, hG.trans e3, fun _ _ _ _ _ _ h => h⟩
    · intro kx xs wx hk hG hD hI Qo Kx hK hQo
      have d0 : (xs 0) = .int .i64 s0 := hD 0 rfl
      have d5 : (xs 5) = .int .i64 s1 := hD 5 rfl
      clear hD
      clear hI
      simp only [patchS, Nat.reduceAdd, Nat.reduceEqDiff, ↓reduceIte] at hQo ⊢
      generalize xs 0 = y0 at *
      generalize xs 5 = y5 at *
      subst d0
      subst d5
      go_wp2
      exact hK.out _ _ ⟨rfl, hG, fun _ _ _ _ _ _ h => h⟩
    · intro kx xs wx hk hG hD hI Qo Kx hK hQo
      clear hD
      clear hI
      simp only [patchS, Nat.reduceAdd, Nat.reduceEqDiff, ↓reduceIte] at hQo ⊢
      obtain ⟨-, k0, k1, k2, -⟩ := bx3 (hG.blk p2)
      go_wp2
      exact hK.out _ _ ⟨rfl, hG, fun _ _ _ _ _ _ h => h⟩
    · intro kx xs wx hk hG hD hI Qo Kx hK hQo
      clear hD
      clear hI
      simp only [patchS, Nat.reduceAdd, Nat.reduceEqDiff, ↓reduceIte] at hQo ⊢
      go_wp2
      exact hK.out _ _ ⟨rfl, hG, fun _ _ _ _ _ _ h => h⟩
    · intro kx xs wx hk hG hD hI Qo Kx hK hQo
      clear hD
      clear hI
      simp only [patchS, Nat.reduceAdd, Nat.reduceEqDiff, ↓reduceIte] at hQo ⊢
      go_wp2
      exact hK.out _ _ ⟨rfl, hG, fun _ _ _ _ _ _ h => h⟩
    · intro kx xs wx hk hG hD hI Qo Kx hK hQo
      have d9 : (xs 9) = .int .i64 (y / 2) := hD 9 rfl
      clear hD
      clear hI
      simp only [patchS, Nat.reduceAdd, Nat.reduceEqDiff, ↓reduceIte] at hQo ⊢
      generalize xs 9 = y9 at *
      subst d9
      go_wp2
      exact hK.out _ _ ⟨rfl, hG, fun _ _ _ _ _ _ h => h⟩
    · intro kx xs wx hk hG hD hI Qo Kx hK hQo
      have d7 : (xs 7) = .agg #[.int .i64 p.w, .int .i64 p.h, .slice a n c] := hD 7 rfl
      have d8 : (xs 8) = .int .i64 (x / 2) := hD 8 rfl
      have d10 : (xs 10) = .int .i64 (y / 2 + 1) := hD 10 rfl
      clear hD
      clear hI
      simp only [patchS, Nat.reduceAdd, Nat.reduceEqDiff, ↓reduceIte] at hQo ⊢
      generalize xs 7 = y7 at *
      generalize xs 8 = y8 at *
      generalize xs 10 = y10 at *
      subst d7
      subst d8
      subst d10
      go_wp2_with fail
      refine (l1At_any p (x / 2) (y / 2 + 1) a c n _ HV.out HN.out (r.ext (E2.trans hG))).mono ?_
      rintro e w3 ⟨rfl, e3⟩
      rw [← H2.out]
      go_wp2
      exact hK.out _ _ ⟨rfl, hG.trans e3, fun _ _ _ _ _ _ h => h⟩
    · intro kx xs wx hk hG hD hI Qo Kx hK hQo
      have d6 : (xs 6) = .int .i64 (s0 + s1) := hD 6 rfl
      have d11 : (xs 11) = .int .i64 s2 := hD 11 rfl
      clear hD
      clear hI
      simp only [patchS, Nat.reduceAdd, Nat.reduceEqDiff, ↓reduceIte] at hQo ⊢
      generalize xs 6 = y6 at *
      generalize xs 11 = y11 at *
      subst d6
      subst d11
      go_wp2
      exact hK.out _ _ ⟨rfl, hG, fun _ _ _ _ _ _ h => h⟩
    · intro kx xs wx hk hG hD hI Qo Kx hK hQo
      clear hD
      clear hI
      simp only [patchS, Nat.reduceAdd, Nat.reduceEqDiff, ↓reduceIte] at hQo ⊢
      obtain ⟨-, k0, k1, k2, -⟩ := bx3 (hG.blk p2)
      go_wp2
      exact hK.out _ _ ⟨rfl, hG, fun _ _ _ _ _ _ h => h⟩
    · intro kx xs wx hk hG hD hI Qo Kx hK hQo
      clear hD
      clear hI
      simp only [patchS, Nat.reduceAdd, Nat.reduceEqDiff, ↓reduceIte] at hQo ⊢
      go_wp2
      exact hK.out _ _ ⟨rfl, hG, fun _ _ _ _ _ _ h => h⟩
    · intro kx xs wx hk hG hD hI Qo Kx hK hQo
      have d14 : (xs 14) = .int .i64 (x / 2) := hD 14 rfl
      clear hD
      clear hI
      simp only [patchS, Nat.reduceAdd, Nat.reduceEqDiff, ↓reduceIte] at hQo ⊢
      generalize xs 14 = y14 at *
      subst d14
      go_wp2
      exact hK.out _ _ ⟨rfl, hG, fun _ _ _ _ _ _ h => h⟩
    · intro kx xs wx hk hG hD hI Qo Kx hK hQo
      clear hD
      clear hI
      simp only [patchS, Nat.reduceAdd, Nat.reduceEqDiff, ↓reduceIte] at hQo ⊢
      go_wp2
      exact hK.out _ _ ⟨rfl, hG, fun _ _ _ _ _ _ h => h⟩
    · intro kx xs wx hk hG hD hI Qo Kx hK hQo
      have d16 : (xs 16) = .int .i64 (y / 2) := hD 16 rfl
      clear hD
      clear hI
      simp only [patchS, Nat.reduceAdd, Nat.reduceEqDiff, ↓reduceIte] at hQo ⊢
      generalize xs 16 = y16 at *
      subst d16
      go_wp2
      exact hK.out _ _ ⟨rfl, hG, fun _ _ _ _ _ _ h => h⟩
    · intro kx xs wx hk hG hD hI Qo Kx hK hQo
      have d13 : (xs 13) = .agg #[.int .i64 p.w, .int .i64 p.h, .slice a n c] := hD 13 rfl
      have d15 : (xs 15) = .int .i64 (x / 2 + 1) := hD 15 rfl
      have d17 : (xs 17) = .int .i64 (y / 2 + 1) := hD 17 rfl
      clear hD
      clear hI
      simp only [patchS, Nat.reduceAdd, Nat.reduceEqDiff, ↓reduceIte] at hQo ⊢
      generalize xs 13 = y13 at *
      generalize xs 15 = y15 at *
      generalize xs 17 = y17 at *
      subst d13
      subst d15
      subst d17
      go_wp2_with fail
      refine (l1At_any p (x / 2 + 1) (y / 2 + 1) a c n _ HV.out HN.out (r.ext (E2.trans hG))).mono ?_
      rintro e w3 ⟨rfl, e3⟩
      rw [← H3.out]
      go_wp2
      exact hK.out _ _ ⟨rfl, hG.trans e3, fun _ _ _ _ _ _ h => h⟩
    · intro kx xs wx hk hG hD hI Qo Kx hK hQo
      have d12 : (xs 12) = .int .i64 (s0 + s1 + s2) := hD 12 rfl
      have d18 : (xs 18) = .int .i64 s3 := hD 18 rfl
      clear hD
      clear hI
      simp only [patchS, Nat.reduceAdd, Nat.reduceEqDiff, ↓reduceIte] at hQo ⊢
      generalize xs 12 = y12 at *
      generalize xs 18 = y18 at *
      subst d12
      subst d18
      go_wp2
      exact hK.out _ _ ⟨rfl, hG, fun _ _ _ _ _ _ h => h⟩
    · intro kx xs wx hk hG hD hI Qo Kx hK hQo
      have d19 : (xs 19) = .int .i64 (s0 + s1 + s2 + s3) := hD 19 rfl
      clear hD
      clear hI
      simp only [patchS, Nat.reduceAdd, Nat.reduceEqDiff, ↓reduceIte] at hQo ⊢
      generalize xs 19 = y19 at *
      subst d19
      go_wp2
      exact hK.out _ _ ⟨rfl, hG, fun _ _ _ _ _ _ h => h⟩
    · intro kx xs wx hk hG hD hI Qo Kx hK hQo
      have d20 : (xs 20) = .int .i64 (s0 + s1 + s2 + s3 + 2) := hD 20 rfl
      clear hD
      clear hI
      simp only [patchS, Nat.reduceAdd, Nat.reduceEqDiff, ↓reduceIte] at hQo ⊢
      generalize xs 20 = y20 at *
      subst d20
      go_wp2
      exact hK.out _ _ ⟨rfl, hG, fun _ _ _ _ _ _ h => h⟩
    · intro kx xs wx hk hG hD hI Qo Kx hK hQo
      have d21 : (xs 21) = .int .i64 ((s0 + s1 + s2 + s3 + 2) / 4) := hD 21 rfl
      clear hD
      clear hI
      simp only [patchS, Nat.reduceAdd, Nat.reduceEqDiff, ↓reduceIte] at hQo ⊢
      generalize xs 21 = y21 at *
      subst d21
      go_wp2
      exact hK.out _ _ ⟨rfl, hG, fun _ _ _ _ _ _ h => h⟩
  intro xs wx hV hG
  have d0 : (xs 0) = .int .i64 s0 := hV 0 (by decide)
  have d1 : (xs 1) = .agg #[.int .i64 p.w, .int .i64 p.h, .slice a n c] := hV 1 (by decide)
  have d2 : (xs 2) = .int .i64 (x / 2) := hV 2 (by decide)
  have d3 : (xs 3) = .int .i64 (x / 2 + 1) := hV 3 (by decide)
  have d4 : (xs 4) = .int .i64 (y / 2) := hV 4 (by decide)
  have d5 : (xs 5) = .int .i64 s1 := hV 5 (by decide)
  have d6 : (xs 6) = .int .i64 (s0 + s1) := hV 6 (by decide)
  have d7 : (xs 7) = .agg #[.int .i64 p.w, .int .i64 p.h, .slice a n c] := hV 7 (by decide)
  have d8 : (xs 8) = .int .i64 (x / 2) := hV 8 (by decide)
  have d9 : (xs 9) = .int .i64 (y / 2) := hV 9 (by decide)
  have d10 : (xs 10) = .int .i64 (y / 2 + 1) := hV 10 (by decide)
  have d11 : (xs 11) = .int .i64 s2 := hV 11 (by decide)
  have d12 : (xs 12) = .int .i64 (s0 + s1 + s2) := hV 12 (by decide)
  have d13 : (xs 13) = .agg #[.int .i64 p.w, .int .i64 p.h, .slice a n c] := hV 13 (by decide)
  have d14 : (xs 14) = .int .i64 (x / 2) := hV 14 (by decide)
  have d15 : (xs 15) = .int .i64 (x / 2 + 1) := hV 15 (by decide)
  have d16 : (xs 16) = .int .i64 (y / 2) := hV 16 (by decide)
  have d17 : (xs 17) = .int .i64 (y / 2 + 1) := hV 17 (by decide)
  have d18 : (xs 18) = .int .i64 s3 := hV 18 (by decide)
  have d19 : (xs 19) = .int .i64 (s0 + s1 + s2 + s3) := hV 19 (by decide)
  have d20 : (xs 20) = .int .i64 (s0 + s1 + s2 + s3 + 2) := hV 20 (by decide)
  have d21 : (xs 21) = .int .i64 ((s0 + s1 + s2 + s3 + 2) / 4) := hV 21 (by decide)
  have d22 : (xs 22) = .int .i64 ((s0 + s1 + s2 + s3 + 2) / 4) := hV 22 (by decide)
  clear hV
  simp only [patchS, Nat.reduceAdd, Nat.reduceEqDiff, ↓reduceIte]
  generalize xs 0 = y0 at *
  generalize xs 1 = y1 at *
  generalize xs 2 = y2 at *
  generalize xs 3 = y3 at *
  generalize xs 4 = y4 at *
  generalize xs 5 = y5 at *
  generalize xs 6 = y6 at *
  generalize xs 7 = y7 at *
  generalize xs 8 = y8 at *
  generalize xs 9 = y9 at *
  generalize xs 10 = y10 at *
  generalize xs 11 = y11 at *
  generalize xs 12 = y12 at *
  generalize xs 13 = y13 at *
  generalize xs 14 = y14 at *
  generalize xs 15 = y15 at *
  generalize xs 16 = y16 at *
  generalize xs 17 = y17 at *
  generalize xs 18 = y18 at *
  generalize xs 19 = y19 at *
  generalize xs 20 = y20 at *
  generalize xs 21 = y21 at *
  generalize xs 22 = y22 at *
  replace hG : Ext w2 wx := hG
  clear d0 d1 d2 d3 d4 d5 d6 d7 d8 d9 d10 d11 d12 d13 d14 d15 d16 d17 d18 d19 d20 d21
  subst d22
  go_wp2
  go_ret
  exact ⟨(ret_intH HH).symm, E2.trans hG⟩
theorem l7Half_any (p : Pic) (x y : Int) (a : Option Addr) (c n : Nat) (w : World) (hv : p.valid) (hn : n = p.px.length) (r : Sl w a n (p.px.map (Value.int .i64)))
    (x1 : -2000 ≤ x) (x2 : x ≤ 2000) (y1 : -2000 ≤ y) (y2 : y ≤ 2000) :
    Calls Tryd.prog 128 #[.agg #[.int .i64 p.w, .int .i64 p.h, .slice a n c], .int .i64 x, .int .i64 y] w fun e w' => e = .returned (.int .i64 (hlf p x y)) ∧ Ext w w' := by
  by_cases hx : x % 2 = 0
  · by_cases hy : y % 2 = 0
    · exact l7Half_ee p x y a c n w hv hn r x1 x2 y1 y2 hx hy
    · exact l7Half_eo p x y a c n w hv hn r x1 x2 y1 y2 hx hy
  · by_cases hy : y % 2 = 0
    · exact l7Half_oe p x y a c n w hv hn r x1 x2 y1 y2 hx hy
    · exact l7Half_oo p x y a c n w hv hn r x1 x2 y1 y2 hx hy
end Go.Proofs.YtbnhaegidfbgbaaDoor
namespace Go.Proofs.YtbnhaegidfbgbaaDoor
open Go.RowKit
set_option maxHeartbeats 1000000
theorem blk_snoc (p : Pic) (x y vx vy : Int) {J I : Nat} (hJ : J < 8) (hI : I < 8) : ((blkL p x y vx vy).take (8 * J + (I + 1))).map (Value.int .i64) = ((blkL p x y vx vy).take (8 * J + I)).map (Value.int .i64) ++ [.int .i64 (hlf p (2 * (x + (I : Int)) + vx) (2 * (y + (J : Int)) + vy))] := by
  rw [show 8 * J + (I + 1) = 8 * J + I + 1 by omega, take_snoc_nth _ _ (by rw [blkL_len]; omega), nth_blkL _ _ _ _ _ (by omega), show (8 * J + I) % 8 = I by omega, show (8 * J + I) / 8 = J by omega]
  simp
theorem mul8 (J : Nat) : 8 * (J + 1) = 8 * J + 8 := by omega
set_option maxRecDepth 100000 in
theorem l7Block_any (p : Pic) (x y vx vy : Int) (a : Option Addr) (c n : Nat) (w : World) (hv : p.valid) (hn : n = p.px.length) (r : Sl w a n (p.px.map (Value.int .i64))) (x1 : 0 ≤ x) (x2 : x ≤ 100) (y1 : 0 ≤ y) (y2 : y ≤ 100) (v1 : -16 ≤ vx) (v2 : vx ≤ 16) (v3 : -16 ≤ vy) (v4 : vy ≤ 16) :
    Calls Tryd.prog 93 #[.agg #[.int .i64 p.w, .int .i64 p.h, .slice a n c], .int .i64 x, .int .i64 y, .agg #[.int .i64 vx, .int .i64 vy]] w fun e w' => ∃ a' c', e = .returned (.slice a' 64 c') ∧ w'.ownsRow w.heap.size 3 1 (.slice a' 64 c') 64 ((blkL p x y vx vy).map (Value.int .i64)) ∧ Ext w w' := by
  have p0 := blk_alloc (blk_new w (.cells #[.int .i64 p.w, .int .i64 p.h, .slice a n c] 25)) (.cells #[.int .i64 vx, .int .i64 vy] 27)
  have q0 := blk_new (w.alloc (.cells #[.int .i64 p.w, .int .i64 p.h, .slice a n c] 25)) (.cells #[.int .i64 vx, .int .i64 vy] 27)
  have E0 := (Ext.alloc w (.cells #[.int .i64 p.w, .int .i64 p.h, .slice a n c] 25)).trans (Ext.alloc _ (.cells #[.int .i64 vx, .int .i64 vy] 27))
  simp only [World.size_alloc] at q0
  obtain ⟨B, hB⟩ : ∃ B, B = w.heap.size := ⟨_, rfl⟩
  rw [← hB] at p0 q0 ⊢
  have HB := Lib.hid hB
  have HN := Lib.hid hn
  have HV := Lib.hid hv
  clear hn hv
  have hown := World.ownsRow_made (base := B + 2) (e := 3) (size := 1) ((w.alloc (.cells #[.int .i64 p.w, .int .i64 p.h, .slice a n c] 25)).alloc (.cells #[.int .i64 vx, .int .i64 vy] 27)) #[] 0 (by simp; omega) (by simp) rfl
  have EA := Ext.alloc ((w.alloc (.cells #[.int .i64 p.w, .int .i64 p.h, .slice a n c] 25)).alloc (.cells #[.int .i64 vx, .int .i64 vy] 27)) (.cells #[] 3)
  have E1 := E0.trans EA
  have p1 := EA.blk p0
  have q1 := EA.blk q0
  simp only [World.size_alloc] at hown
  rw [← hB] at hown
  clear EA
  go_enter Tryd.func93, Tryd.ntmps93
  go_wp2_with fail
  try simp only [World.size_alloc]
  rw [← hB]
  generalize (((w.alloc (.cells #[.int .i64 p.w, .int .i64 p.h, .slice a n c] 25)).alloc (.cells #[.int .i64 vx, .int .i64 vy] 27)).alloc (.cells #[] 3)) = w1 at *
  have X1 := Lib.hid (And.intro p1 q1)
  have hwB : w.heap.size ≤ B := by omega
  clear p0 q0 p1 q1 E0 hB
  go_loopw [9, 10] (fun v j wr => ∃ J : Nat, J ≤ 8 ∧ j = .int .i64 J ∧ Ext w wr ∧ Hid (wr.heap[B]? = some (.cells #[.int .i64 p.w, .int .i64 p.h, .slice a n c] 25 (0, 0)) ∧ wr.heap[B + 1]? = some (.cells #[.int .i64 vx, .int .i64 vy] 27 (0, 0))) ∧ wr.ownsRow (B + 2) 3 1 v (8 * J) (((blkL p x y vx vy).take (8 * J)).map (Value.int .i64))) (fun _ j _ => 8 - (intOf j).toNat)
  case atStart => exact ⟨0, by omega, rfl, E1, X1, by simpa using hown⟩
  case round =>
    obtain ⟨J, hJ, rfl, EJ, XJ, oJ⟩ := hrel
    obtain ⟨wo, rfl⟩ : ∃ wo : World, wo = wr := ⟨_, rfl⟩
    by_cases hltJ : J < 8
    · have hdJ : decide ((J : Int) < 8) = true := by simp; omega
      go_wp2_with fail
      go_loopw [9, 11] (fun v i wr2 => ∃ I : Nat, I ≤ 8 ∧ i = .int .i64 I ∧ Ext w wr2 ∧ Hid (wr2.heap[B]? = some (.cells #[.int .i64 p.w, .int .i64 p.h, .slice a n c] 25 (0, 0)) ∧ wr2.heap[B + 1]? = some (.cells #[.int .i64 vx, .int .i64 vy] 27 (0, 0))) ∧ wr2.ownsRow (B + 2) 3 1 v (8 * J + I) (((blkL p x y vx vy).take (8 * J + I)).map (Value.int .i64))) (fun _ i _ => 8 - (intOf i).toNat)
      case atStart => exact ⟨0, by omega, rfl, EJ, XJ, oJ⟩
      case round =>
        obtain ⟨I, hI, rfl, EI, XI, oI⟩ := hrel
        clear EJ oJ XJ
        by_cases hltI : I < 8
        · have hdI : decide ((I : Int) < 8) = true := by simp; omega
          have Hsn := Lib.hid (blk_snoc p x y vx vy hltJ hltI)
          obtain ⟨-, k0, k1, k2, -⟩ := bx3 XI.out.1
          obtain ⟨-, g0, g1, -⟩ := bx2 XI.out.2
          go_wp2_with fail
          refine (l7Half_any p (2 * (x + (I : Int)) + vx) (2 * (y + (J : Int)) + vy) a c n _ HV.out HN.out (r.ext EI) (by omega) (by omega) (by omega) (by omega)).mono ?_
          rintro e w3 ⟨rfl, e3⟩
          have E3 := EI.trans e3
          have X3 := Lib.hid (And.intro (e3.blk XI.out.1) (e3.blk XI.out.2))
          have o3 := owns_ext oI e3
          have hs3 : B + 2 ≤ w3.heap.size := by have := lt_of_block X3.out.2; omega
          clear EI oI XI e3 k0 k1 k2 g0 g1
          go_wp2_with (at_builtin; refine wpList_app _ o3 hs3 _ rfl _ _ 23 rfl (.int .i64 0) 8 Tryd.underlying23 info_int rfl rfl rfl rfl (by omega) (by omega) ?_; intro v4 w4 own4 gr4 _)
          go_roundw
          case rel =>
            rw [← Hsn.out] at own4
            have hge := owns_ge o3
            exact ⟨I + 1, by omega, by go_num, Ext.grown E3 gr4 (fun k e => by have := hge k e; omega), Lib.hid ⟨blk_gr X3.out.1 gr4 (fun e => by have := hge _ e; omega), blk_gr X3.out.2 gr4 (fun e => by have := hge _ e; omega)⟩, own4⟩
          case measure => simp [intOf]; omega
        · obtain rfl : I = 8 := by omega
          go_wp2
          go_roundw
          case rel => exact ⟨J + 1, by omega, by go_num, EI, XI, by rw [mul8]; exact oI⟩
          case measure => simp [intOf]; omega
    · obtain rfl : J = 8 := by omega
      rw [List.take_of_length_le (by rw [blkL_len]; omega)] at oJ
      obtain ⟨a8, c8, rfl⟩ := owns_form oJ
      go_wp2
      go_ret
      exact ⟨_, _, rfl, owns_mono oJ (by omega), EJ⟩
end Go.Proofs.YtbnhaegidfbgbaaDoor
namespace Go.Proofs.YtbnhaegidfbgbaaDoor
open Go.RowKit
def keepB (b : Nat) (W W' : World) : Prop := W'.heap[b]? = W.heap[b]?
theorem keepB.t {b : Nat} {A B C : World} (h : keepB b A B) (k : keepB b B C) : keepB b A C := k.trans h
theorem keepB.b {b n : Nat} (hb : b < n) (W : World) (l : Nat) (o o' : Obj) (hl : n ≤ l) (_ : W.heap[l]? = some o) (_ : o.isCells = false) (_ : o.isWalk = false) : keepB b W (W.putObj l o') := World.putObj_heap_other (by omega)
end Go.Proofs.YtbnhaegidfbgbaaDoor
