/- The transform of a block: the reference's. | MacroValid: the reference's. | The inverse transform, coding and decoding of a block of residuals: both sides. | Decoding of a block, the reference's coding, differences of blocks. | Blocks out of pictures and of macroblocks; blocks put into pictures: both sides. | A block put into a picture: both sides. -/
import Derived.Test.YtbnhaegidfbgbaaGreatDoorQm6
set_option linter.unusedVariables false
set_option linter.unusedSimpArgs false
namespace Go.Proofs.YtbnhaegidfbgbaaGreatDoor
open Go.RowKit
set_option maxHeartbeats 1000000
/-- The list of f's first k numbers, zeros behind them. -/
theorem had_mix (zs : List Int) {U V : Nat} (hU : U < 4) (hV : V < 4) : (mixI (had zs) (List.replicate 16 0) (4 * U + V)).set (4 * U + V) (sumZ (hadT zs U V) 16) = mixI (had zs) (List.replicate 16 0) (4 * U + (V + 1)) := by
 have h := nth_had zs (4 * U + V) (by omega)
 rw [show (4 * U + V) / 4 = U by omega, show (4 * U + V) % 4 = V by omega] at h
 rw [← h, mixI_set _ _ _ 16 (had_len _) (by simp) (by omega), Nat.add_assoc]
theorem mul4 (J : Nat) : 4 * (J + 1) = 4 * J + 4 := by omega
def sgnL : List Int := [1, 1, 1, 1, 1, 1, -1, -1, 1, -1, -1, 1, 1, -1, 1, -1]
theorem l3Sign_any (u y : Nat) (w : World) (hu : u < 4) (hy : y < 4) :
 Calls Tryz.prog 182 #[.int .i64 (u : Nat), .int .i64 (y : Nat)] w fun e w' => e = .returned (.int .i64 (sgn u y)) ∧ w = w' := by
 have HS := Lib.hid (show nth sgnL (4 * u + y) = sgn u y from rfl)
 go_enter Tryz.func182, Tryz.ntmps182
 go_wp2_with (refine wpList_iindex _ _ _ rfl rfl sgnL rfl (4 * u + y) 16 _ rfl (by omega) _ Tryz.underlying29 Tryz.underlying3 size_int (by omega) rfl ?_)
 go_ret
 exact ⟨ret_int HS.out, rfl⟩
set_option maxRecDepth 100000 in
set_option maxHeartbeats 2000000 in
theorem l3Apply_any (zs : List Int) (w : World) (hl : zs.length = 16) (hb : bdA 1048576 zs) :
 Calls Tryz.prog 169 #[.agg (ic zs)] w fun e w' => e = .returned (.agg (ic (had zs))) ∧ Ext w w' := by
 have Hl := Lib.hid hl
 have HB := Lib.hid hb
 have hz : (List.replicate 16 (0 : Int)).length = 16 := by simp
 have Hz := Lib.hid hz
 clear hl hb hz
 have a2 := Ext.alloc (w.alloc (.cells (ic zs) 29)) (.cells (ic (List.replicate 16 0)) 29)
 have a3 := Ext.alloc ((w.alloc (.cells (ic zs) 29)).alloc (.cells (ic (List.replicate 16 0)) 29)) (.cells (ic (List.replicate 16 0)) 29)
 have p0 := ((IB.new w 29 zs).ext a2).ext a3
 have p1 := (IB.new (w.alloc (.cells (ic zs) 29)) 29 (List.replicate 16 0)).ext a3
 have p2 := IB.new ((w.alloc (.cells (ic zs) 29)).alloc (.cells (ic (List.replicate 16 0)) 29)) 29 (List.replicate 16 0)
 have E1 := ((Ext.alloc w (.cells (ic zs) 29)).trans a2).trans a3
 simp only [World.size_alloc] at p1 p2
 clear a2 a3
 go_enter Tryz.func169, Tryz.ntmps169
 go_wp2_with fail
 obtain ⟨B, hB⟩ : ∃ B, B = w.heap.size := ⟨_, rfl⟩
 try simp only [World.size_alloc]
 rw [← hB] at p0 p1 p2 ⊢
 have hwB : w.heap.size ≤ B := by omega
 have HB0 := Lib.hid hB
 clear hB
 go_loopw [4] (fun u wr => ∃ U : Nat, U ≤ 4 ∧ u = .int .i64 U ∧ Ext w wr ∧ IB wr B 29 zs ∧ IB wr (B + 1) 29 (List.replicate 16 0) ∧ IB wr (B + 1 + 1) 29 (mixI (had zs) (List.replicate 16 0) (4 * U))) (fun u _ => 4 - (intOf u).toNat)
 case atStart => exact ⟨0, by omega, rfl, E1, p0, p1, by rw [mixI_zero]; exact p2⟩
 case round =>
  obtain ⟨U, hU, rfl, E2, q0, q1, q2⟩ := hrel
  obtain ⟨wo, rfl⟩ : ∃ wo : World, wo = wr := ⟨_, rfl⟩
  clear p0 p1 p2 E1
  by_cases hltU : U < 4
  ·have hdU : decide ((U : Int) < 4) = true := by simp; omega
   go_wp2_with fail
   go_loopw [5] (fun v wr2 => ∃ V : Nat, V ≤ 4 ∧ v = .int .i64 V ∧ Ext w wr2 ∧ IB wr2 B 29 zs ∧ IB wr2 (B + 1) 29 (List.replicate 16 0) ∧ IB wr2 (B + 1 + 1) 29 (mixI (had zs) (List.replicate 16 0) (4 * U + V))) (fun v _ => 4 - (intOf v).toNat)
   case atStart => exact ⟨0, by omega, rfl, E2, q0, q1, q2⟩
   case round =>
    obtain ⟨V, hV, rfl, E3, r0, r1, r2⟩ := hrel
    obtain ⟨wo2, rfl⟩ : ∃ wo2 : World, wo2 = wr := ⟨_, rfl⟩
    clear q0 q1 q2 E2
    by_cases hltV : V < 4
    ·have hdV : decide ((V : Int) < 4) = true := by simp; omega
     have Hmix := Lib.hid (had_mix zs hltU hltV)
     have hrng : ∀ t, t ≤ 16 → -16777216 ≤ sumZ (hadT zs U V) t ∧ sumZ (hadT zs U V) t ≤ 16777216 := fun t ht => by
      have := sumZ_rng (f := hadT zs U V) (B := 1048576) (n := t) (fun i hi => hadT_rng (HB.out i) hltU hltV (by omega))
      omega
     have Hrng := Lib.hid hrng
     have Hsum := Lib.hid (fun t => show sumZ (hadT zs U V) (t + 1) = sumZ (hadT zs U V) t + sgn U (t / 4) * sgn V (t % 4) * nth zs t from rfl)
     clear hrng
     obtain ⟨S, hS⟩ : ∃ S : Nat → Int, S = sumZ (hadT zs U V) := ⟨_, rfl⟩
     have HS0 := Lib.hid (show S 0 = 0 by rw [hS]; rfl)
     rw [← hS] at Hmix Hrng Hsum
     have HS := Lib.hid hS
     clear hS
     go_wp2_with fail
     go_loopw [6, 7] (fun n y wr3 => ∃ Y : Nat, Y ≤ 4 ∧ y = .int .i64 Y ∧ n = .int .i64 (S (4 * Y)) ∧ Ext wo2 wr3) (fun _ y _ => 4 - (intOf y).toNat)
     case atStart => exact ⟨0, by omega, rfl, by rw [Nat.mul_zero, HS0.out], Below.refl _ _⟩
     case round =>
      obtain ⟨Y, hY, rfl, rfl, E4⟩ := hrel
      obtain ⟨wo3, rfl⟩ : ∃ wo3 : World, wo3 = wr := ⟨_, rfl⟩
      by_cases hltY : Y < 4
      ·have hdY : decide ((Y : Int) < 4) = true := by simp; omega
       go_wp2_with fail
       go_loopw [6, 8] (fun n x wr4 => ∃ X : Nat, X ≤ 4 ∧ x = .int .i64 X ∧ n = .int .i64 (S (4 * Y + X)) ∧ Ext wo2 wr4) (fun _ x _ => 4 - (intOf x).toNat)
       case atStart => exact ⟨0, by omega, rfl, rfl, E4⟩
       case round =>
        obtain ⟨X, hX, rfl, rfl, E5⟩ := hrel
        obtain ⟨wo4, rfl⟩ : ∃ wo4 : World, wo4 = wr := ⟨_, rfl⟩
        clear E4
        by_cases hltX : X < 4
        ·have hdX : decide ((X : Int) < 4) = true := by simp; omega
         have hn0 := Hrng.out (4 * Y + X) (by omega)
         have hsm := Hsum.out (4 * Y + X)
         rw [show (4 * Y + X) / 4 = Y by omega, show (4 * Y + X) % 4 = X by omega] at hsm
         have g1 := sgn_one hltU hltY
         have g2 := sgn_one hltV hltX
         have hz := HB.out (4 * Y + X)
         have hc := (r0.ext E5).cell (i := 4 * Y + X) (by rw [Hl.out]; omega)
         have C := Lib.hid hc
         have HA1 := Lib.hid (fun w => l3Sign_any U Y w hltU hltY)
         have HA2 := Lib.hid (fun w => l3Sign_any V X w hltV hltX)
         generalize sgn U Y = s1 at *
         generalize sgn V X = s2 at *
         generalize nth zs (4 * Y + X) = z at *
         have hp : -1 ≤ s1 * s2 ∧ s1 * s2 ≤ 1 := by rcases g1 with h | h <;> rcases g2 with h2 | h2 <;> rw [h, h2] <;> omega
         have hpz : -1048576 ≤ s1 * s2 * z ∧ s1 * s2 * z ≤ 1048576 := by rcases g1 with h | h <;> rcases g2 with h2 | h2 <;> rw [h, h2] <;> omega
         have Hsm := Lib.hid hsm
         have Hnx := Lib.hid (Hrng.out (4 * Y + X + 1) (by omega))
         obtain ⟨N, hN⟩ : ∃ N, N = S (4 * Y + X) := ⟨_, rfl⟩
         rw [← hN] at hn0 Hsm ⊢
         have HN := Lib.hid hN
         clear hsm hc hN g1 g2
         go_wp2_with fail
         refine wp_region_inv2 (by kernel_rfl) [(6, 16), (26, 0), (27, 1), (28, 2), (29, 3), (30, 4), (31, 5), (32, 6), (33, 7), (34, 8), (35, 9), (36, 10), (37, 11), (38, 12), (39, 13), (40, 14), (41, 15)] [[], [], [], [1, 2], [], [], [1, 2, 3, 4, 5], [1, 2, 3, 4, 5, 6], [], [8], [], [8, 9, 10], [8, 9, 10, 11], [8, 9, 10, 11, 12], [1, 2, 3, 4, 5, 6, 7, 8, 9, 10, 11, 12, 13], [0, 1, 2, 3, 4, 5, 6, 7, 8, 9, 10, 11, 12, 13, 14], [0, 1, 2, 3, 4, 5, 6, 7, 8, 9, 10, 11, 12, 13, 14, 15]] (fun i own ys wx => match i with | 0 => own = .int .i64 N | 1 => own = .int .i64 (U : Nat) | 2 => own = .int .i64 (Y : Nat) | 3 => own = .int .i64 s1 | 4 => own = .int .i64 (V : Nat) | 5 => own = .int .i64 (X : Nat) | 6 => own = .int .i64 s2 | 7 => own = .int .i64 (s1 * s2) | 8 => own = .int .i64 (Y : Nat) | 9 => own = .int .i64 (4 * (Y : Int)) | 10 => own = .int .i64 (X : Nat) | 11 => own = .int .i64 (4 * (Y : Int) + (X : Int)) | 12 => own = .pointer (some ⟨B, 4 * Y + X, none⟩) | 13 => own = .int .i64 z | 14 => own = .int .i64 (s1 * s2 * z) | 15 => own = .int .i64 (N + s1 * s2 * z) | 16 => own = .int .i64 (N + s1 * s2 * z) | _ => True) (fun kx wx => Ext wo4 wx) (by kernel_rfl) (by kernel_rfl) (by kernel_rfl) ?g0_r1 ?gop_r1 ?gend_r1
         case g0_r1 => exact Ext.drewN _ 1
         case gop_r1 =>
          refine ⟨?o0, ?_, ?_, ?o3, ?_, ?_, ?o6, ?o7, ?_, ?o9, ?_, ?o11, ?o12, ?o13, ?o14, ?o15, ?o16, trivial⟩ <;> (intro kx xs wx hk hG hD hI Qo Kx hK hQo; simp only [patchS, Nat.reduceAdd, Nat.reduceEqDiff, ↓reduceIte] at hQo ⊢)
          case o0 =>
           have i16 := hI 16 6 rfl rfl
           simp only [List.getD_cons_succ, List.getD_cons_zero] at i16
           clear hD hI
           rw [i16] at hQo ⊢
           clear i16
           go_wp2
           exact hK.out _ _ ⟨rfl, hG, fun _ _ _ _ _ _ h => h⟩
          case o3 =>
           have d1 : _ = _ := hD 1 rfl
           have d2 : _ = _ := hD 2 rfl
           clear hD hI
           generalize xs 1 = y1 at *
           generalize xs 2 = y2 at *
           subst d1 d2
           go_wp2_with fail
           refine (HA1.out _).mono ?_
           rintro e w9 ⟨rfl, rfl⟩
           go_wp2
           exact hK.out _ _ ⟨rfl, hG, fun _ _ _ _ _ _ h => h⟩
          case o6 =>
           have d4 : _ = _ := hD 4 rfl
           have d5 : _ = _ := hD 5 rfl
           clear hD hI
           generalize xs 4 = y4 at *
           generalize xs 5 = y5 at *
           subst d4 d5
           go_wp2_with fail
           refine (HA2.out _).mono ?_
           rintro e w9 ⟨rfl, rfl⟩
           go_wp2
           exact hK.out _ _ ⟨rfl, hG, fun _ _ _ _ _ _ h => h⟩
          case o7 =>
           have d3 : _ = _ := hD 3 rfl
           have d6 : _ = _ := hD 6 rfl
           clear hD hI
           generalize xs 3 = y3 at *
           generalize xs 6 = y6 at *
           subst d3 d6
           go_wp2
           exact hK.out _ _ ⟨rfl, hG, fun _ _ _ _ _ _ h => h⟩
          case o9 =>
           have d8 : _ = _ := hD 8 rfl
           clear hD hI
           generalize xs 8 = y8 at *
           subst d8
           go_wp2
           exact hK.out _ _ ⟨rfl, hG, fun _ _ _ _ _ _ h => h⟩
          case o11 =>
           have d9 : _ = _ := hD 9 rfl
           have d10 : _ = _ := hD 10 rfl
           clear hD hI
           generalize xs 9 = y9 at *
           generalize xs 10 = y10 at *
           subst d9 d10
           go_wp2
           exact hK.out _ _ ⟨rfl, hG, fun _ _ _ _ _ _ h => h⟩
          case o12 =>
           have d11 : _ = _ := hD 11 rfl
           clear hD hI
           generalize xs 11 = y11 at *
           subst d11
           go_wp2
           exact hK.out _ _ ⟨rfl, hG, fun _ _ _ _ _ _ h => h⟩
          case o13 =>
           have d12 : _ = _ := hD 12 rfl
           clear hD hI
           generalize xs 12 = y12 at *
           subst d12
           have cx := cell_ext hG C.out
           go_wp2
           exact hK.out _ _ ⟨rfl, hG, fun _ _ _ _ _ _ h => h⟩
          case o14 =>
           have d7 : _ = _ := hD 7 rfl
           have d13 : _ = _ := hD 13 rfl
           clear hD hI
           generalize xs 7 = y7 at *
           generalize xs 13 = y13 at *
           subst d7 d13
           go_wp2
           exact hK.out _ _ ⟨rfl, hG, fun _ _ _ _ _ _ h => h⟩
          case o15 =>
           have d0 : _ = _ := hD 0 rfl
           have d14 : _ = _ := hD 14 rfl
           clear hD hI
           generalize xs 0 = y0 at *
           generalize xs 14 = y14 at *
           subst d0 d14
           go_wp2
           exact hK.out _ _ ⟨rfl, hG, fun _ _ _ _ _ _ h => h⟩
          case o16 =>
           have d15 : _ = _ := hD 15 rfl
           clear hD hI
           generalize xs 15 = y15 at *
           subst d15
           go_wp2
           exact hK.out _ _ ⟨rfl, hG, fun _ _ _ _ _ _ h => h⟩
          all_goals
           clear hD hI
           go_wp2
           exact hK.out _ _ ⟨rfl, hG, fun _ _ _ _ _ _ h => h⟩
         intro xs wx hV hG
         have d16 : _ = _ := hV 16 (by decide)
         clear hV
         simp only [patchS, Nat.reduceAdd, Nat.reduceEqDiff, ↓reduceIte]
         generalize xs 0 = y0 at *
         generalize xs 1 = y1 at *
         generalize xs 2 = y2 at *
         generalize xs 3 = y3 at *
         generalize xs 4 = y4 at *
         generalize xs 5 = y5 at *
         generalize xs 6 = y6 at *
         generalize xs 7 = y7 at *
         generalize xs 8 = y8 at *
         generalize xs 9 = y9 at *
         generalize xs 10 = y10 at *
         generalize xs 11 = y11 at *
         generalize xs 12 = y12 at *
         generalize xs 13 = y13 at *
         generalize xs 14 = y14 at *
         generalize xs 15 = y15 at *
         generalize xs 16 = y16 at *
         replace hG : Ext wo4 wx := hG
         subst d16
         go_wp2
         go_roundw
         case rel => exact ⟨X + 1, by omega, by go_num, by rw [← Nat.add_assoc, Hsm.out], E5.trans hG⟩
         case measure => simp [intOf]; omega
        ·obtain rfl : X = 4 := by omega
         go_wp2
         go_roundw
         case rel => exact ⟨Y + 1, by omega, by go_num, by rw [mul4], E5⟩
         case measure => simp [intOf]; omega
      ·obtain rfl : Y = 4 := by omega
       have hn0 := Hrng.out (4 * 4) (by omega)
       have r2' := r2.ext E4
       have cB := r2'.cell (i := 4 * U + V) (by rw [mixI_len _ _ _ 16 (had_len _) Hz.out]; omega)
       have fB := r2'.frozen (4 * U + V)
       go_wp2
       go_roundw
       case rel =>
        have s2' := r2'.set (4 * U + V) (S (4 * 4))
        rw [show 4 * 4 = 16 from rfl, Hmix.out] at s2'
        exact ⟨V + 1, by omega, by go_num, Ext.grown (E3.trans E4) (gr_set _ _ _ _) (fun q hq => by cases hq; omega), (r0.ext E4).set_other (by omega), (r1.ext E4).set_other (by omega), s2'⟩
       case measure => simp [intOf]; omega
    ·obtain rfl : V = 4 := by omega
     go_wp2
     go_roundw
     case rel => exact ⟨U + 1, by omega, by go_num, E3, r0, r1, by rw [mul4]; exact r2⟩
     case measure => simp [intOf]; omega
  ·obtain rfl : U = 4 := by omega
   rw [show 4 * 4 = 16 from rfl, mixI_all _ _ 16 (had_len _) Hz.out] at q2
   have HL := Lib.hid (had_len zs)
   go_wp2_with (first | (refine wpList_iload 29 _ rfl rfl q2 0 16 rfl _ Tryz.underlying29 rfl size_A16 (by rw [HL.out]; omega) _ (by rw [sub_all _ _ HL.out]) ?_) | (refine wpList_istore 29 _ _ rfl rfl q1 0 16 rfl _ rfl _ rfl size_A16 HL.out (by simp) ?_; intro w6 p6 g6; refine Hid.out ?_))
   rw [spl_all (by rw [HL.out]; simp)] at p6
   have E6 : Ext w w6 := Ext.grown E2 g6 (fun q hq => by cases hq; omega)
   refine Lib.hid ?_
   go_wp2
   exact bodyPost_ret (v := .agg (ic (had zs))) (results_cell_row rfl _ _ (B + 1) 29 (ic (had zs)) (0, 0) _ rfl p6 Tryz.underlying29 rfl (by rw [ic_size, had_len]; exact size_A16)) rfl ⟨rfl, E6⟩
end Go.Proofs.YtbnhaegidfbgbaaGreatDoor
namespace Go.Proofs.YtbnhaegidfbgbaaGreatDoor
open Go.RowKit
set_option maxHeartbeats 400000
theorem spec_VectorValid_yes (x y : Int) (w : World) (h : vv x y) :
 Calls Tryz.prog 136 #[.agg #[.int .i64 x, .int .i64 y]] w fun e w' => e = .returned (.bool true) ∧ Ext w w' := by
 obtain ⟨h1, h2, h3, h4⟩ := h
 go_enter Tryz.func136, Tryz.ntmps136
 go_wp2_with fail
 refine (l1In_yes _ _ _ _ h1 h2).mono ?_
 rintro e w1 ⟨rfl, rfl⟩
 go_wp2_with fail
 refine (l1In_yes _ _ _ _ h3 h4).mono ?_
 rintro e w1 ⟨rfl, rfl⟩
 go_wp2
 go_ret
 exact ⟨rfl, Ext.alloc _ _⟩
theorem spec_VectorValid_no (x y : Int) (w : World) (h : ¬ vv x y) :
 Calls Tryz.prog 136 #[.agg #[.int .i64 x, .int .i64 y]] w fun e w' => e = .returned (.bool false) ∧ Ext w w' := by
 unfold vv at h
 by_cases h1 : -16 ≤ x ∧ x ≤ 16
 ·have h2 := Lib.hid (show y < -16 ∨ 16 < y by omega)
  clear h
  go_enter Tryz.func136, Tryz.ntmps136
  go_wp2_with fail
  refine (l1In_yes _ _ _ _ h1.1 h1.2).mono ?_
  rintro e w1 ⟨rfl, rfl⟩
  go_wp2_with fail
  refine (l1In_no _ _ _ _ h2.out).mono ?_
  rintro e w1 ⟨rfl, rfl⟩
  go_wp2
  go_ret
  exact ⟨rfl, Ext.alloc _ _⟩
 ·have h2 := Lib.hid (show x < -16 ∨ 16 < x by omega)
  clear h h1
  go_enter Tryz.func136, Tryz.ntmps136
  go_wp2_with fail
  refine (l1In_no _ _ _ _ h2.out).mono ?_
  rintro e w1 ⟨rfl, rfl⟩
  go_wp2
  go_ret
  exact ⟨rfl, Ext.alloc _ _⟩
set_option maxRecDepth 100000 in
theorem spec_l3Ok_any (zs : List Int) (B : Int) (w : World) (hl : zs.length = 16) (hB : 0 ≤ B) (hB2 : B ≤ 1099511627776) :
 Calls Tryz.prog 137 #[.agg (ic zs), .int .i64 B] w fun e w' => e = .returned (.bool (inB B zs)) ∧ Ext w w' := by
 have H := IB.new w 29 zs
 have Hl := Lib.hid hl
 clear hl
 go_enter Tryz.func137, Tryz.ntmps137
 go_wp2
 go_loopw [5] (fun i wr => ∃ k : Nat, k ≤ 16 ∧ i = .int .i64 k ∧ Ext w wr ∧ IB wr w.heap.size 29 zs ∧ Hid (∀ j, j < k → -B ≤ nth zs j ∧ nth zs j ≤ B)) (fun i _ => 16 - (intOf i).toNat)
 case atStart => exact ⟨0, by omega, rfl, Ext.alloc _ _, H, Lib.hid (fun j hj => by omega)⟩
 case round =>
  obtain ⟨k, hk, rfl, E2, H2, hall⟩ := hrel
  clear H
  by_cases hlt : k < 16
  ·have hc := H2.cell (i := k) (by rw [Hl.out]; exact hlt)
   by_cases h1 : -B ≤ nth zs k ∧ nth zs k ≤ B
   ·have hall2 := Lib.hid (show ∀ j, j < k + 1 → -B ≤ nth zs j ∧ nth zs j ≤ B from fun j hj => by
     by_cases hjk : j = k
     ·subst hjk; exact h1
     ·exact hall.out j (by omega))
    go_wp2_with fail
    refine (l1In_yes _ _ _ _ h1.1 h1.2).mono ?_
    rintro e w1 ⟨rfl, rfl⟩
    clear h1
    go_wp2
    go_roundw
    case rel => exact ⟨k + 1, by omega, by go_num, E2, H2, hall2⟩
    case measure => simp [intOf]; omega
   ·have hno := Lib.hid (inB_no (B := B) (j := k) (by rw [Hl.out]; exact hlt) (by omega))
    have h2 := Lib.hid (show nth zs k < -B ∨ B < nth zs k by omega)
    clear h1
    go_wp2_with fail
    refine (l1In_no _ _ _ _ h2.out).mono ?_
    rintro e w1 ⟨rfl, rfl⟩
    go_wp2
    go_ret
    exact ⟨(ret_bool hno.out).symm, E2⟩
  ·obtain rfl : k = 16 := by omega
   have hy := Lib.hid (inB_yes (B := B) (zs := zs) (by rw [Hl.out]; exact hall.out))
   go_wp2
   go_ret
   exact ⟨(ret_bool hy.out).symm, E2⟩
set_option maxRecDepth 100000 in
set_option maxHeartbeats 2000000 in
theorem spec_MacroValid_any (m : Mac) (w : World) (h : m.ok) :
 Calls Tryz.prog 94 #[.agg (ic m.zs)] w fun e w' => e = .returned (.bool (decide m.valid)) ∧ Ext w w' := by
 have H := IB.new w 32 m.zs
 have Hl := Lib.hid (Mac.zs_len h)
 have Hm := Lib.hid h
 have hkc := H.cell (i := 0) (by rw [Hl.out]; omega)
 rw [Mac.zs_kind] at hkc
 clear h
 by_cases hk : 0 ≤ m.kind ∧ m.kind ≤ 2
 ·have Hk := Lib.hid hk
  by_cases hv : vv m.x m.y
  ·have Hvv := Lib.hid hv
   clear hk hv
   go_enter Tryz.func94, Tryz.ntmps94
   go_wp2_with fail
   refine (l1In_yes _ _ _ _ Hk.out.1 Hk.out.2).mono ?_
   rintro e w1 ⟨rfl, rfl⟩
   go_wp2_with (refine wpList_iload 27 _ rfl rfl H 1 2 rfl _ Tryz.underlying27 rfl size_Vector (by rw [Hl.out]; omega) _ Mac.zs_mv ?_)
   refine (spec_VectorValid_yes m.x m.y _ Hvv.out).mono ?_
   rintro e w2 ⟨rfl, e2⟩
   have H2 := H.ext e2
   have E2 := (Ext.alloc w (.cells (ic m.zs) 32)).trans e2
   clear H e2 hkc
   go_wp2_with fail
   go_loopw [3] (fun i wr => ∃ k : Nat, k ≤ 4 ∧ i = .int .i64 k ∧ Ext w wr ∧ IB wr w.heap.size 32 m.zs ∧ Hid (∀ j, j < k → (0 ≤ nth m.modes j ∧ nth m.modes j ≤ 4) ∧ inB 4080 (sub m.lv (j * 16) 16) = true)) (fun i _ => 4 - (intOf i).toNat)
   case atStart => exact ⟨0, by omega, rfl, E2, H2, Lib.hid (fun j hj => by omega)⟩
   case round =>
    obtain ⟨k, hk, rfl, E4, H4, hall⟩ := hrel
    clear H2 E2
    by_cases hlt : k < 4
    ·have hmc := H4.cell (i := 3 + k) (by rw [Hl.out]; omega)
     rw [Mac.nth_mode Hm.out k hlt] at hmc
     by_cases h1 : 0 ≤ nth m.modes k ∧ nth m.modes k ≤ 4
     ·have hbl := sub_len m.lv (k * 16) 16 (by rw [Hm.out.lv]; omega)
      have Hbl := Lib.hid hbl
      have Hsb := Lib.hid (Mac.zs_blk Hm.out k hlt)
      clear hbl
      go_wp2_with fail
      refine (l1In_yes _ _ _ _ h1.1 h1.2).mono ?_
      rintro e w5 ⟨rfl, rfl⟩
      have H1 := Lib.hid h1
      clear h1 hmc
      go_wp2_with (refine wpList_iload 29 _ rfl rfl H4 (7 + k * 16) 16 rfl _ Tryz.underlying29 rfl size_A16 (by rw [Hl.out]; omega) _ (by rw [Hsb.out]) ?_)
      refine (spec_l3Ok_any _ 4080 _ Hbl.out (by omega) (by omega)).mono ?_
      rintro e w6 ⟨rfl, e6⟩
      have E6 := E4.trans e6
      have H6 := H4.ext e6
      clear E4 H4 e6
      cases hb : inB 4080 (sub m.lv (k * 16) 16)
      ·have hr := Lib.hid (show decide m.valid = false from decide_eq_false (fun h => by
        have := (inB_blocks Hm.out.lv).1 h.2.2.2.2.2.2 k hlt
        rw [hb] at this; cases this))
       clear hb
       go_wp2
       go_ret
       exact ⟨(ret_bool hr.out).symm, E6⟩
      ·have hall2 := Lib.hid (show ∀ j, j < k + 1 → (0 ≤ nth m.modes j ∧ nth m.modes j ≤ 4) ∧ inB 4080 (sub m.lv (j * 16) 16) = true from fun j hj => by
        by_cases hjk : j = k
        ·subst hjk; exact ⟨H1.out, hb⟩
        ·exact hall.out j (by omega))
       clear hb
       go_wp2
       go_roundw
       case rel => exact ⟨k + 1, by omega, by go_num, E6, H6, hall2⟩
       case measure => simp [intOf]; omega
     ·have h2 := Lib.hid (show nth m.modes k < 0 ∨ 4 < nth m.modes k by omega)
      have hr := Lib.hid (show decide m.valid = false from decide_eq_false (fun h => h1 (by
       by_cases hk2 : m.kind = 2
       ·exact h.2.2.2.2.1 hk2 k hlt
       ·rw [h.2.2.2.1 hk2, nth_zero4 hlt]; omega)))
      clear h1
      go_wp2_with fail
      refine (l1In_no _ _ _ _ h2.out).mono ?_
      rintro e w5 ⟨rfl, rfl⟩
      go_wp2
      go_ret
      exact ⟨(ret_bool hr.out).symm, E4⟩
    ·obtain rfl : k = 4 := by omega
     have hLv : inB 4080 m.lv = true := (inB_blocks Hm.out.lv).2 (fun k hk => (hall.out k hk).2)
     have hMo : ∀ j, j < 4 → 0 ≤ nth m.modes j ∧ nth m.modes j ≤ 4 := fun j hj => (hall.out j hj).1
     obtain hk0 | hk1 | hk2 : m.kind = 0 ∨ m.kind = 1 ∨ m.kind = 2 := by have := Hk.out; omega
     ·have k0 := H4.cell (i := 0) (by rw [Hl.out]; omega)
      rw [Mac.zs_kind, hk0] at k0
      by_cases hxy : m.x = 0 ∧ m.y = 0
      ·by_cases hmo : m.modes = zero4
       ·by_cases hlz : m.lv = zero64
        ·have Hv := Lib.hid (vec_eq m.x m.y true (by simpa using hxy))
         have Hd2 := Lib.hid (show decide (m.modes = List.replicate 4 0) = true by simpa [zero4] using hmo)
         have Hd3 := Lib.hid (show decide (m.lv = List.replicate 64 0) = true by simpa [zero64] using hlz)
         have hr := Lib.hid (show decide m.valid = true from decide_eq_true ⟨Hk.out, Hvv.out, fun _ => hxy, fun _ => hmo, fun h => (by omega), fun _ => hlz, hLv⟩)
         clear hxy hmo hlz hk0 hall hLv hMo
         go_wp2_with (first | go_skip | (refine wpList_iload 27 _ rfl rfl H4 1 2 rfl _ Tryz.underlying27 rfl size_Vector (by rw [Hl.out]; omega) _ Mac.zs_mv ?_) | (refine wpList_iload 28 _ rfl rfl H4 3 4 rfl _ Tryz.underlying28 rfl size_A4 (by rw [Hl.out]; omega) _ (by rw [Mac.zs_modes Hm.out]) ?_) | (refine wpList_iload 30 _ rfl rfl H4 7 64 rfl _ Tryz.underlying30 rfl size_A16A4 (by rw [Hl.out]; omega) _ (by rw [Mac.zs_lv Hm.out]) ?_) | (refine wpList_izero 28 rfl rfl Tryz.underlying28 size_int 4 zero_A4 ?_) | (refine wpList_izero 30 rfl rfl Tryz.underlying30 size_A16 64 zero_A16A4 ?_) | (refine wpList_vneq 27 _ _ _ rfl rfl _ _ rfl rfl _ Hv.out guard_Vector ?_) | (refine wpList_ineq 28 _ _ _ rfl rfl _ _ rfl rfl _ _ rfl rfl Tryz.underlying28 size_int eqE_int Hm.out.modes (by simp) guard_A4 _ Hd2.out ?_) | (refine wpList_ieql 30 _ _ _ rfl rfl _ _ rfl rfl _ _ rfl rfl Tryz.underlying30 size_A16 eqE_A16 Hm.out.lv (by simp) guard_A16A4 _ Hd3.out ?_))
         go_ret
         exact ⟨(ret_bool hr.out).symm, E4⟩
        ·have Hv := Lib.hid (vec_eq m.x m.y true (by simpa using hxy))
         have Hd2 := Lib.hid (show decide (m.modes = List.replicate 4 0) = true by simpa [zero4] using hmo)
         have Hd3 := Lib.hid (show decide (m.lv = List.replicate 64 0) = false by simpa [zero64] using hlz)
         have hr := Lib.hid (show decide m.valid = false from decide_eq_false (fun h => hlz (h.2.2.2.2.2.1 hk0)))
         clear hxy hmo hlz hk0 hall hLv hMo
         go_wp2_with (first | go_skip | (refine wpList_iload 27 _ rfl rfl H4 1 2 rfl _ Tryz.underlying27 rfl size_Vector (by rw [Hl.out]; omega) _ Mac.zs_mv ?_) | (refine wpList_iload 28 _ rfl rfl H4 3 4 rfl _ Tryz.underlying28 rfl size_A4 (by rw [Hl.out]; omega) _ (by rw [Mac.zs_modes Hm.out]) ?_) | (refine wpList_iload 30 _ rfl rfl H4 7 64 rfl _ Tryz.underlying30 rfl size_A16A4 (by rw [Hl.out]; omega) _ (by rw [Mac.zs_lv Hm.out]) ?_) | (refine wpList_izero 28 rfl rfl Tryz.underlying28 size_int 4 zero_A4 ?_) | (refine wpList_izero 30 rfl rfl Tryz.underlying30 size_A16 64 zero_A16A4 ?_) | (refine wpList_vneq 27 _ _ _ rfl rfl _ _ rfl rfl _ Hv.out guard_Vector ?_) | (refine wpList_ineq 28 _ _ _ rfl rfl _ _ rfl rfl _ _ rfl rfl Tryz.underlying28 size_int eqE_int Hm.out.modes (by simp) guard_A4 _ Hd2.out ?_) | (refine wpList_ieql 30 _ _ _ rfl rfl _ _ rfl rfl _ _ rfl rfl Tryz.underlying30 size_A16 eqE_A16 Hm.out.lv (by simp) guard_A16A4 _ Hd3.out ?_))
         go_ret
         exact ⟨(ret_bool hr.out).symm, E4⟩
       ·have Hv := Lib.hid (vec_eq m.x m.y true (by simpa using hxy))
        have Hd2 := Lib.hid (show decide (m.modes = List.replicate 4 0) = false by simpa [zero4] using hmo)
        have hr := Lib.hid (show decide m.valid = false from decide_eq_false (fun h => hmo (h.2.2.2.1 (by omega))))
        clear hxy hmo hk0 hall hLv hMo
        go_wp2_with (first | go_skip | (refine wpList_iload 27 _ rfl rfl H4 1 2 rfl _ Tryz.underlying27 rfl size_Vector (by rw [Hl.out]; omega) _ Mac.zs_mv ?_) | (refine wpList_iload 28 _ rfl rfl H4 3 4 rfl _ Tryz.underlying28 rfl size_A4 (by rw [Hl.out]; omega) _ (by rw [Mac.zs_modes Hm.out]) ?_) | (refine wpList_izero 28 rfl rfl Tryz.underlying28 size_int 4 zero_A4 ?_) | (refine wpList_vneq 27 _ _ _ rfl rfl _ _ rfl rfl _ Hv.out guard_Vector ?_) | (refine wpList_ineq 28 _ _ _ rfl rfl _ _ rfl rfl _ _ rfl rfl Tryz.underlying28 size_int eqE_int Hm.out.modes (by simp) guard_A4 _ Hd2.out ?_))
        go_ret
        exact ⟨(ret_bool hr.out).symm, E4⟩
      ·have Hv := Lib.hid (vec_eq m.x m.y false (by simpa using hxy))
       have hr := Lib.hid (show decide m.valid = false from decide_eq_false (fun h => hxy (h.2.2.1 (by omega))))
       clear hxy hk0 hall hLv hMo
       go_wp2_with (first | go_skip | (refine wpList_iload 27 _ rfl rfl H4 1 2 rfl _ Tryz.underlying27 rfl size_Vector (by rw [Hl.out]; omega) _ Mac.zs_mv ?_) | (refine wpList_vneq 27 _ _ _ rfl rfl _ _ rfl rfl _ Hv.out guard_Vector ?_))
       go_ret
       exact ⟨(ret_bool hr.out).symm, E4⟩
     ·have k0 := H4.cell (i := 0) (by rw [Hl.out]; omega)
      rw [Mac.zs_kind, hk1] at k0
      by_cases hmo : m.modes = zero4
      ·have Hd2 := Lib.hid (show decide (m.modes = List.replicate 4 0) = true by simpa [zero4] using hmo)
       have hr := Lib.hid (show decide m.valid = true from decide_eq_true ⟨Hk.out, Hvv.out, fun h => absurd hk1 h, fun _ => hmo, fun h => (by omega), fun h => (by omega), hLv⟩)
       clear hmo hk1 hall hLv hMo
       go_wp2_with (first | go_skip | (refine wpList_iload 28 _ rfl rfl H4 3 4 rfl _ Tryz.underlying28 rfl size_A4 (by rw [Hl.out]; omega) _ (by rw [Mac.zs_modes Hm.out]) ?_) | (refine wpList_izero 28 rfl rfl Tryz.underlying28 size_int 4 zero_A4 ?_) | (refine wpList_ineq 28 _ _ _ rfl rfl _ _ rfl rfl _ _ rfl rfl Tryz.underlying28 size_int eqE_int Hm.out.modes (by simp) guard_A4 _ Hd2.out ?_))
       go_ret
       exact ⟨(ret_bool hr.out).symm, E4⟩
      ·have Hd2 := Lib.hid (show decide (m.modes = List.replicate 4 0) = false by simpa [zero4] using hmo)
       have hr := Lib.hid (show decide m.valid = false from decide_eq_false (fun h => hmo (h.2.2.2.1 (by omega))))
       clear hmo hk1 hall hLv hMo
       go_wp2_with (first | go_skip | (refine wpList_iload 28 _ rfl rfl H4 3 4 rfl _ Tryz.underlying28 rfl size_A4 (by rw [Hl.out]; omega) _ (by rw [Mac.zs_modes Hm.out]) ?_) | (refine wpList_izero 28 rfl rfl Tryz.underlying28 size_int 4 zero_A4 ?_) | (refine wpList_ineq 28 _ _ _ rfl rfl _ _ rfl rfl _ _ rfl rfl Tryz.underlying28 size_int eqE_int Hm.out.modes (by simp) guard_A4 _ Hd2.out ?_))
       go_ret
       exact ⟨(ret_bool hr.out).symm, E4⟩
     ·have k0 := H4.cell (i := 0) (by rw [Hl.out]; omega)
      rw [Mac.zs_kind, hk2] at k0
      by_cases hxy : m.x = 0 ∧ m.y = 0
      ·have Hv := Lib.hid (vec_eq m.x m.y true (by simpa using hxy))
       have hr := Lib.hid (show decide m.valid = true from decide_eq_true ⟨Hk.out, Hvv.out, fun _ => hxy, fun h => absurd hk2 h, fun _ => hMo, fun h => (by omega), hLv⟩)
       clear hxy hk2 hall hLv hMo
       go_wp2_with (first | go_skip | (refine wpList_iload 27 _ rfl rfl H4 1 2 rfl _ Tryz.underlying27 rfl size_Vector (by rw [Hl.out]; omega) _ Mac.zs_mv ?_) | (refine wpList_vneq 27 _ _ _ rfl rfl _ _ rfl rfl _ Hv.out guard_Vector ?_))
       go_ret
       exact ⟨(ret_bool hr.out).symm, E4⟩
      ·have Hv := Lib.hid (vec_eq m.x m.y false (by simpa using hxy))
       have hr := Lib.hid (show decide m.valid = false from decide_eq_false (fun h => hxy (h.2.2.1 (by omega))))
       clear hxy hk2 hall hLv hMo
       go_wp2_with (first | go_skip | (refine wpList_iload 27 _ rfl rfl H4 1 2 rfl _ Tryz.underlying27 rfl size_Vector (by rw [Hl.out]; omega) _ Mac.zs_mv ?_) | (refine wpList_vneq 27 _ _ _ rfl rfl _ _ rfl rfl _ Hv.out guard_Vector ?_))
       go_ret
       exact ⟨(ret_bool hr.out).symm, E4⟩
  ·have hr := Lib.hid (show decide m.valid = false from decide_eq_false (fun h => hv h.2.1))
   clear hk
   go_enter Tryz.func94, Tryz.ntmps94
   go_wp2_with fail
   refine (l1In_yes _ _ _ _ Hk.out.1 Hk.out.2).mono ?_
   rintro e w1 ⟨rfl, rfl⟩
   go_wp2_with (refine wpList_iload 27 _ rfl rfl H 1 2 rfl _ Tryz.underlying27 rfl size_Vector (by rw [Hl.out]; omega) _ Mac.zs_mv ?_)
   refine (spec_VectorValid_no m.x m.y _ hv).mono ?_
   rintro e w2 ⟨rfl, e2⟩
   clear hv hkc H
   go_wp2
   go_ret
   exact ⟨(ret_bool hr.out).symm, (Ext.alloc _ _).trans e2⟩
 ·have hr := Lib.hid (show decide m.valid = false from decide_eq_false (fun h => hk h.1))
  have h2 := Lib.hid (show m.kind < 0 ∨ 2 < m.kind by omega)
  clear hk
  go_enter Tryz.func94, Tryz.ntmps94
  go_wp2_with fail
  refine (l1In_no _ _ _ _ h2.out).mono ?_
  rintro e w1 ⟨rfl, rfl⟩
  go_wp2
  go_ret
  exact ⟨(ret_bool hr.out).symm, Ext.alloc _ _⟩
end Go.Proofs.YtbnhaegidfbgbaaGreatDoor
namespace Go.Proofs.YtbnhaegidfbgbaaGreatDoor
open Go.RowKit
set_option maxHeartbeats 1000000
theorem nth_mixR {xs ys : List Int} {n k j : Nat} (h1 : xs.length = n) (h2 : ys.length = n) (hj : k ≤ j) (hk : j < n) : nth (mixI xs ys k) j = nth ys j := by
 unfold nth mixI
 have hl : (xs.take k).length = k := by simp; omega
 rw [List.getD_eq_getElem?_getD, List.getElem?_append_right (by omega), List.getElem?_drop, hl, show k + (j - k) = j by omega, ← List.getD_eq_getElem?_getD]
theorem nth_ihad (b : List Int) {k : Nat} (h : k < 16) : nth (ihad b) k = (nth (had b) k + 8) / 16 := by
 have h1 : k < (had b).length := by rw [had_len]; exact h
 rw [nth_eq _ _ h1, nth_eq _ _ (by rw [ihad_len]; exact h)]
 simp [ihad]
theorem had_bdA {b : List Int} (h : bdA 1048576 b) : bdA 16777216 (had b) := bdA_of (by omega) fun j hj => by
 rw [had_len] at hj
 have := had_rng (b := b) (B := 1048576) (fun t _ => h t) hj
 omega
theorem inB_bdA {b : List Int} {B M : Int} (hB : 0 ≤ M) (h : inB B b = true) (hm : B ≤ M) : bdA M b := bdA_of hB fun j hj => by
 have := inB_iff.1 h j hj
 omega
theorem nth_map_dq (zs : List Int) (q : Nat) {k : Nat} (h : k < zs.length) : nth (zs.map (fun x => dq x q)) k = dq (nth zs k) q := by simp [nth, h]
theorem dqs_rng (zs : List Int) (q : Nat) : inB 4080 (zs.map (fun x => dq x q)) = true := inB_yes fun j hj => by
 rw [nth_map_dq _ _ (by simpa using hj)]
 exact dq_rng _ _
theorem ne_blk {a b : Nat} (h : a < b) : (some b : Option Nat) ≠ some a := by simp; omega
theorem l3Round_any (n : Int) (w : World) (h1 : -1099511627776 ≤ n) (h2 : n ≤ 1099511627776) :
 Calls Tryz.prog 180 #[.int .i64 n, .int .i64 16] w fun e w' => e = .returned (.int .i64 ((n + 8) / 16)) ∧ w = w' := by
 by_cases h0 : 0 ≤ n + 8
 ·have hd0 : decide ((n + 8) % 16 < 0) = false := by
   have := Int.emod_nonneg (n + 8) (show (16 : Int) ≠ 0 by omega)
   simp; omega
  go_enter Tryz.func180, Tryz.ntmps180
  go_wp2
  go_ret
  exact ⟨rfl, rfl⟩
 ·obtain ⟨t1, t2, t3, t4⟩ := tdiv_floor (by omega : n + 8 < 0) (show (1 : Int) ≤ 16 by omega)
  have T3 := Lib.hid t3
  have T4 := Lib.hid t4
  clear t3 t4
  by_cases hm : (n + 8).tmod 16 < 0
  ·have hd0 : decide ((n + 8).tmod 16 < 0) = true := by simpa using hm
   go_enter Tryz.func180, Tryz.ntmps180
   go_wp2
   go_ret
   exact ⟨ret_int (T3.out hm), rfl⟩
  ·have hd0 : decide ((n + 8).tmod 16 < 0) = false := by simpa using hm
   go_enter Tryz.func180, Tryz.ntmps180
   go_wp2
   go_ret
   exact ⟨ret_int (T4.out hm), rfl⟩
set_option maxRecDepth 100000 in
theorem l3Inverse_any (zs : List Int) (w : World) (hl : zs.length = 16) (hb : bdA 1048576 zs) :
 Calls Tryz.prog 165 #[.agg (ic zs)] w fun e w' => e = .returned (.agg (ic (ihad zs))) ∧ Ext w w' := by
 have Hl := Lib.hid hl
 have HB := Lib.hid hb
 have HH := Lib.hid (had_len zs)
 have HI := Lib.hid (ihad_len zs)
 have Hbd := Lib.hid (had_bdA hb)
 clear hl hb
 have a2 := Ext.alloc (w.alloc (.cells (ic zs) 29)) (.cells (ic (List.replicate 16 0)) 29)
 have p0 := (IB.new w 29 zs).ext a2
 have p1 := IB.new (w.alloc (.cells (ic zs) 29)) 29 (List.replicate 16 0)
 have E1 := (Ext.alloc w (.cells (ic zs) 29)).trans a2
 simp only [World.size_alloc] at p1
 clear a2
 go_enter Tryz.func165, Tryz.ntmps165
 go_wp2_with (refine wpList_iload 29 _ rfl rfl p0 0 16 rfl _ Tryz.underlying29 rfl size_A16 (by rw [Hl.out]; omega) _ (by rw [sub_all _ _ (Hl.out)]) ?_)
 obtain ⟨B, hB⟩ : ∃ B, B = w.heap.size := ⟨_, rfl⟩
 rw [← hB] at p0 p1 ⊢
 have hwB : w.heap.size ≤ B := by omega
 have HB0 := Lib.hid hB
 clear hB
 refine (l3Apply_any zs _ Hl.out HB.out).mono ?_
 rintro e w1 ⟨rfl, e1⟩
 have q0 := p0.ext e1
 have q1 := p1.ext e1
 have E2 := E1.trans e1
 have q2 := IB.new w1 29 (List.replicate 16 0)
 have l1 := q1.lt
 have q1a := q1.alloc (.cells (ic (List.replicate 16 0)) 29)
 have q0a := q0.alloc (.cells (ic (List.replicate 16 0)) 29)
 have E2a := E2.trans (Ext.alloc w1 (.cells (ic (List.replicate 16 0)) 29))
 have hs2 := E2.size
 clear p0 p1 E1 e1 q0 q1 E2
 go_wp2_with (refine wpList_istore 29 _ _ rfl rfl q2 0 16 rfl _ rfl _ rfl size_A16 (HH.out) (by simp) ?_; intro w2 i2 g2; refine Hid.out ?_)
 rw [spl_all (by rw [HH.out]; simp)] at i2
 have E3 : Ext w w2 := Ext.grown E2a g2 (fun k e => by cases e; omega)
 have q0 := q0a.gr g2 (ne_blk (by omega))
 have q1 := q1a.gr g2 (ne_blk (by omega))
 obtain ⟨O, hO⟩ : ∃ O, O = w1.heap.size := ⟨_, rfl⟩
 rw [← hO] at i2 l1 ⊢
 have hwO : w.heap.size ≤ O := by omega
 have HO := Lib.hid hO
 clear hO hs2 q0a q1a E2a q2 g2
 refine Lib.hid ?_
 go_wp2_with fail
 go_loopw [4] (fun i wr => ∃ k : Nat, k ≤ 16 ∧ i = .int .i64 k ∧ Ext w wr ∧ IB wr (B + 1) 29 (List.replicate 16 0) ∧ IB wr O 29 (mixI (ihad zs) (had zs) k)) (fun i _ => 16 - (intOf i).toNat)
 case atStart => exact ⟨0, by omega, rfl, E3, q1, by rw [mixI_zero]; exact i2⟩
 case round =>
  obtain ⟨k, hk, rfl, E4, r1, r2⟩ := hrel
  clear q0 q1 i2 E3
  by_cases hlt : k < 16
  ·have hd : decide ((k : Int) < 16) = true := by simp; omega
   have c0 := r2.cell (i := k) (by rw [mixI_len _ _ _ 16 HI.out HH.out]; exact hlt)
   rw [nth_mixR HI.out HH.out (Nat.le_refl _) hlt] at c0
   have f0 := r2.frozen k
   have hbk := Hbd.out k
   have hset := mixI_set (ihad zs) (had zs) k 16 HI.out HH.out hlt
   rw [nth_ihad _ hlt] at hset
   have Hset := Lib.hid hset
   clear hset
   generalize nth (had zs) k = z at *
   go_wp2_with fail
   refine (l3Round_any z _ (by omega) (by omega)).mono ?_
   rintro e w3 ⟨rfl, rfl⟩
   go_wp2
   go_roundw
   case rel => exact ⟨k + 1, by omega, by go_num, Ext.grown E4 (gr_set _ _ _ _) (fun q hq => by cases hq; omega), r1.set_other (by omega), by rw [← Hset.out]; exact r2.set k _⟩
   case measure => simp [intOf]; omega
  ·obtain rfl : k = 16 := by omega
   rw [mixI_all _ _ 16 HI.out HH.out] at r2
   go_wp2_with (first | (refine wpList_iload 29 _ rfl rfl r2 0 16 rfl _ Tryz.underlying29 rfl size_A16 (by rw [HI.out]; omega) _ (by rw [sub_all _ _ (HI.out)]) ?_) | (refine wpList_istore 29 _ _ rfl rfl r1 0 16 rfl _ rfl _ rfl size_A16 (HI.out) (by simp) ?_; intro w6 p6 g6; refine Hid.out ?_))
   rw [spl_all (by rw [HI.out]; simp)] at p6
   have E6 : Ext w w6 := Ext.grown E4 g6 (fun q hq => by cases hq; omega)
   refine Lib.hid ?_
   go_wp2
   exact bodyPost_ret (v := .agg (ic (ihad zs))) (results_cell_row rfl _ _ (B + 1) 29 (ic (ihad zs)) (0, 0) _ rfl p6 Tryz.underlying29 rfl (by rw [ic_size, ihad_len]; exact size_A16)) rfl ⟨rfl, E6⟩
set_option maxRecDepth 100000 in
theorem InverseTransform_any (zs : List Int) (w : World) (hl : zs.length = 16) (hb : inB 4080 zs = true) :
 Calls Tryz.prog 127 #[.agg (ic zs)] w fun e w' => e = .returned (.agg (ic (ihad zs))) ∧ Ext w w' := by
 have hbA := inB_bdA (M := 1048576) (by omega) hb (by omega)
 have Hl := Lib.hid hl
 have HB := Lib.hid hbA
 have HW := Lib.hid hb
 have HH := Lib.hid (had_len zs)
 have HI := Lib.hid (ihad_len zs)
 have Hbd := Lib.hid (had_bdA hbA)
 clear hl hb hbA
 have a2 := Ext.alloc (w.alloc (.cells (ic zs) 29)) (.cells (ic (List.replicate 16 0)) 29)
 have p0 := (IB.new w 29 zs).ext a2
 have p1 := IB.new (w.alloc (.cells (ic zs) 29)) 29 (List.replicate 16 0)
 have E1 := (Ext.alloc w (.cells (ic zs) 29)).trans a2
 simp only [World.size_alloc] at p1
 clear a2
 go_enter Tryz.func127, Tryz.ntmps127
 go_wp2_with (refine wpList_iload 29 _ rfl rfl p0 0 16 rfl _ Tryz.underlying29 rfl size_A16 (by rw [Hl.out]; omega) _ (by rw [sub_all _ _ (Hl.out)]) ?_)
 obtain ⟨B, hB⟩ : ∃ B, B = w.heap.size := ⟨_, rfl⟩
 rw [← hB] at p0 p1 ⊢
 have hwB : w.heap.size ≤ B := by omega
 have HB0 := Lib.hid hB
 clear hB
 refine (impl_blockWithin_any zs 4080 _ Hl.out (by omega) (by omega)).mono ?_
 rw [HW.out]
 rintro e w0 ⟨rfl, e0⟩
 have p0a := p0.ext e0
 have p1a := p1.ext e0
 have E0a := E1.trans e0
 clear p0 p1 E1 e0
 have p0 := p0a
 have p1 := p1a
 have E1 := E0a
 clear p0a p1a E0a
 go_wp2_with (refine wpList_iload 29 _ rfl rfl p0 0 16 rfl _ Tryz.underlying29 rfl size_A16 (by rw [Hl.out]; omega) _ (by rw [sub_all _ _ (Hl.out)]) ?_)
 refine (hadamard_any zs _ Hl.out HB.out).mono ?_
 rintro e w1 ⟨rfl, e1⟩
 have q0 := p0.ext e1
 have q1 := p1.ext e1
 have E2 := E1.trans e1
 have q2 := IB.new w1 29 (List.replicate 16 0)
 have l1 := q1.lt
 have q1a := q1.alloc (.cells (ic (List.replicate 16 0)) 29)
 have q0a := q0.alloc (.cells (ic (List.replicate 16 0)) 29)
 have E2a := E2.trans (Ext.alloc w1 (.cells (ic (List.replicate 16 0)) 29))
 have hs2 := E2.size
 clear p0 p1 E1 e1 q0 q1 E2
 go_wp2_with (refine wpList_istore 29 _ _ rfl rfl q2 0 16 rfl _ rfl _ rfl size_A16 (HH.out) (by simp) ?_; intro w2 i2 g2; refine Hid.out ?_)
 rw [spl_all (by rw [HH.out]; simp)] at i2
 have E3 : Ext w w2 := Ext.grown E2a g2 (fun k e => by cases e; omega)
 have q0 := q0a.gr g2 (ne_blk (by omega))
 have q1 := q1a.gr g2 (ne_blk (by omega))
 obtain ⟨O, hO⟩ : ∃ O, O = w1.heap.size := ⟨_, rfl⟩
 rw [← hO] at i2 l1 ⊢
 have hwO : w.heap.size ≤ O := by omega
 have HO := Lib.hid hO
 clear hO hs2 q0a q1a E2a q2 g2
 refine Lib.hid ?_
 go_wp2_with (refine wpList_iload 29 _ rfl rfl i2 0 16 rfl _ Tryz.underlying29 rfl size_A16 (by rw [HH.out]; omega) _ (by rw [sub_all _ _ (HH.out)]) ?_)
 go_loopw [13] (fun i wr => ∃ k : Nat, k ≤ 16 ∧ i = .int .i64 k ∧ Ext w wr ∧ IB wr (B + 1) 29 (List.replicate 16 0) ∧ IB wr O 29 (mixI (ihad zs) (had zs) k)) (fun i _ => 16 - (intOf i).toNat)
 case atStart => exact ⟨0, by omega, rfl, E3, q1, by rw [mixI_zero]; exact i2⟩
 case round =>
  obtain ⟨k, hk, rfl, E4, r1, r2⟩ := hrel
  clear q0 q1 i2 E3
  by_cases hlt : k < 16
  ·have hd : decide ((k : Int) < 16) = true := by simp; omega
   have c0 := r2.cell (i := k) (by rw [mixI_len _ _ _ 16 HI.out HH.out]; exact hlt)
   have f0 := r2.frozen k
   have hbk := Hbd.out k
   have hset := mixI_set (ihad zs) (had zs) k 16 HI.out HH.out hlt
   rw [nth_ihad _ hlt] at hset
   have Hset := Lib.hid hset
   clear hset
   go_wp2_with (refine wpList_iindex _ _ _ rfl rfl (had zs) rfl k 16 _ rfl rfl _ Tryz.underlying29 Tryz.underlying3 size_int hlt HH.out ?_)
   go_roundw
   case rel => exact ⟨k + 1, by omega, by go_num, Ext.grown E4 (gr_set _ _ _ _) (fun q hq => by cases hq; omega), r1.set_other (by omega), by rw [← Hset.out]; exact r2.set k _⟩
   case measure => simp [intOf]; omega
  ·obtain rfl : k = 16 := by omega
   rw [mixI_all _ _ 16 HI.out HH.out] at r2
   go_wp2_with (first | (refine wpList_iload 29 _ rfl rfl r2 0 16 rfl _ Tryz.underlying29 rfl size_A16 (by rw [HI.out]; omega) _ (by rw [sub_all _ _ (HI.out)]) ?_) | (refine wpList_istore 29 _ _ rfl rfl r1 0 16 rfl _ rfl _ rfl size_A16 (HI.out) (by simp) ?_; intro w6 p6 g6; refine Hid.out ?_))
   rw [spl_all (by rw [HI.out]; simp)] at p6
   have E6 : Ext w w6 := Ext.grown E4 g6 (fun q hq => by cases hq; omega)
   refine Lib.hid ?_
   go_wp2
   exact bodyPost_ret (v := .agg (ic (ihad zs))) (results_cell_row rfl _ _ (B + 1) 29 (ic (ihad zs)) (0, 0) _ rfl p6 Tryz.underlying29 rfl (by rw [ic_size, ihad_len]; exact size_A16)) rfl ⟨rfl, E6⟩
end Go.Proofs.YtbnhaegidfbgbaaGreatDoor
namespace Go.Proofs.YtbnhaegidfbgbaaGreatDoor
open Go.RowKit
set_option maxHeartbeats 1000000
theorem ifT {α : Type} (x y : α) : (if true = true then x else y) = x := rfl
theorem ifF {α : Type} (x y : α) : (if false = true then x else y) = y := rfl
set_option maxRecDepth 100000 in
theorem DecodeBlock_any (zs : List Int) (q : Nat) (w : World) (hT : TabQ w) (hl : zs.length = 16) (hb : inB 4080 zs = true) (hq : q < 16) :
 Calls Tryz.prog 79 #[.agg (ic zs), .int .i64 q] w fun e w' => e = .returned (.agg (ic (dec zs q))) ∧ Ext w w' := by
 have Hbd := Lib.hid (fun k (hk : k < 16) => inB_iff.1 hb k (by omega))
 have Hnd := Lib.hid (fun k (hk : k < 16) => nth_map_dq zs q (k := k) (by omega))
 have HD := Lib.hid (show (zs.map (fun x => dq x q)).length = 16 by simp [hl])
 have HDr := Lib.hid (dqs_rng zs q)
 have Hde := Lib.hid (show dec zs q = ihad (zs.map (fun x => dq x q)) from rfl)
 obtain ⟨D, hD⟩ : ∃ D, D = zs.map (fun x => dq x q) := ⟨_, rfl⟩
 rw [← hD] at Hnd HD HDr Hde
 have Hl := Lib.hid hl
 have HW := Lib.hid hb
 have HT := Lib.hid hT
 clear hl hb hT hD
 have a2 := Ext.alloc (w.alloc (.cells (ic zs) 29)) (.cells (ic (List.replicate 16 0)) 29)
 have p0 := (IB.new w 29 zs).ext a2
 have p1 := IB.new (w.alloc (.cells (ic zs) 29)) 29 (List.replicate 16 0)
 have E1 := (Ext.alloc w (.cells (ic zs) 29)).trans a2
 simp only [World.size_alloc] at p1
 clear a2
 go_enter Tryz.func79, Tryz.ntmps79
 go_wp2_with fail
 obtain ⟨B, hB⟩ : ∃ B, B = w.heap.size := ⟨_, rfl⟩
 rw [← hB] at p0 p1 ⊢
 have hwB : w.heap.size ≤ B := by omega
 have HB0 := Lib.hid hB
 clear hB
 refine (qualityValid_in _ _ (by omega) (by omega)).mono ?_
 rintro e w0 ⟨rfl, rfl⟩
 go_wp2_with (refine wpList_iload 29 _ rfl rfl p0 0 16 rfl _ Tryz.underlying29 rfl size_A16 (by rw [Hl.out]; omega) _ (by rw [sub_all _ _ (Hl.out)]) ?_)
 refine (impl_blockWithin_any zs 4080 _ Hl.out (by omega) (by omega)).mono ?_
 rw [HW.out]
 rintro e w0 ⟨rfl, e0⟩
 have q0 := p0.ext e0
 have q1 := p1.ext e0
 have E3 := E1.trans e0
 clear p0 p1 E1 e0
 go_wp2_with (refine wpList_iload 29 _ rfl rfl q0 0 16 rfl _ Tryz.underlying29 rfl size_A16 (by rw [Hl.out]; omega) _ (by rw [sub_all _ _ (Hl.out)]) ?_)
 go_loopw [17] (fun i wr => ∃ k : Nat, k ≤ 16 ∧ i = .int .i64 k ∧ Ext w wr ∧ IB wr B 29 (mixI D zs k) ∧ IB wr (B + 1) 29 (List.replicate 16 0)) (fun i _ => 16 - (intOf i).toNat)
 case atStart => exact ⟨0, by omega, rfl, E3, by rw [mixI_zero]; exact q0, q1⟩
 case round =>
  obtain ⟨k, hk, rfl, E4, r0, r1⟩ := hrel
  clear q0 q1 E3
  by_cases hlt : k < 16
  ·have hd : decide ((k : Int) < 16) = true := by simp; omega
   have hbk := Hbd.out k hlt
   have hset := mixI_set D zs k 16 HD.out Hl.out hlt
   rw [Hnd.out k hlt] at hset
   have Hset := Lib.hid hset
   have c0 := r0.cell (i := k) (by rw [mixI_len _ _ _ 16 HD.out Hl.out]; exact hlt)
   have f0 := r0.frozen k
   clear hset
   go_wp2_with (refine wpList_iindex _ _ _ rfl rfl zs rfl k 16 _ rfl rfl _ Tryz.underlying29 Tryz.underlying3 size_int hlt Hl.out ?_)
   refine (impl_Dequantize_in (nth zs k) q _ (HT.out.ext E4) hbk.1 hbk.2 hq).mono ?_
   rintro e w3 ⟨rfl, rfl⟩
   go_wp2
   go_roundw
   case rel => exact ⟨k + 1, by omega, by go_num, Ext.grown E4 (gr_set _ _ _ _) (fun q hq => by cases hq; omega), by rw [← Hset.out]; exact r0.set k _, r1.set_other (by omega)⟩
   case measure => simp [intOf]; omega
  ·obtain rfl : k = 16 := by omega
   rw [mixI_all _ _ 16 HD.out Hl.out] at r0
   go_wp2_with (refine wpList_iload 29 _ rfl rfl r0 0 16 rfl _ Tryz.underlying29 rfl size_A16 (by rw [HD.out]; omega) _ (by rw [sub_all _ _ (HD.out)]) ?_)
   refine (InverseTransform_any D _ HD.out HDr.out).mono ?_
   rintro e w5 ⟨rfl, e5⟩
   have s1 := r1.ext e5
   have E5 := E4.trans e5
   have HI := Lib.hid (ihad_len D)
   clear r0 r1 E4 e5
   go_wp2_with (refine wpList_istore 29 _ _ rfl rfl s1 0 16 rfl _ rfl _ rfl size_A16 (HI.out) (by simp) ?_; intro w6 p6 g6; refine Hid.out ?_)
   rw [spl_all (by rw [HI.out]; simp)] at p6
   have E6 : Ext w w6 := Ext.grown E5 g6 (fun q hq => by cases hq; omega)
   refine Lib.hid ?_
   go_wp2
   exact bodyPost_ret (v := .agg (ic (dec zs q))) (results_cell_row rfl _ _ (B + 1) 29 (ic (dec zs q)) (0, 0) _ rfl (by rw [Hde.out]; exact p6) Tryz.underlying29 rfl (by rw [ic_size, dec_len]; exact size_A16)) rfl ⟨rfl, E6⟩
set_option maxRecDepth 100000 in
theorem l4Decode_any (zs : List Int) (q : Nat) (w : World) (hl : zs.length = 16) (hb : inB 4080 zs = true) (hq : q < 16) :
 Calls Tryz.prog 143 #[.agg (ic zs), .int .i64 q] w fun e w' => e = .returned (.agg (ic (dec zs q))) ∧ Ext w w' := by
 have Hbd := Lib.hid (fun k (hk : k < 16) => inB_iff.1 hb k (by omega))
 have Hnd := Lib.hid (fun k (hk : k < 16) => nth_map_dq zs q (k := k) (by omega))
 have HD := Lib.hid (show (zs.map (fun x => dq x q)).length = 16 by simp [hl])
 have HDr := Lib.hid (inB_bdA (M := 1048576) (by omega) (dqs_rng zs q) (by omega))
 have Hde := Lib.hid (show dec zs q = ihad (zs.map (fun x => dq x q)) from rfl)
 obtain ⟨D, hD⟩ : ∃ D, D = zs.map (fun x => dq x q) := ⟨_, rfl⟩
 rw [← hD] at Hnd HD HDr Hde
 have Hl := Lib.hid hl
 have Hz := Lib.hid (show (List.replicate 16 (0 : Int)).length = 16 by simp)
 have hs := stp_rng hq
 have HQ := Lib.hid (fun w => spec_QuantStep_in q w hq)
 have Hdq := Lib.hid (fun l => show dq l q = clipI (l * stp q) (-4080) 4080 from rfl)
 generalize stp q = s at *
 clear hl hb hD
 have a2 := Ext.alloc (w.alloc (.cells (ic zs) 29)) (.cells (ic (List.replicate 16 0)) 29)
 have a3 := Ext.alloc ((w.alloc (.cells (ic zs) 29)).alloc (.cells (ic (List.replicate 16 0)) 29)) (.cells (ic (List.replicate 16 0)) 29)
 have p0 := ((IB.new w 29 zs).ext a2).ext a3
 have p1 := (IB.new (w.alloc (.cells (ic zs) 29)) 29 (List.replicate 16 0)).ext a3
 have p2 := IB.new ((w.alloc (.cells (ic zs) 29)).alloc (.cells (ic (List.replicate 16 0)) 29)) 29 (List.replicate 16 0)
 have E1 := ((Ext.alloc w (.cells (ic zs) 29)).trans a2).trans a3
 simp only [World.size_alloc] at p1 p2
 clear a2 a3
 go_enter Tryz.func143, Tryz.ntmps143
 go_wp2_with fail
 try simp only [World.size_alloc]
 obtain ⟨B, hB⟩ : ∃ B, B = w.heap.size := ⟨_, rfl⟩
 rw [← hB] at p0 p1 p2 ⊢
 have hwB : w.heap.size ≤ B := by omega
 have HB0 := Lib.hid hB
 clear hB
 go_loopw [6] (fun i wr => ∃ k : Nat, k ≤ 16 ∧ i = .int .i64 k ∧ Ext w wr ∧ IB wr B 29 zs ∧ IB wr (B + 1) 29 (List.replicate 16 0) ∧ IB wr (B + 1 + 1) 29 (mixI D (List.replicate 16 0) k)) (fun i _ => 16 - (intOf i).toNat)
 case atStart => exact ⟨0, by omega, rfl, E1, p0, p1, by rw [mixI_zero]; exact p2⟩
 case round =>
  obtain ⟨k, hk, rfl, E4, r0, r1, r2⟩ := hrel
  clear p0 p1 p2 E1
  by_cases hlt : k < 16
  ·have hd : decide ((k : Int) < 16) = true := by simp; omega
   have hbk := Hbd.out k hlt
   have hset := mixI_set D (List.replicate 16 0) k 16 HD.out Hz.out hlt
   rw [Hnd.out k hlt, Hdq.out] at hset
   have Hset := Lib.hid hset
   have c0 := Lib.hid (fun (wx : World) (h : IB wx B 29 zs) => h.cell (i := k) (by rw [Hl.out]; exact hlt))
   clear hset
   generalize nth zs k = z at *
   have hm := mul_bnd hbk.1 hbk.2 hs.1 hs.2
   obtain ⟨v, hv⟩ : ∃ v, v = clipI (z * s) (-4080) 4080 := ⟨_, rfl⟩
   rw [← hv] at Hset
   have HV := Lib.hid hv
   clear hv
   have HM := Lib.hid (fun (k : Nat) (hk : k ≤ 16) => mixI_len D (List.replicate 16 0) k 16 HD.out Hz.out)
   have G0 : Ext w wr ∧ IB wr B 29 zs ∧ IB wr (B + 1) 29 (List.replicate 16 0) ∧ IB wr (B + 1 + 1) 29 (mixI D (List.replicate 16 0) k) := ⟨E4, r0, r1, r2⟩
   clear E4 r0 r1 r2
   go_wp2_with fail
   refine wp_region_invL (by kernel_rfl) [(12, 0), (13, 1), (14, 2), (15, 3), (16, 4), (17, 5), (18, 6), (19, 7), (20, 8)] [[], [], [1], [1, 2], [], [4], [1, 2, 3, 4, 5], [1, 2, 3, 4, 5, 6], [0, 1, 2, 3, 4, 5, 6, 7], [0, 1, 2, 3, 4, 5, 6, 7, 8]] (fun i own ys wx => match i with | 0 => own = .int .i64 (k : Nat) | 1 => own = .int .i64 (k : Nat) | 2 => own = .pointer (some ⟨B, k, none⟩) | 3 => own = .int .i64 z | 4 => own = .int .i64 (q : Nat) | 5 => own = .int .i64 s | 6 => own = .int .i64 (z * s) | 7 => own = .int .i64 v | 8 => own = .pointer (some ⟨B + 1 + 1, k, none⟩) | 9 => True | _ => True) (fun Lx wx => Ext w wx ∧ IB wx B 29 zs ∧ IB wx (B + 1) 29 (List.replicate 16 0) ∧ IB wx (B + 1 + 1) 29 (if Lx 9 = true then mixI D (List.replicate 16 0) (k + 1) else mixI D (List.replicate 16 0) k)) (by kernel_rfl) (by kernel_rfl) (by kernel_rfl) ?g0_r1 ?gop_r1 ?gend_r1
   case g0_r1 => exact ⟨Ext.trans_drewN G0.1 1, G0.2.1.drewN 1, G0.2.2.1.drewN 1, G0.2.2.2.drewN 1⟩
   case gop_r1 =>
    refine ⟨?_, ?_, ?o2, ?o3, ?_, ?o5, ?o6, ?o7, ?o8, ?o9, trivial⟩ <;> (intro Lx xs wx hG hl ha hb hD hI Qo Kx hK hQo; simp only [patchS, Nat.reduceAdd, Nat.reduceEqDiff, ↓reduceIte] at hQo ⊢)
    case o2 =>
     have l9 : Lx 9 = false := hb 9 rfl
     clear hl ha hb
     have d1 : _ = _ := hD 1 rfl
     clear hD hI
     generalize xs 1 = y1 at *
     subst d1
     go_wp2
     exact hK.out _ _ ⟨rfl, hG, fun _ _ _ _ _ _ h => h⟩
    case o3 =>
     have l9 : Lx 9 = false := hb 9 rfl
     clear hl ha hb
     have d2 : _ = _ := hD 2 rfl
     clear hD hI
     generalize xs 2 = y2 at *
     subst d2
     have cx := c0.out wx hG.2.1
     go_wp2
     exact hK.out _ _ ⟨rfl, hG, fun _ _ _ _ _ _ h => h⟩
    case o5 =>
     have l9 : Lx 9 = false := hb 9 rfl
     clear hl ha hb
     have d4 : _ = _ := hD 4 rfl
     clear hD hI
     generalize xs 4 = y4 at *
     subst d4
     go_wp2_with fail
     refine (HQ.out _).mono ?_
     rintro e w9 ⟨rfl, e9⟩
     go_wp2
     exact hK.out _ _ ⟨rfl, ⟨hG.1.trans e9, hG.2.1.ext e9, hG.2.2.1.ext e9, hG.2.2.2.ext e9⟩, fun _ _ _ _ _ _ h => h⟩
    case o6 =>
     have l9 : Lx 9 = false := hb 9 rfl
     clear hl ha hb
     have d3 : _ = _ := hD 3 rfl
     have d5 : _ = _ := hD 5 rfl
     clear hD hI
     generalize xs 3 = y3 at *
     generalize xs 5 = y5 at *
     subst d3 d5
     go_wp2
     exact hK.out _ _ ⟨rfl, hG, fun _ _ _ _ _ _ h => h⟩
    case o7 =>
     have l9 : Lx 9 = false := hb 9 rfl
     clear hl ha hb
     have d6 : _ = _ := hD 6 rfl
     clear hD hI
     generalize xs 6 = y6 at *
     subst d6
     go_wp2_with fail
     refine (l1Clip_any _ _ _ _).mono ?_
     rintro e w9 ⟨rfl, rfl⟩
     rw [← HV.out]
     go_wp2
     exact hK.out _ _ ⟨rfl, hG, fun _ _ _ _ _ _ h => h⟩
    case o8 =>
     have l9 : Lx 9 = false := hb 9 rfl
     clear hl ha hb
     have d0 : _ = _ := hD 0 rfl
     clear hD hI
     generalize xs 0 = y0 at *
     subst d0
     go_wp2
     exact hK.out _ _ ⟨rfl, hG, fun _ _ _ _ _ _ h => h⟩
    case o9 =>
     have l9 : Lx 9 = false := hl
     clear hl ha hb
     have d7 : _ = _ := hD 7 rfl
     have d8 : _ = _ := hD 8 rfl
     clear hD hI
     generalize xs 7 = y7 at *
     generalize xs 8 = y8 at *
     subst d7 d8
     rw [l9, ifF] at hG
     have cx := hG.2.2.2.cell (i := k) (by rw [HM.out k hk]; exact hlt)
     have fx := hG.2.2.2.frozen k
     have s2 := hG.2.2.2.set k v
     rw [Hset.out] at s2
     have gE := Ext.grown hG.1 (gr_set _ (B + 1 + 1) k (.int .i64 v)) (fun q hq => by cases hq; omega)
     have g0' := hG.2.1.set_other (c := B + 1 + 1) (i := k) (v := .int .i64 v) (by omega)
     have g1' := hG.2.2.1.set_other (c := B + 1 + 1) (i := k) (v := .int .i64 v) (by omega)
     go_wp2
     exact hQo undef _ (hK.out _ _ ⟨trivial, ⟨gE, g0', g1', s2⟩, fun _ _ _ _ _ _ h => h⟩)
    all_goals
     have l9 : Lx 9 = false := hb 9 rfl
     clear hl ha hb hD hI
     go_wp2
     exact hK.out _ _ ⟨rfl, hG, fun _ _ _ _ _ _ h => h⟩
   intro xs wx hV hG0
   obtain ⟨Lx, hL, hG⟩ := hG0
   have l9 : Lx 9 = true := hL 9 (by decide)
   clear hL hV
   simp only [patchS, Nat.reduceAdd, Nat.reduceEqDiff, ↓reduceIte]
   generalize xs 0 = y0 at *
   generalize xs 1 = y1 at *
   generalize xs 2 = y2 at *
   generalize xs 3 = y3 at *
   generalize xs 4 = y4 at *
   generalize xs 5 = y5 at *
   generalize xs 6 = y6 at *
   generalize xs 7 = y7 at *
   generalize xs 8 = y8 at *
   generalize xs 9 = y9 at *
   replace hG : Ext w wx ∧ IB wx B 29 zs ∧ IB wx (B + 1) 29 (List.replicate 16 0) ∧ IB wx (B + 1 + 1) 29 (if Lx 9 = true then mixI D (List.replicate 16 0) (k + 1) else mixI D (List.replicate 16 0) k) := hG
   rw [l9, ifT] at hG
   clear G0 c0
   obtain ⟨E5, s0, s1, s2⟩ := hG
   go_wp2
   go_roundw
   case rel => exact ⟨k + 1, by omega, by go_num, E5, s0, s1, s2⟩
   case measure => simp [intOf]; omega
  ·obtain rfl : k = 16 := by omega
   rw [mixI_all _ _ 16 HD.out Hz.out] at r2
   go_wp2_with (refine wpList_iload 29 _ rfl rfl r2 0 16 rfl _ Tryz.underlying29 rfl size_A16 (by rw [HD.out]; omega) _ (by rw [sub_all _ _ (HD.out)]) ?_)
   refine (l3Inverse_any D _ HD.out HDr.out).mono ?_
   rintro e w5 ⟨rfl, e5⟩
   have s1 := r1.ext e5
   have E5 := E4.trans e5
   have HI := Lib.hid (ihad_len D)
   clear r0 r1 r2 E4 e5
   go_wp2_with (refine wpList_istore 29 _ _ rfl rfl s1 0 16 rfl _ rfl _ rfl size_A16 (HI.out) (by simp) ?_; intro w6 p6 g6; refine Hid.out ?_)
   rw [spl_all (by rw [HI.out]; simp)] at p6
   have E6 : Ext w w6 := Ext.grown E5 g6 (fun q hq => by cases hq; omega)
   refine Lib.hid ?_
   go_wp2
   exact bodyPost_ret (v := .agg (ic (dec zs q))) (results_cell_row rfl _ _ (B + 1) 29 (ic (dec zs q)) (0, 0) _ rfl (by rw [Hde.out]; exact p6) Tryz.underlying29 rfl (by rw [ic_size, dec_len]; exact size_A16)) rfl ⟨rfl, E6⟩
end Go.Proofs.YtbnhaegidfbgbaaGreatDoor
namespace Go.Proofs.YtbnhaegidfbgbaaGreatDoor
open Go.RowKit
set_option maxHeartbeats 1000000
theorem lenZ : (List.replicate 16 (0 : Int)).length = 16 := by simp
set_option maxRecDepth 100000 in
theorem partOf_any (L : List Int) (x y : Nat) (hx : x ≤ 4) (hy : y ≤ 4) (a : Option Addr) (c : Nat) (w : World) (r : Sl w a 64 (L.map (Value.int .i64))) :
 Calls Tryz.prog 72 #[.slice a 64 c, .int .i64 (x : Nat), .int .i64 (y : Nat)] w fun e w' => e = .returned (.agg (ic (pof L (x) (y)))) ∧ Ext w w' := by
 have HI := Lib.hid (pof_len L (x) (y))
 have a2 := Ext.alloc (w.alloc (.cells (ic (List.replicate 16 0)) 29)) (.cells (ic (List.replicate 16 0)) 29)
 have p0 := (IB.new w 29 (List.replicate 16 0)).ext a2
 have p1 := IB.new (w.alloc (.cells (ic (List.replicate 16 0)) 29)) 29 (List.replicate 16 0)
 have E1 := (Ext.alloc w (.cells (ic (List.replicate 16 0)) 29)).trans a2
 simp only [World.size_alloc] at p1
 clear a2
 go_enter Tryz.func72, Tryz.ntmps72
 go_wp2_with fail
 try simp only [World.size_alloc]
 obtain ⟨B, hB⟩ : ∃ B, B = w.heap.size := ⟨_, rfl⟩
 rw [← hB] at p0 p1 ⊢
 have hwB : w.heap.size ≤ B := by omega
 have HB0 := Lib.hid hB
 clear hB
 go_loopw [9] (fun i wr => ∃ k : Nat, k ≤ 16 ∧ i = .int .i64 k ∧ Ext w wr ∧ IB wr B 29 (List.replicate 16 0) ∧ IB wr (B + 1) 29 (mixI (pof L (x) (y)) (List.replicate 16 0) k)) (fun i _ => 16 - (intOf i).toNat)
 case atStart => exact ⟨0, by omega, rfl, E1, p0, by rw [mixI_zero]; exact p1⟩
 case round =>
  obtain ⟨k, hk, rfl, E4, r0, r1⟩ := hrel
  clear p0 p1 E1
  by_cases hlt : k < 16
  ·have hd : decide ((k : Int) < 16) = true := by simp; omega
   have hset := mixI_set (pof L (x) (y)) (List.replicate 16 0) k 16 HI.out lenZ hlt
   rw [nth_pof _ _ _ hlt] at hset
   have Hset := Lib.hid hset
   have c1 := r1.cell (i := k) (by rw [mixI_len _ _ _ 16 HI.out lenZ]; exact hlt)
   have f1 := r1.frozen k
   obtain ⟨q, hq⟩ : ∃ q, q = (y + k / 4) * 8 + x + k % 4 := ⟨_, rfl⟩
   rw [← hq] at Hset
   have hq64 : q < 64 := by omega
   obtain ⟨b, off, rfl, hc⟩ := (r.ext E4).int hq64
   have HQ := Lib.hid hq
   have hcc : wr.cell? ⟨b, off + ((y + k / 4) * 8 + x + k % 4), none⟩ = some (.int .i64 (nth L q)) := by rw [← HQ.out]; exact hc
   clear hset hq hc
   generalize nth L q = z at *
   go_wp2
   go_roundw
   case rel => exact ⟨k + 1, by omega, by go_num, Ext.grown E4 (gr_set _ _ _ _) (fun q hq => by cases hq; omega), r0.set_other (by omega), by rw [← Hset.out]; exact r1.set k _⟩
   case measure => simp [intOf]; omega
  ·obtain rfl : k = 16 := by omega
   rw [mixI_all _ _ 16 HI.out lenZ] at r1
   go_wp2_with (first | (refine wpList_iload 29 _ rfl rfl r1 0 16 rfl _ Tryz.underlying29 rfl size_A16 (by rw [HI.out]; omega) _ (by rw [sub_all _ _ (HI.out)]) ?_) | (refine wpList_istore 29 _ _ rfl rfl r0 0 16 rfl _ rfl _ rfl size_A16 (HI.out) (by simp) ?_; intro w6 p6 g6; refine Hid.out ?_))
   rw [spl_all (by rw [HI.out]; simp)] at p6
   have E6 : Ext w w6 := Ext.grown E4 g6 (fun q hq => by cases hq; omega)
   refine Lib.hid ?_
   go_wp2
   exact bodyPost_ret (v := .agg (ic (pof L (x) (y)))) (results_cell_row rfl _ _ B 29 (ic (pof L (x) (y))) (0, 0) _ rfl p6 Tryz.underlying29 rfl (by rw [ic_size, pof_len]; exact size_A16)) rfl ⟨rfl, E6⟩
set_option maxRecDepth 100000 in
theorem l8Part_any (L : List Int) (u : Nat) (hu : u < 4) (a : Option Addr) (c : Nat) (w : World) (r : Sl w a 64 (L.map (Value.int .i64))) :
 Calls Tryz.prog 141 #[.slice a 64 c, .int .i64 (u : Nat)] w fun e w' => e = .returned (.agg (ic (pof L (u % 2 * 4) (u / 2 * 4)))) ∧ Ext w w' := by
 have HI := Lib.hid (pof_len L (u % 2 * 4) (u / 2 * 4))
 have a2 := Ext.alloc (w.alloc (.cells (ic (List.replicate 16 0)) 29)) (.cells (ic (List.replicate 16 0)) 29)
 have p0 := (IB.new w 29 (List.replicate 16 0)).ext a2
 have p1 := IB.new (w.alloc (.cells (ic (List.replicate 16 0)) 29)) 29 (List.replicate 16 0)
 have E1 := (Ext.alloc w (.cells (ic (List.replicate 16 0)) 29)).trans a2
 simp only [World.size_alloc] at p1
 clear a2
 go_enter Tryz.func141, Tryz.ntmps141
 go_wp2_with fail
 try simp only [World.size_alloc]
 obtain ⟨B, hB⟩ : ∃ B, B = w.heap.size := ⟨_, rfl⟩
 rw [← hB] at p0 p1 ⊢
 have hwB : w.heap.size ≤ B := by omega
 have HB0 := Lib.hid hB
 clear hB
 go_loopw [6] (fun i wr => ∃ k : Nat, k ≤ 16 ∧ i = .int .i64 k ∧ Ext w wr ∧ IB wr B 29 (List.replicate 16 0) ∧ IB wr (B + 1) 29 (mixI (pof L (u % 2 * 4) (u / 2 * 4)) (List.replicate 16 0) k)) (fun i _ => 16 - (intOf i).toNat)
 case atStart => exact ⟨0, by omega, rfl, E1, p0, by rw [mixI_zero]; exact p1⟩
 case round =>
  obtain ⟨k, hk, rfl, E4, r0, r1⟩ := hrel
  clear p0 p1 E1
  by_cases hlt : k < 16
  ·have hd : decide ((k : Int) < 16) = true := by simp; omega
   have hset := mixI_set (pof L (u % 2 * 4) (u / 2 * 4)) (List.replicate 16 0) k 16 HI.out lenZ hlt
   rw [nth_pof _ _ _ hlt] at hset
   have Hset := Lib.hid hset
   have c1 := r1.cell (i := k) (by rw [mixI_len _ _ _ 16 HI.out lenZ]; exact hlt)
   have f1 := r1.frozen k
   obtain ⟨q, hq⟩ : ∃ q, q = (u / 2 * 4 + k / 4) * 8 + u % 2 * 4 + k % 4 := ⟨_, rfl⟩
   rw [← hq] at Hset
   have hq64 : q < 64 := by omega
   obtain ⟨b, off, rfl, hc⟩ := (r.ext E4).int hq64
   have HQ := Lib.hid hq
   have hcc : wr.cell? ⟨b, off + ((u / 2 * 4 + k / 4) * 8 + u % 2 * 4 + k % 4), none⟩ = some (.int .i64 (nth L q)) := by rw [← HQ.out]; exact hc
   clear hset hq hc
   generalize nth L q = z at *
   go_wp2
   go_roundw
   case rel => exact ⟨k + 1, by omega, by go_num, Ext.grown E4 (gr_set _ _ _ _) (fun q hq => by cases hq; omega), r0.set_other (by omega), by rw [← Hset.out]; exact r1.set k _⟩
   case measure => simp [intOf]; omega
  ·obtain rfl : k = 16 := by omega
   rw [mixI_all _ _ 16 HI.out lenZ] at r1
   go_wp2_with (first | (refine wpList_iload 29 _ rfl rfl r1 0 16 rfl _ Tryz.underlying29 rfl size_A16 (by rw [HI.out]; omega) _ (by rw [sub_all _ _ (HI.out)]) ?_) | (refine wpList_istore 29 _ _ rfl rfl r0 0 16 rfl _ rfl _ rfl size_A16 (HI.out) (by simp) ?_; intro w6 p6 g6; refine Hid.out ?_))
   rw [spl_all (by rw [HI.out]; simp)] at p6
   have E6 : Ext w w6 := Ext.grown E4 g6 (fun q hq => by cases hq; omega)
   refine Lib.hid ?_
   go_wp2
   exact bodyPost_ret (v := .agg (ic (pof L (u % 2 * 4) (u / 2 * 4)))) (results_cell_row rfl _ _ B 29 (ic (pof L (u % 2 * 4) (u / 2 * 4))) (0, 0) _ rfl p6 Tryz.underlying29 rfl (by rw [ic_size, pof_len]; exact size_A16)) rfl ⟨rfl, E6⟩
end Go.Proofs.YtbnhaegidfbgbaaGreatDoor
namespace Go.Proofs.YtbnhaegidfbgbaaGreatDoor
open Go.RowKit
set_option maxHeartbeats 1000000
theorem own_cell {w : World} {base e g n c : Nat} {zs : List Int} (h : w.ownsRow base e 1 (.slice (some ⟨g, 0, none⟩) n c) n (zs.map (Value.int .i64))) {i : Nat} (hi : i < n) : w.cell? ⟨g, i, none⟩ = some (.int .i64 (nth zs i)) := by
 obtain ⟨b, o, e, hc⟩ := (Sl.of_owns h).int hi
 simp only [Option.some.injEq, Addr.mk.injEq, and_true] at e
 obtain ⟨rfl, rfl⟩ := e
 rwa [Nat.zero_add] at hc
theorem own_set {w : World} {base e g n c : Nat} {zs : List Int} (h : w.ownsRow base e 1 (.slice (some ⟨g, 0, none⟩) n c) n (zs.map (Value.int .i64))) (i : Nat) (v : Int) : (w.setCell ⟨g, i, none⟩ (.int .i64 v)).ownsRow base e 1 (.slice (some ⟨g, 0, none⟩) n c) n ((zs.set i v).map (Value.int .i64)) := by
 have o2 := (h.stored i (.int .i64 v)).1
 rw [← List.map_set] at o2
 exact o2
/-- The worlds while a block is put. -/
structure PG (w : World) (B base g W H n c x0 : Nat) (pr rs : List Int) (Z : List Int) (wx : World) : Prop where
 gr : w.grownBy wx (some g)
 own : wx.ownsRow base 3 1 (.slice (some ⟨g, 0, none⟩) n c) n (Z.map (Value.int .i64))
 b0 : wx.heap[B]? = some (.cells #[.int .i64 W, .int .i64 H, .slice (some ⟨g, 0, none⟩) n c] 25 (0, 0))
 b1 : IB wx (B + 1) 29 pr
 b2 : IB wx (B + 1 + 1) 29 rs
 gB : g < B
theorem PG.drew {w wx : World} {B base g W H n c x0 : Nat} {pr rs Z : List Int} (h : PG w B base g W H n c x0 pr rs Z wx) : PG w B base g W H n c x0 pr rs Z wx.drew :=
 ⟨gr_drew h.gr, h.own, h.b0, h.b1.drewN 1, h.b2.drewN 1, h.gB⟩
theorem PG.set {w wx : World} {B base g W H n c x0 : Nat} {pr rs Z : List Int} (h : PG w B base g W H n c x0 pr rs Z wx) (i : Nat) (v : Int) : PG w B base g W H n c x0 pr rs (Z.set i v) (wx.setCell ⟨g, i, none⟩ (.int .i64 v)) := by
 have := h.gB
 exact ⟨grownBy_trans h.gr (gr_set _ _ _ _), own_set h.own i v, blk_set_other h.b0 (by omega), h.b1.set_other (by omega), h.b2.set_other (by omega), h.gB⟩
set_option maxRecDepth 100000 in
set_option maxHeartbeats 2000000 in
theorem put_any (W H x y base g n c : Nat) (px pr rs : List Int) (w : World) (hp : pr.length = 16) (hr : rs.length = 16) (bp : bdA 1099511627776 pr) (br : bdA 1099511627776 rs) (hW : W ≤ 32) (hx : x ≤ 1000) (hy : y ≤ 1000) (hn : (y + 3) * W + x + 3 < n) (hnb : n ≤ 1099511627776)
 (own : w.ownsRow base 3 1 (.slice (some ⟨g, 0, none⟩) n c) n (px.map (Value.int .i64))) :
 Calls Tryz.prog 78 #[.agg #[.int .i64 W, .int .i64 H, .slice (some ⟨g, 0, none⟩) n c], .int .i64 (x : Nat), .int .i64 (y : Nat), .agg (ic pr), .agg (ic rs)] w fun e w' => e = .returned (.tuple #[]) ∧ w'.ownsRow base 3 1 (.slice (some ⟨g, 0, none⟩) n c) n ((putS px W x y pr rs 16).map (Value.int .i64)) ∧ w.grownBy w' (some g) := by
 have Hp := Lib.hid hp
 have Hr := Lib.hid hr
 have Bp := Lib.hid bp
 have Br := Lib.hid br
 have hgB : g < w.heap.size := (own.lt g rfl).2
 have P0 : PG w w.heap.size base g W H n c 0 pr rs px (((w.alloc (.cells #[.int .i64 W, .int .i64 H, .slice (some ⟨g, 0, none⟩) n c] 25)).alloc (.cells (ic pr) 29)).alloc (.cells (ic rs) 29)) := by
  have a1 := Ext.alloc w (.cells #[.int .i64 W, .int .i64 H, .slice (some ⟨g, 0, none⟩) n c] 25)
  have a2 := Ext.alloc (w.alloc (.cells #[.int .i64 W, .int .i64 H, .slice (some ⟨g, 0, none⟩) n c] 25)) (.cells (ic pr) 29)
  have a3 := Ext.alloc ((w.alloc (.cells #[.int .i64 W, .int .i64 H, .slice (some ⟨g, 0, none⟩) n c] 25)).alloc (.cells (ic pr) 29)) (.cells (ic rs) 29)
  have q1 := (IB.new (w.alloc (.cells #[.int .i64 W, .int .i64 H, .slice (some ⟨g, 0, none⟩) n c] 25)) 29 pr).ext a3
  have q2 := IB.new ((w.alloc (.cells #[.int .i64 W, .int .i64 H, .slice (some ⟨g, 0, none⟩) n c] 25)).alloc (.cells (ic pr) 29)) 29 rs
  simp only [World.size_alloc] at q1 q2
  exact ⟨grown_ext (grown_refl _ _) ((a1.trans a2).trans a3), owns_ext own ((a1.trans a2).trans a3), a3.blk (a2.blk (blk_new _ _)), q1, q2, hgB⟩
 have q2 := P0.b2
 clear hp hr bp br
 go_enter Tryz.func78, Tryz.ntmps78
 go_wp2_with (refine wpList_iload 29 _ rfl rfl q2 0 16 rfl _ Tryz.underlying29 rfl size_A16 (by rw [Hr.out]; omega) _ (by rw [sub_all _ _ (Hr.out)]) ?_)
 try simp only [World.size_alloc]
 obtain ⟨B, hB⟩ : ∃ B, B = w.heap.size := ⟨_, rfl⟩
 rw [← hB] at P0 ⊢
 have HB0 := Lib.hid hB
 clear hB own hgB q2
 go_loopw [13] (fun i wr => ∃ k : Nat, k ≤ 16 ∧ i = .int .i64 k ∧ PG w B base g W H n c 0 pr rs (putS px W x y pr rs k) wr) (fun i _ => 16 - (intOf i).toNat)
 case atStart => exact ⟨0, by omega, rfl, P0⟩
 case round =>
  obtain ⟨k, hk, rfl, P1⟩ := hrel
  clear P0
  by_cases hlt : k < 16
  ·have hd : decide ((k : Int) < 16) = true := by simp; omega
   have hS := Lib.hid (show putS px W x y pr rs (k + 1) = (putS px W x y pr rs k).set ((y + k / 4) * W + x + k % 4) (clipI (nth pr k + nth rs k) 0 255) from rfl)
   obtain ⟨u, hu⟩ : ∃ u, u = y + k / 4 := ⟨_, rfl⟩
   rw [← hu] at hS
   have hu1 : u * W ≤ (y + 3) * W := Nat.mul_le_mul_right W (by omega)
   obtain ⟨q, hq⟩ : ∃ q, q = u * W + x + k % 4 := ⟨_, rfl⟩
   rw [← hq] at hS
   have hqn : q < n := by omega
   have hu2 : u ≤ 2000 := by omega
   have hm1 : (u : Int) * (W : Int) = ((u * W : Nat) : Int) := by rw [Int.natCast_mul]
   have hm : 0 ≤ (u : Int) * (W : Int) ∧ (u : Int) * (W : Int) ≤ 1099511627776 := by omega
   have Hu := Lib.hid (show (y : Int) + (k : Int) / 4 = (u : Int) by omega)
   have Hq := Lib.hid (show (u : Int) * (W : Int) + (x : Int) + (k : Int) % 4 = (q : Int) by omega)
   have v0b := Bp.out k
   have v1b := Br.out k
   have C0 := Lib.hid (fun (wx : World) (h : IB wx (B + 1) 29 pr) => h.cell (i := k) (by rw [Hp.out]; exact hlt))
   have C1 := Lib.hid (fun (wx : World) (h : IB wx (B + 1 + 1) 29 rs) => h.cell (i := k) (by rw [Hr.out]; exact hlt))
   go_wp2_with (refine wpList_iindex _ _ _ rfl rfl rs rfl k 16 _ rfl rfl _ Tryz.underlying29 Tryz.underlying3 size_int hlt Hr.out ?_)
   generalize nth pr k = v0 at *
   generalize nth rs k = v1 at *
   obtain ⟨v, hv⟩ : ∃ v, v = clipI (v0 + v1) 0 255 := ⟨_, rfl⟩
   rw [← hv] at hS
   have Hv := Lib.hid hv
   have hku : k / 4 ≤ 3 := by omega
   clear hv hu hq hu1 hm1
   generalize putS px W x y pr rs k = Zk at *
   obtain ⟨Zk1, hZk1⟩ : ∃ Z, Z = putS px W x y pr rs (k + 1) := ⟨_, rfl⟩
   rw [← hZk1] at hS
   have HZk1 := Lib.hid hZk1
   clear hZk1
   refine wp_region_invL (by kernel_rfl) [(17, 0), (18, 1), (19, 2), (20, 3), (21, 4), (22, 5), (23, 6), (24, 7), (25, 8), (26, 9), (27, 10), (28, 11), (29, 12), (30, 13), (31, 14), (32, 15), (33, 16), (34, 17), (35, 18), (36, 19), (37, 20)] [[], [0], [], [], [3], [2, 3, 4], [], [6], [2, 3, 4, 5, 6, 7], [], [2, 3, 4, 5, 6, 7, 8, 9], [], [11], [2, 3, 4, 5, 6, 7, 8, 9, 10, 11, 12], [], [14], [14, 15], [], [14, 15, 16, 17], [14, 15, 16, 17, 18], [0, 1, 2, 3, 4, 5, 6, 7, 8, 9, 10, 11, 12, 13, 14, 15, 16, 17, 18, 19], [0, 1, 2, 3, 4, 5, 6, 7, 8, 9, 10, 11, 12, 13, 14, 15, 16, 17, 18, 19, 20]] (fun i own ys wx => match i with | 0 => own = .pointer (some ⟨B, 2, none⟩) | 1 => own = .slice (some ⟨g, 0, none⟩) n c | 2 => own = .int .i64 (y : Nat) | 3 => own = .int .i64 (k : Nat) | 4 => own = .int .i64 ((k : Int) / 4) | 5 => own = .int .i64 (u : Nat) | 6 => own = .pointer (some ⟨B, 0, none⟩) | 7 => own = .int .i64 (W : Nat) | 8 => own = .int .i64 ((u : Int) * (W : Int)) | 9 => own = .int .i64 (x : Nat) | 10 => own = .int .i64 ((u : Int) * (W : Int) + (x : Int)) | 11 => own = .int .i64 (k : Nat) | 12 => own = .int .i64 ((k : Int) % 4) | 13 => own = .int .i64 (q : Nat) | 14 => own = .int .i64 (k : Nat) | 15 => own = .pointer (some ⟨B + 1, k, none⟩) | 16 => own = .int .i64 v0 | 17 => own = .int .i64 v1 | 18 => own = .int .i64 (v0 + v1) | 19 => own = .int .i64 v | 20 => own = .pointer (some ⟨g, q, none⟩) | 21 => True | _ => True) (fun Lx wx => PG w B base g W H n c 0 pr rs (if Lx 21 = true then Zk1 else Zk) wx) (by kernel_rfl) (by kernel_rfl) (by kernel_rfl) ?g0_r1 ?gop_r1 ?gend_r1
   case g0_r1 => exact P1.drew
   case gop_r1 =>
    refine ⟨?_, ?o1, ?_, ?_, ?o4, ?o5, ?_, ?o7, ?o8, ?_, ?o10, ?_, ?o12, ?o13, ?_, ?o15, ?o16, ?_, ?o18, ?o19, ?o20, ?o21, trivial⟩ <;> (intro Lx xs wx hG hl ha hb hD hI Qo Kx hK hQo; simp only [patchS, Nat.reduceAdd, Nat.reduceEqDiff, ↓reduceIte] at hQo ⊢)
    case o1 =>
     have l21 : Lx 21 = false := hb 21 rfl
     clear hl ha hb
     have d0 : _ = _ := hD 0 rfl
     clear hD hI
     generalize xs 0 = y0 at *
     subst d0
     obtain ⟨-, k0, k1, k2, -⟩ := bx3 hG.b0
     go_wp2
     exact hK.out _ _ ⟨rfl, hG, fun _ _ _ _ _ _ h => h⟩
    case o4 =>
     have l21 : Lx 21 = false := hb 21 rfl
     clear hl ha hb
     have d3 : _ = _ := hD 3 rfl
     clear hD hI
     generalize xs 3 = y3 at *
     subst d3
     go_wp2
     exact hK.out _ _ ⟨rfl, hG, fun _ _ _ _ _ _ h => h⟩
    case o5 =>
     have l21 : Lx 21 = false := hb 21 rfl
     clear hl ha hb
     have d2 : _ = _ := hD 2 rfl
     have d4 : _ = _ := hD 4 rfl
     clear hD hI
     generalize xs 2 = y2 at *
     generalize xs 4 = y4 at *
     subst d2 d4
     go_wp2
     exact hK.out _ _ ⟨by rw [← Hu.out], hG, fun _ _ _ _ _ _ h => h⟩
    case o7 =>
     have l21 : Lx 21 = false := hb 21 rfl
     clear hl ha hb
     have d6 : _ = _ := hD 6 rfl
     clear hD hI
     generalize xs 6 = y6 at *
     subst d6
     obtain ⟨-, k0, k1, k2, -⟩ := bx3 hG.b0
     go_wp2
     exact hK.out _ _ ⟨rfl, hG, fun _ _ _ _ _ _ h => h⟩
    case o8 =>
     have l21 : Lx 21 = false := hb 21 rfl
     clear hl ha hb
     have d5 : _ = _ := hD 5 rfl
     have d7 : _ = _ := hD 7 rfl
     clear hD hI
     generalize xs 5 = y5 at *
     generalize xs 7 = y7 at *
     subst d5 d7
     go_wp2
     exact hK.out _ _ ⟨rfl, hG, fun _ _ _ _ _ _ h => h⟩
    case o10 =>
     have l21 : Lx 21 = false := hb 21 rfl
     clear hl ha hb
     have d8 : _ = _ := hD 8 rfl
     have d9 : _ = _ := hD 9 rfl
     clear hD hI
     generalize xs 8 = y8 at *
     generalize xs 9 = y9 at *
     subst d8 d9
     go_wp2
     exact hK.out _ _ ⟨rfl, hG, fun _ _ _ _ _ _ h => h⟩
    case o12 =>
     have l21 : Lx 21 = false := hb 21 rfl
     clear hl ha hb
     have d11 : _ = _ := hD 11 rfl
     clear hD hI
     generalize xs 11 = y11 at *
     subst d11
     go_wp2
     exact hK.out _ _ ⟨rfl, hG, fun _ _ _ _ _ _ h => h⟩
    case o13 =>
     have l21 : Lx 21 = false := hb 21 rfl
     clear hl ha hb
     have d10 : _ = _ := hD 10 rfl
     have d12 : _ = _ := hD 12 rfl
     clear hD hI
     generalize xs 10 = y10 at *
     generalize xs 12 = y12 at *
     subst d10 d12
     go_wp2
     exact hK.out _ _ ⟨by rw [← Hq.out], hG, fun _ _ _ _ _ _ h => h⟩
    case o15 =>
     have l21 : Lx 21 = false := hb 21 rfl
     clear hl ha hb
     have d14 : _ = _ := hD 14 rfl
     clear hD hI
     generalize xs 14 = y14 at *
     subst d14
     go_wp2
     exact hK.out _ _ ⟨rfl, hG, fun _ _ _ _ _ _ h => h⟩
    case o16 =>
     have l21 : Lx 21 = false := hb 21 rfl
     clear hl ha hb
     have d15 : _ = _ := hD 15 rfl
     clear hD hI
     generalize xs 15 = y15 at *
     subst d15
     have cx := C0.out wx hG.b1
     go_wp2
     exact hK.out _ _ ⟨rfl, hG, fun _ _ _ _ _ _ h => h⟩
    case o18 =>
     have l21 : Lx 21 = false := hb 21 rfl
     clear hl ha hb
     have d16 : _ = _ := hD 16 rfl
     have d17 : _ = _ := hD 17 rfl
     clear hD hI
     generalize xs 16 = y16 at *
     generalize xs 17 = y17 at *
     subst d16 d17
     go_wp2
     exact hK.out _ _ ⟨rfl, hG, fun _ _ _ _ _ _ h => h⟩
    case o19 =>
     have l21 : Lx 21 = false := hb 21 rfl
     clear hl ha hb
     have d18 : _ = _ := hD 18 rfl
     clear hD hI
     generalize xs 18 = y18 at *
     subst d18
     go_wp2_with fail
     refine (clamp_any _ _ _ _ (by omega)).mono ?_
     rintro e w9 ⟨rfl, rfl⟩
     rw [← Hv.out]
     go_wp2
     exact hK.out _ _ ⟨rfl, hG, fun _ _ _ _ _ _ h => h⟩
    case o20 =>
     have l21 : Lx 21 = false := hb 21 rfl
     clear hl ha hb
     have d1 : _ = _ := hD 1 rfl
     have d13 : _ = _ := hD 13 rfl
     clear hD hI
     generalize xs 1 = y1 at *
     generalize xs 13 = y13 at *
     subst d1 d13
     go_wp2
     exact hK.out _ _ ⟨rfl, hG, fun _ _ _ _ _ _ h => h⟩
    case o21 =>
     have l21 : Lx 21 = false := hl
     clear hl ha hb
     have d19 : _ = _ := hD 19 rfl
     have d20 : _ = _ := hD 20 rfl
     clear hD hI
     generalize xs 19 = y19 at *
     generalize xs 20 = y20 at *
     subst d19 d20
     rw [l21, ifF] at hG
     have cx := own_cell hG.own hqn
     have fx := hG.own.frozenAt q
     have s2 := hG.set q v
     rw [← hS.out] at s2
     go_wp2
     exact hQo undef _ (hK.out _ _ ⟨trivial, s2, fun _ _ _ _ _ _ h => h⟩)
    all_goals
     have l21 : Lx 21 = false := hb 21 rfl
     clear hl ha hb hD hI
     go_wp2
     exact hK.out _ _ ⟨rfl, hG, fun _ _ _ _ _ _ h => h⟩
   intro xs wx hV hG0
   obtain ⟨Lx, hL, hG⟩ := hG0
   have l21 : Lx 21 = true := hL 21 (by decide)
   clear hL hV
   simp only [patchS, Nat.reduceAdd, Nat.reduceEqDiff, ↓reduceIte]
   generalize xs 0 = y0 at *
   generalize xs 1 = y1 at *
   generalize xs 2 = y2 at *
   generalize xs 3 = y3 at *
   generalize xs 4 = y4 at *
   generalize xs 5 = y5 at *
   generalize xs 6 = y6 at *
   generalize xs 7 = y7 at *
   generalize xs 8 = y8 at *
   generalize xs 9 = y9 at *
   generalize xs 10 = y10 at *
   generalize xs 11 = y11 at *
   generalize xs 12 = y12 at *
   generalize xs 13 = y13 at *
   generalize xs 14 = y14 at *
   generalize xs 15 = y15 at *
   generalize xs 16 = y16 at *
   generalize xs 17 = y17 at *
   generalize xs 18 = y18 at *
   generalize xs 19 = y19 at *
   generalize xs 20 = y20 at *
   generalize xs 21 = y21 at *
   replace hG : PG w B base g W H n c 0 pr rs (if Lx 21 = true then Zk1 else Zk) wx := hG
   rw [l21, ifT] at hG
   clear P1 C0 C1
   have HG := Lib.hid hG
   clear hG
   go_wp2
   go_roundw
   case rel => exact ⟨k + 1, by omega, by go_num, by rw [← HZk1.out]; exact HG.out⟩
   case measure => simp [intOf]; omega
  ·obtain rfl : k = 16 := by omega
   have HP := Lib.hid P1
   clear P1
   go_wp2
   go_end0
   exact ⟨rfl, HP.out.own, HP.out.gr⟩
set_option maxRecDepth 100000 in
set_option maxHeartbeats 2000000 in
theorem l8Put_any (W H x y base g n c : Nat) (px pr rs : List Int) (w : World) (hp : pr.length = 16) (hr : rs.length = 16) (bp : bdA 1099511627776 pr) (br : bdA 1099511627776 rs) (hW : W ≤ 32) (hx : x ≤ 1000) (hy : y ≤ 1000) (hn : (y + 3) * W + x + 3 < n) (hnb : n ≤ 1099511627776)
 (own : w.ownsRow base 3 1 (.slice (some ⟨g, 0, none⟩) n c) n (px.map (Value.int .i64))) :
 Calls Tryz.prog 142 #[.agg #[.int .i64 W, .int .i64 H, .slice (some ⟨g, 0, none⟩) n c], .int .i64 (x : Nat), .int .i64 (y : Nat), .agg (ic pr), .agg (ic rs)] w fun e w' => e = .returned (.tuple #[]) ∧ w'.ownsRow base 3 1 (.slice (some ⟨g, 0, none⟩) n c) n ((putS px W x y pr rs 16).map (Value.int .i64)) ∧ w.grownBy w' (some g) := by
 have Hp := Lib.hid hp
 have Hr := Lib.hid hr
 have Bp := Lib.hid bp
 have Br := Lib.hid br
 have hgB : g < w.heap.size := (own.lt g rfl).2
 have P0 : PG w w.heap.size base g W H n c 0 pr rs px (((w.alloc (.cells #[.int .i64 W, .int .i64 H, .slice (some ⟨g, 0, none⟩) n c] 25)).alloc (.cells (ic pr) 29)).alloc (.cells (ic rs) 29)) := by
  have a1 := Ext.alloc w (.cells #[.int .i64 W, .int .i64 H, .slice (some ⟨g, 0, none⟩) n c] 25)
  have a2 := Ext.alloc (w.alloc (.cells #[.int .i64 W, .int .i64 H, .slice (some ⟨g, 0, none⟩) n c] 25)) (.cells (ic pr) 29)
  have a3 := Ext.alloc ((w.alloc (.cells #[.int .i64 W, .int .i64 H, .slice (some ⟨g, 0, none⟩) n c] 25)).alloc (.cells (ic pr) 29)) (.cells (ic rs) 29)
  have q1 := (IB.new (w.alloc (.cells #[.int .i64 W, .int .i64 H, .slice (some ⟨g, 0, none⟩) n c] 25)) 29 pr).ext a3
  have q2 := IB.new ((w.alloc (.cells #[.int .i64 W, .int .i64 H, .slice (some ⟨g, 0, none⟩) n c] 25)).alloc (.cells (ic pr) 29)) 29 rs
  simp only [World.size_alloc] at q1 q2
  exact ⟨grown_ext (grown_refl _ _) ((a1.trans a2).trans a3), owns_ext own ((a1.trans a2).trans a3), a3.blk (a2.blk (blk_new _ _)), q1, q2, hgB⟩
 have q2 := P0.b2
 clear hp hr bp br
 go_enter Tryz.func142, Tryz.ntmps142
 go_wp2_with fail
 try simp only [World.size_alloc]
 obtain ⟨B, hB⟩ : ∃ B, B = w.heap.size := ⟨_, rfl⟩
 rw [← hB] at P0 ⊢
 have HB0 := Lib.hid hB
 clear hB own hgB q2
 go_loopw [10] (fun i wr => ∃ k : Nat, k ≤ 16 ∧ i = .int .i64 k ∧ PG w B base g W H n c 0 pr rs (putS px W x y pr rs k) wr) (fun i _ => 16 - (intOf i).toNat)
 case atStart => exact ⟨0, by omega, rfl, P0⟩
 case round =>
  obtain ⟨k, hk, rfl, P1⟩ := hrel
  clear P0
  by_cases hlt : k < 16
  ·have hd : decide ((k : Int) < 16) = true := by simp; omega
   have hS := Lib.hid (show putS px W x y pr rs (k + 1) = (putS px W x y pr rs k).set ((y + k / 4) * W + x + k % 4) (clipI (nth pr k + nth rs k) 0 255) from rfl)
   obtain ⟨u, hu⟩ : ∃ u, u = y + k / 4 := ⟨_, rfl⟩
   rw [← hu] at hS
   have hu1 : u * W ≤ (y + 3) * W := Nat.mul_le_mul_right W (by omega)
   obtain ⟨q, hq⟩ : ∃ q, q = u * W + x + k % 4 := ⟨_, rfl⟩
   rw [← hq] at hS
   have hqn : q < n := by omega
   have hu2 : u ≤ 2000 := by omega
   have hm1 : (u : Int) * (W : Int) = ((u * W : Nat) : Int) := by rw [Int.natCast_mul]
   have hm : 0 ≤ (u : Int) * (W : Int) ∧ (u : Int) * (W : Int) ≤ 1099511627776 := by omega
   have Hu := Lib.hid (show (y : Int) + (k : Int) / 4 = (u : Int) by omega)
   have Hq := Lib.hid (show (u : Int) * (W : Int) + (x : Int) + (k : Int) % 4 = (q : Int) by omega)
   have v0b := Bp.out k
   have v1b := Br.out k
   have C0 := Lib.hid (fun (wx : World) (h : IB wx (B + 1) 29 pr) => h.cell (i := k) (by rw [Hp.out]; exact hlt))
   have C1 := Lib.hid (fun (wx : World) (h : IB wx (B + 1 + 1) 29 rs) => h.cell (i := k) (by rw [Hr.out]; exact hlt))
   go_wp2_with fail
   generalize nth pr k = v0 at *
   generalize nth rs k = v1 at *
   obtain ⟨v, hv⟩ : ∃ v, v = clipI (v0 + v1) 0 255 := ⟨_, rfl⟩
   rw [← hv] at hS
   have Hv := Lib.hid hv
   have hku : k / 4 ≤ 3 := by omega
   clear hv hu hq hu1 hm1
   generalize putS px W x y pr rs k = Zk at *
   obtain ⟨Zk1, hZk1⟩ : ∃ Z, Z = putS px W x y pr rs (k + 1) := ⟨_, rfl⟩
   rw [← hZk1] at hS
   have HZk1 := Lib.hid hZk1
   clear hZk1
   refine wp_region_invL (by kernel_rfl) [(15, 0), (16, 1), (17, 2), (18, 3), (19, 4), (20, 5), (21, 6), (22, 7), (23, 8), (24, 9), (25, 10), (26, 11), (27, 12), (28, 13), (29, 14), (30, 15), (31, 16), (32, 17), (33, 18), (34, 19), (35, 20), (36, 21), (37, 22)] [[], [0], [], [], [3], [2, 3, 4], [], [6], [2, 3, 4, 5, 6, 7], [], [2, 3, 4, 5, 6, 7, 8, 9], [], [11], [2, 3, 4, 5, 6, 7, 8, 9, 10, 11, 12], [], [14], [14, 15], [], [17], [17, 18], [14, 15, 16, 17, 18, 19], [14, 15, 16, 17, 18, 19, 20], [0, 1, 2, 3, 4, 5, 6, 7, 8, 9, 10, 11, 12, 13, 14, 15, 16, 17, 18, 19, 20, 21], [0, 1, 2, 3, 4, 5, 6, 7, 8, 9, 10, 11, 12, 13, 14, 15, 16, 17, 18, 19, 20, 21, 22]] (fun i own ys wx => match i with | 0 => own = .pointer (some ⟨B, 2, none⟩) | 1 => own = .slice (some ⟨g, 0, none⟩) n c | 2 => own = .int .i64 (y : Nat) | 3 => own = .int .i64 (k : Nat) | 4 => own = .int .i64 ((k : Int) / 4) | 5 => own = .int .i64 (u : Nat) | 6 => own = .pointer (some ⟨B, 0, none⟩) | 7 => own = .int .i64 (W : Nat) | 8 => own = .int .i64 ((u : Int) * (W : Int)) | 9 => own = .int .i64 (x : Nat) | 10 => own = .int .i64 ((u : Int) * (W : Int) + (x : Int)) | 11 => own = .int .i64 (k : Nat) | 12 => own = .int .i64 ((k : Int) % 4) | 13 => own = .int .i64 (q : Nat) | 14 => own = .int .i64 (k : Nat) | 15 => own = .pointer (some ⟨B + 1, k, none⟩) | 16 => own = .int .i64 v0 | 17 => own = .int .i64 (k : Nat) | 18 => own = .pointer (some ⟨B + 1 + 1, k, none⟩) | 19 => own = .int .i64 v1 | 20 => own = .int .i64 (v0 + v1) | 21 => own = .int .i64 v | 22 => own = .pointer (some ⟨g, q, none⟩) | 23 => True | _ => True) (fun Lx wx => PG w B base g W H n c 0 pr rs (if Lx 23 = true then Zk1 else Zk) wx) (by kernel_rfl) (by kernel_rfl) (by kernel_rfl) ?g0_r2 ?gop_r2 ?gend_r2
   case g0_r2 => exact P1.drew
   case gop_r2 =>
    refine ⟨?_, ?o1, ?_, ?_, ?o4, ?o5, ?_, ?o7, ?o8, ?_, ?o10, ?_, ?o12, ?o13, ?_, ?o15, ?o16, ?_, ?o18, ?o19, ?o20, ?o21, ?o22, ?o23, trivial⟩ <;> (intro Lx xs wx hG hl ha hb hD hI Qo Kx hK hQo; simp only [patchS, Nat.reduceAdd, Nat.reduceEqDiff, ↓reduceIte] at hQo ⊢)
    case o1 =>
     have l23 : Lx 23 = false := hb 23 rfl
     clear hl ha hb
     have d0 : _ = _ := hD 0 rfl
     clear hD hI
     generalize xs 0 = y0 at *
     subst d0
     obtain ⟨-, k0, k1, k2, -⟩ := bx3 hG.b0
     go_wp2
     exact hK.out _ _ ⟨rfl, hG, fun _ _ _ _ _ _ h => h⟩
    case o4 =>
     have l23 : Lx 23 = false := hb 23 rfl
     clear hl ha hb
     have d3 : _ = _ := hD 3 rfl
     clear hD hI
     generalize xs 3 = y3 at *
     subst d3
     go_wp2
     exact hK.out _ _ ⟨rfl, hG, fun _ _ _ _ _ _ h => h⟩
    case o5 =>
     have l23 : Lx 23 = false := hb 23 rfl
     clear hl ha hb
     have d2 : _ = _ := hD 2 rfl
     have d4 : _ = _ := hD 4 rfl
     clear hD hI
     generalize xs 2 = y2 at *
     generalize xs 4 = y4 at *
     subst d2 d4
     go_wp2
     exact hK.out _ _ ⟨by rw [← Hu.out], hG, fun _ _ _ _ _ _ h => h⟩
    case o7 =>
     have l23 : Lx 23 = false := hb 23 rfl
     clear hl ha hb
     have d6 : _ = _ := hD 6 rfl
     clear hD hI
     generalize xs 6 = y6 at *
     subst d6
     obtain ⟨-, k0, k1, k2, -⟩ := bx3 hG.b0
     go_wp2
     exact hK.out _ _ ⟨rfl, hG, fun _ _ _ _ _ _ h => h⟩
    case o8 =>
     have l23 : Lx 23 = false := hb 23 rfl
     clear hl ha hb
     have d5 : _ = _ := hD 5 rfl
     have d7 : _ = _ := hD 7 rfl
     clear hD hI
     generalize xs 5 = y5 at *
     generalize xs 7 = y7 at *
     subst d5 d7
     go_wp2
     exact hK.out _ _ ⟨rfl, hG, fun _ _ _ _ _ _ h => h⟩
    case o10 =>
     have l23 : Lx 23 = false := hb 23 rfl
     clear hl ha hb
     have d8 : _ = _ := hD 8 rfl
     have d9 : _ = _ := hD 9 rfl
     clear hD hI
     generalize xs 8 = y8 at *
     generalize xs 9 = y9 at *
     subst d8 d9
     go_wp2
     exact hK.out _ _ ⟨rfl, hG, fun _ _ _ _ _ _ h => h⟩
    case o12 =>
     have l23 : Lx 23 = false := hb 23 rfl
     clear hl ha hb
     have d11 : _ = _ := hD 11 rfl
     clear hD hI
     generalize xs 11 = y11 at *
     subst d11
     go_wp2
     exact hK.out _ _ ⟨rfl, hG, fun _ _ _ _ _ _ h => h⟩
    case o13 =>
     have l23 : Lx 23 = false := hb 23 rfl
     clear hl ha hb
     have d10 : _ = _ := hD 10 rfl
     have d12 : _ = _ := hD 12 rfl
     clear hD hI
     generalize xs 10 = y10 at *
     generalize xs 12 = y12 at *
     subst d10 d12
     go_wp2
     exact hK.out _ _ ⟨by rw [← Hq.out], hG, fun _ _ _ _ _ _ h => h⟩
    case o15 =>
     have l23 : Lx 23 = false := hb 23 rfl
     clear hl ha hb
     have d14 : _ = _ := hD 14 rfl
     clear hD hI
     generalize xs 14 = y14 at *
     subst d14
     go_wp2
     exact hK.out _ _ ⟨rfl, hG, fun _ _ _ _ _ _ h => h⟩
    case o16 =>
     have l23 : Lx 23 = false := hb 23 rfl
     clear hl ha hb
     have d15 : _ = _ := hD 15 rfl
     clear hD hI
     generalize xs 15 = y15 at *
     subst d15
     have cx := C0.out wx hG.b1
     go_wp2
     exact hK.out _ _ ⟨rfl, hG, fun _ _ _ _ _ _ h => h⟩
    case o18 =>
     have l23 : Lx 23 = false := hb 23 rfl
     clear hl ha hb
     have d17 : _ = _ := hD 17 rfl
     clear hD hI
     generalize xs 17 = y17 at *
     subst d17
     go_wp2
     exact hK.out _ _ ⟨rfl, hG, fun _ _ _ _ _ _ h => h⟩
    case o19 =>
     have l23 : Lx 23 = false := hb 23 rfl
     clear hl ha hb
     have d18 : _ = _ := hD 18 rfl
     clear hD hI
     generalize xs 18 = y18 at *
     subst d18
     have cx := C1.out wx hG.b2
     go_wp2
     exact hK.out _ _ ⟨rfl, hG, fun _ _ _ _ _ _ h => h⟩
    case o20 =>
     have l23 : Lx 23 = false := hb 23 rfl
     clear hl ha hb
     have d16 : _ = _ := hD 16 rfl
     have d19 : _ = _ := hD 19 rfl
     clear hD hI
     generalize xs 16 = y16 at *
     generalize xs 19 = y19 at *
     subst d16 d19
     go_wp2
     exact hK.out _ _ ⟨rfl, hG, fun _ _ _ _ _ _ h => h⟩
    case o21 =>
     have l23 : Lx 23 = false := hb 23 rfl
     clear hl ha hb
     have d20 : _ = _ := hD 20 rfl
     clear hD hI
     generalize xs 20 = y20 at *
     subst d20
     go_wp2_with fail
     refine (l1Clip_any _ _ _ _).mono ?_
     rintro e w9 ⟨rfl, rfl⟩
     rw [← Hv.out]
     go_wp2
     exact hK.out _ _ ⟨rfl, hG, fun _ _ _ _ _ _ h => h⟩
    case o22 =>
     have l23 : Lx 23 = false := hb 23 rfl
     clear hl ha hb
     have d1 : _ = _ := hD 1 rfl
     have d13 : _ = _ := hD 13 rfl
     clear hD hI
     generalize xs 1 = y1 at *
     generalize xs 13 = y13 at *
     subst d1 d13
     go_wp2
     exact hK.out _ _ ⟨rfl, hG, fun _ _ _ _ _ _ h => h⟩
    case o23 =>
     have l23 : Lx 23 = false := hl
     clear hl ha hb
     have d21 : _ = _ := hD 21 rfl
     have d22 : _ = _ := hD 22 rfl
     clear hD hI
     generalize xs 21 = y21 at *
     generalize xs 22 = y22 at *
     subst d21 d22
     rw [l23, ifF] at hG
     have cx := own_cell hG.own hqn
     have fx := hG.own.frozenAt q
     have s2 := hG.set q v
     rw [← hS.out] at s2
     go_wp2
     exact hQo undef _ (hK.out _ _ ⟨trivial, s2, fun _ _ _ _ _ _ h => h⟩)
    all_goals
     have l23 : Lx 23 = false := hb 23 rfl
     clear hl ha hb hD hI
     go_wp2
     exact hK.out _ _ ⟨rfl, hG, fun _ _ _ _ _ _ h => h⟩
   intro xs wx hV hG0
   obtain ⟨Lx, hL, hG⟩ := hG0
   have l23 : Lx 23 = true := hL 23 (by decide)
   clear hL hV
   simp only [patchS, Nat.reduceAdd, Nat.reduceEqDiff, ↓reduceIte]
   generalize xs 0 = y0 at *
   generalize xs 1 = y1 at *
   generalize xs 2 = y2 at *
   generalize xs 3 = y3 at *
   generalize xs 4 = y4 at *
   generalize xs 5 = y5 at *
   generalize xs 6 = y6 at *
   generalize xs 7 = y7 at *
   generalize xs 8 = y8 at *
   generalize xs 9 = y9 at *
   generalize xs 10 = y10 at *
   generalize xs 11 = y11 at *
   generalize xs 12 = y12 at *
   generalize xs 13 = y13 at *
   generalize xs 14 = y14 at *
   generalize xs 15 = y15 at *
   generalize xs 16 = y16 at *
   generalize xs 17 = y17 at *
   generalize xs 18 = y18 at *
   generalize xs 19 = y19 at *
   generalize xs 20 = y20 at *
   generalize xs 21 = y21 at *
   generalize xs 22 = y22 at *
   generalize xs 23 = y23 at *
   replace hG : PG w B base g W H n c 0 pr rs (if Lx 23 = true then Zk1 else Zk) wx := hG
   rw [l23, ifT] at hG
   clear P1 C0 C1
   have HG := Lib.hid hG
   clear hG
   go_wp2
   go_roundw
   case rel => exact ⟨k + 1, by omega, by go_num, by rw [← HZk1.out]; exact HG.out⟩
   case measure => simp [intOf]; omega
  ·obtain rfl : k = 16 := by omega
   have HP := Lib.hid P1
   clear P1
   go_wp2
   go_end0
   exact ⟨rfl, HP.out.own, HP.out.gr⟩
end Go.Proofs.YtbnhaegidfbgbaaGreatDoor
