/- The transform of a block: both sides. | The transform of a block: the program's. | The transform of a block: the reference's. | MacroValid: the reference's. | The inverse transform, coding and decoding of a block of residuals: both sides. -/
import Derived.Test.YtbnhaegidfbgbaaGreatDoorQn3
set_option linter.unusedVariables false
set_option linter.unusedSimpArgs false
namespace Go.Proofs.YtbnhaegidfbgbaaGreatDoor
open Go.RowKit
set_option maxHeartbeats 1000000
/-- All numbers of a list are within M. -/
def bdA (M : Int) (zs : List Int) : Prop := ∀ j, -M ≤ nth zs j ∧ nth zs j ≤ M
theorem bdA_set {M : Int} {zs : List Int} {v : Int} (h : bdA M zs) (i : Nat) (h1 : -M ≤ v) (h2 : v ≤ M) : bdA M (zs.set i v) := fun j => by
 by_cases e : i = j
 ·subst e
  by_cases hl : i < zs.length
  ·rw [nth_set_same _ _ _ hl]; exact ⟨h1, h2⟩
  ·rw [List.set_eq_of_length_le (by omega)]; exact h i
 ·rw [nth_set_ne _ _ _ _ e]; exact h j
theorem bdA_mono {M M' : Int} {zs : List Int} (h : bdA M zs) (hm : M ≤ M') : bdA M' zs := fun j => by have := h j; omega
theorem bdA_of {M : Int} {zs : List Int} (hM : 0 ≤ M) (h : ∀ j, j < zs.length → -M ≤ nth zs j ∧ nth zs j ≤ M) : bdA M zs := fun j => by
 by_cases hl : j < zs.length
 ·exact h j hl
 ·rw [show nth zs j = 0 by simp [nth, List.getElem?_eq_none (show zs.length ≤ j by omega)]]; omega
theorem bfS_bd {M : Int} {zs : List Int} (h : bdA M zs) (i st : Nat) : bdA (4 * M) (bfS zs i st) := by
 have h0 := h i
 have h1 := h (i + st)
 have h2 := h (i + 2 * st)
 have h3 := h (i + 3 * st)
 unfold bfS
 refine bdA_set (bdA_set (bdA_set (bdA_set (bdA_mono h (by omega)) _ ?_ ?_) _ ?_ ?_) _ ?_ ?_) _ ?_ ?_ <;> omega
theorem bfS_len (zs : List Int) (i st : Nat) : (bfS zs i st).length = zs.length := by simp [bfS]
theorem bfR_len (zs : List Int) (k : Nat) : (bfR zs k).length = zs.length := by
 induction k with
 | zero => rfl
 | succ k ih => simp only [bfR]; rw [bfS_len, ih]
theorem bfC_len (zs : List Int) (k : Nat) : (bfC zs k).length = zs.length := by
 induction k with
 | zero => rfl
 | succ k ih => simp only [bfC]; rw [bfS_len, ih]
theorem four_bd (M : Int) (hM : 0 ≤ M) (f : Nat → List Int) (h0 : bdA M (f 0)) (hs : ∀ k N, bdA N (f k) → bdA (4 * N) (f (k + 1))) : ∀ k, k ≤ 4 → bdA (256 * M) (f k) := by
 have h1 := hs 0 _ h0
 have h2 := hs 1 _ h1
 have h3 := hs 2 _ h2
 have h4 := hs 3 _ h3
 intro k hk
 match k, hk with
 | 0, _ => exact bdA_mono h0 (by omega)
 | 1, _ => exact bdA_mono h1 (by omega)
 | 2, _ => exact bdA_mono h2 (by omega)
 | 3, _ => exact bdA_mono h3 (by omega)
 | 4, _ => exact bdA_mono h4 (by omega)
theorem bfR_bd {zs : List Int} (h : bdA 1048576 zs) : ∀ k, k ≤ 4 → bdA 268435456 (bfR zs k) :=
 fun k hk => bdA_mono (four_bd 1048576 (by omega) (bfR zs) h (fun k N hN => bfS_bd hN _ _) k hk) (by omega)
theorem bfC_bd {zs : List Int} (h : bdA 268435456 zs) : ∀ k, k ≤ 4 → bdA 68719476736 (bfC zs k) :=
 fun k hk => bdA_mono (four_bd 268435456 (by omega) (bfC zs) h (fun k N hN => bfS_bd hN _ _) k hk) (by omega)
/-- A list, the one or the other of two stores made. -/
def stY (Z : List Int) (i1 : Nat) (v1 : Int) (i2 : Nat) (v2 : Int) (b1 b2 : Bool) : List Int := if b2 then (if b1 then Z.set i1 v1 else Z).set i2 v2 else (if b1 then Z.set i1 v1 else Z)
theorem stY_one (Z : List Int) (i1 : Nat) (v1 : Int) (i2 : Nat) (v2 : Int) (b2 : Bool) (hne : i1 ≠ i2) : (stY Z i1 v1 i2 v2 false b2).set i1 v1 = stY Z i1 v1 i2 v2 true b2 := by
 cases b2
 ·rfl
 ·show (Z.set i2 v2).set i1 v1 = (Z.set i1 v1).set i2 v2
  exact List.set_comm _ _ (fun h => hne h.symm)
theorem stY_two (Z : List Int) (i1 : Nat) (v1 : Int) (i2 : Nat) (v2 : Int) (b1 : Bool) : (stY Z i1 v1 i2 v2 b1 false).set i2 v2 = stY Z i1 v1 i2 v2 b1 true := rfl
theorem stY_len (Z : List Int) (i1 : Nat) (v1 : Int) (i2 : Nat) (v2 : Int) (b1 b2 : Bool) : (stY Z i1 v1 i2 v2 b1 b2).length = Z.length := by
 cases b1 <;> cases b2 <;> simp [stY]
theorem gr_drew {w w' : World} {row : Option Nat} (h : w.grownBy w' row) : w.grownBy w'.drew row := grown_ext h (Ext.drewN _ 1)
set_option maxRecDepth 100000 in
set_option maxHeartbeats 2000000 in
theorem butterflies_any (b A0 st : Nat) (zs : List Int) (w : World) (h : IB w b 29 zs) (hl : zs.length = 16) (hb : bdA 1099511627776 zs) (h1 : 1 ≤ st) (h2 : A0 + 3 * st < 16) :
 Calls Tryz.prog 155 #[.pointer (some ⟨b, 0, none⟩), .int .i64 (A0 : Nat), .int .i64 (st : Nat)] w fun e w' => e = .returned (.tuple #[]) ∧ IB w' b 29 (bfS zs A0 st) ∧ w.grownBy w' (some b) := by
 have b0 := hb A0
 have b1 := hb (A0 + st)
 have b2 := hb (A0 + 2 * st)
 have b3 := hb (A0 + 3 * st)
 have HB := Lib.hid (show bfS zs A0 st = (((zs.set A0 (nth zs A0 + nth zs (A0 + st) + nth zs (A0 + 2 * st) + nth zs (A0 + 3 * st))).set (A0 + st) (nth zs A0 + nth zs (A0 + st) - nth zs (A0 + 2 * st) - nth zs (A0 + 3 * st))).set (A0 + 2 * st) (nth zs A0 - nth zs (A0 + st) - nth zs (A0 + 2 * st) + nth zs (A0 + 3 * st))).set (A0 + 3 * st) (nth zs A0 - nth zs (A0 + st) + nth zs (A0 + 2 * st) - nth zs (A0 + 3 * st)) from rfl)
 have c0 := h.cell (i := A0) (by omega)
 have c1 := h.cell (i := A0 + st) (by omega)
 have c2 := h.cell (i := A0 + 2 * st) (by omega)
 have c3 := h.cell (i := A0 + 3 * st) (by omega)
 obtain ⟨A1, hA1⟩ : ∃ A1, A1 = A0 + st := ⟨_, rfl⟩
 obtain ⟨A2, hA2⟩ : ∃ A2, A2 = A0 + 2 * st := ⟨_, rfl⟩
 obtain ⟨A3, hA3⟩ : ∃ A3, A3 = A0 + 3 * st := ⟨_, rfl⟩
 rw [← hA1] at b1 c1 HB
 rw [← hA2] at b2 c2 HB
 rw [← hA3] at b3 c3 HB
 generalize nth zs A0 = v0 at *
 generalize nth zs A1 = v1 at *
 generalize nth zs A2 = v2 at *
 generalize nth zs A3 = v3 at *
 have i1 := Lib.hid (show (A0 : Int) + (st : Int) = (A1 : Int) by omega)
 have i2 := Lib.hid (show (A0 : Int) + 2 * (st : Int) = (A2 : Int) by omega)
 have i3 := Lib.hid (show (A0 : Int) + 3 * (st : Int) = (A3 : Int) by omega)
 have l0 : A0 < 16 := by omega
 have l1 : A1 < 16 := by omega
 have l2 : A2 < 16 := by omega
 have l3 : A3 < 16 := by omega
 have hst : st ≤ 5 := by omega
 have n1 : A0 ≠ A1 := by omega
 have n2 : A2 ≠ A3 := by omega
 have Hl := Lib.hid hl
 have C0 := Lib.hid c0
 have C1 := Lib.hid c1
 have C2 := Lib.hid c2
 have C3 := Lib.hid c3
 clear hl hb hA1 hA2 hA3 h2 c0 c1 c2 c3
 go_enter Tryz.func155, Tryz.ntmps155
 go_wp2_with fail
 refine wp_region_inv2 (by kernel_rfl) [(6, 28), (7, 29), (8, 30), (9, 31), (10, 0), (11, 1), (12, 2), (13, 3), (14, 4), (15, 5), (16, 6), (17, 7), (18, 8), (19, 9), (20, 10), (21, 11), (22, 12), (23, 13), (24, 14), (25, 15), (26, 16), (27, 17), (28, 18), (29, 19), (30, 20), (31, 21), (32, 22), (33, 23), (34, 24), (35, 25), (36, 26), (37, 27)] [[], [], [0], [0, 1, 2], [0, 1, 2, 3], [], [], [], [6, 7], [5], [5, 6, 7, 8, 9], [5, 6, 7, 8, 9, 10], [], [], [], [14], [13, 14, 15], [12], [12, 13, 14, 15, 16, 17], [12, 13, 14, 15, 16, 17, 18], [], [], [], [22], [21, 22, 23], [20], [20, 21, 22, 23, 24, 25], [20, 21, 22, 23, 24, 25, 26], [0, 1, 2, 3, 4], [0, 1, 2, 3, 4, 5, 6, 7, 8, 9, 10, 11, 28], [0, 1, 2, 3, 4, 5, 6, 7, 8, 9, 10, 11, 12, 13, 14, 15, 16, 17, 18, 19, 28, 29], [0, 1, 2, 3, 4, 5, 6, 7, 8, 9, 10, 11, 12, 13, 14, 15, 16, 17, 18, 19, 20, 21, 22, 23, 24, 25, 26, 27, 28, 29, 30]] (fun i own ys wx => match i with | 0 => own = .pointer (some ⟨b, 0, none⟩) | 1 => own = .int .i64 (A0 : Nat) | 2 => own = .pointer (some ⟨b, 0, none⟩) | 3 => own = .pointer (some ⟨b, A0, none⟩) | 4 => own = .int .i64 v0 | 5 => own = .pointer (some ⟨b, 0, none⟩) | 6 => own = .int .i64 (A0 : Nat) | 7 => own = .int .i64 (st : Nat) | 8 => own = .int .i64 (A1 : Nat) | 9 => own = .pointer (some ⟨b, 0, none⟩) | 10 => own = .pointer (some ⟨b, A1, none⟩) | 11 => own = .int .i64 v1 | 12 => own = .pointer (some ⟨b, 0, none⟩) | 13 => own = .int .i64 (A0 : Nat) | 14 => own = .int .i64 (st : Nat) | 15 => own = .int .i64 (2 * (st : Int)) | 16 => own = .int .i64 (A2 : Nat) | 17 => own = .pointer (some ⟨b, 0, none⟩) | 18 => own = .pointer (some ⟨b, A2, none⟩) | 19 => own = .int .i64 v2 | 20 => own = .pointer (some ⟨b, 0, none⟩) | 21 => own = .int .i64 (A0 : Nat) | 22 => own = .int .i64 (st : Nat) | 23 => own = .int .i64 (3 * (st : Int)) | 24 => own = .int .i64 (A3 : Nat) | 25 => own = .pointer (some ⟨b, 0, none⟩) | 26 => own = .pointer (some ⟨b, A3, none⟩) | 27 => own = .int .i64 v3 | 28 => own = .int .i64 v0 | 29 => own = .int .i64 v1 | 30 => own = .int .i64 v2 | 31 => own = .int .i64 v3 | _ => True) (fun kx wx => Ext w wx) (by kernel_rfl) (by kernel_rfl) (by kernel_rfl) ?g0_r1 ?gop_r1 ?gend_r1
 case g0_r1 => exact Ext.drewN _ 1
 case gop_r1 =>
  refine ⟨?_, ?_, ?o2, ?o3, ?o4, ?_, ?_, ?_, ?o8, ?o9, ?o10, ?o11, ?_, ?_, ?_, ?o15, ?o16, ?o17, ?o18, ?o19, ?_, ?_, ?_, ?o23, ?o24, ?o25, ?o26, ?o27, ?o28, ?o29, ?o30, ?o31, trivial⟩ <;> (intro kx xs wx hk hG hD hI Qo Kx hK hQo; simp only [patchS, Nat.reduceAdd, Nat.reduceEqDiff, ↓reduceIte] at hQo ⊢)
  case o2 =>
   have d0 : _ = _ := hD 0 rfl
   clear hD hI
   generalize xs 0 = y0 at *
   subst d0
   go_wp2
   exact hK.out _ _ ⟨rfl, hG, fun _ _ _ _ _ _ h => h⟩
  case o3 =>
   have d1 : _ = _ := hD 1 rfl
   have d2 : _ = _ := hD 2 rfl
   clear hD hI
   generalize xs 1 = y1 at *
   generalize xs 2 = y2 at *
   subst d1 d2
   go_wp2
   exact hK.out _ _ ⟨rfl, hG, fun _ _ _ _ _ _ h => h⟩
  case o4 =>
   have d3 : _ = _ := hD 3 rfl
   clear hD hI
   generalize xs 3 = y3 at *
   subst d3
   have cx := cell_ext hG C0.out
   go_wp2
   exact hK.out _ _ ⟨rfl, hG, fun _ _ _ _ _ _ h => h⟩
  case o8 =>
   have d6 : _ = _ := hD 6 rfl
   have d7 : _ = _ := hD 7 rfl
   clear hD hI
   generalize xs 6 = y6 at *
   generalize xs 7 = y7 at *
   subst d6 d7
   go_wp2
   exact hK.out _ _ ⟨by rw [← i1.out], hG, fun _ _ _ _ _ _ h => h⟩
  case o9 =>
   have d5 : _ = _ := hD 5 rfl
   clear hD hI
   generalize xs 5 = y5 at *
   subst d5
   go_wp2
   exact hK.out _ _ ⟨rfl, hG, fun _ _ _ _ _ _ h => h⟩
  case o10 =>
   have d8 : _ = _ := hD 8 rfl
   have d9 : _ = _ := hD 9 rfl
   clear hD hI
   generalize xs 8 = y8 at *
   generalize xs 9 = y9 at *
   subst d8 d9
   go_wp2
   exact hK.out _ _ ⟨rfl, hG, fun _ _ _ _ _ _ h => h⟩
  case o11 =>
   have d10 : _ = _ := hD 10 rfl
   clear hD hI
   generalize xs 10 = y10 at *
   subst d10
   have cx := cell_ext hG C1.out
   go_wp2
   exact hK.out _ _ ⟨rfl, hG, fun _ _ _ _ _ _ h => h⟩
  case o15 =>
   have d14 : _ = _ := hD 14 rfl
   clear hD hI
   generalize xs 14 = y14 at *
   subst d14
   go_wp2
   exact hK.out _ _ ⟨rfl, hG, fun _ _ _ _ _ _ h => h⟩
  case o16 =>
   have d13 : _ = _ := hD 13 rfl
   have d15 : _ = _ := hD 15 rfl
   clear hD hI
   generalize xs 13 = y13 at *
   generalize xs 15 = y15 at *
   subst d13 d15
   go_wp2
   exact hK.out _ _ ⟨by rw [← i2.out], hG, fun _ _ _ _ _ _ h => h⟩
  case o17 =>
   have d12 : _ = _ := hD 12 rfl
   clear hD hI
   generalize xs 12 = y12 at *
   subst d12
   go_wp2
   exact hK.out _ _ ⟨rfl, hG, fun _ _ _ _ _ _ h => h⟩
  case o18 =>
   have d16 : _ = _ := hD 16 rfl
   have d17 : _ = _ := hD 17 rfl
   clear hD hI
   generalize xs 16 = y16 at *
   generalize xs 17 = y17 at *
   subst d16 d17
   go_wp2
   exact hK.out _ _ ⟨rfl, hG, fun _ _ _ _ _ _ h => h⟩
  case o19 =>
   have d18 : _ = _ := hD 18 rfl
   clear hD hI
   generalize xs 18 = y18 at *
   subst d18
   have cx := cell_ext hG C2.out
   go_wp2
   exact hK.out _ _ ⟨rfl, hG, fun _ _ _ _ _ _ h => h⟩
  case o23 =>
   have d22 : _ = _ := hD 22 rfl
   clear hD hI
   generalize xs 22 = y22 at *
   subst d22
   go_wp2
   exact hK.out _ _ ⟨rfl, hG, fun _ _ _ _ _ _ h => h⟩
  case o24 =>
   have d21 : _ = _ := hD 21 rfl
   have d23 : _ = _ := hD 23 rfl
   clear hD hI
   generalize xs 21 = y21 at *
   generalize xs 23 = y23 at *
   subst d21 d23
   go_wp2
   exact hK.out _ _ ⟨by rw [← i3.out], hG, fun _ _ _ _ _ _ h => h⟩
  case o25 =>
   have d20 : _ = _ := hD 20 rfl
   clear hD hI
   generalize xs 20 = y20 at *
   subst d20
   go_wp2
   exact hK.out _ _ ⟨rfl, hG, fun _ _ _ _ _ _ h => h⟩
  case o26 =>
   have d24 : _ = _ := hD 24 rfl
   have d25 : _ = _ := hD 25 rfl
   clear hD hI
   generalize xs 24 = y24 at *
   generalize xs 25 = y25 at *
   subst d24 d25
   go_wp2
   exact hK.out _ _ ⟨rfl, hG, fun _ _ _ _ _ _ h => h⟩
  case o27 =>
   have d26 : _ = _ := hD 26 rfl
   clear hD hI
   generalize xs 26 = y26 at *
   subst d26
   have cx := cell_ext hG C3.out
   go_wp2
   exact hK.out _ _ ⟨rfl, hG, fun _ _ _ _ _ _ h => h⟩
  case o28 =>
   have d4 : _ = _ := hD 4 rfl
   clear hD hI
   generalize xs 4 = y4 at *
   subst d4
   go_wp2
   exact hK.out _ _ ⟨rfl, hG, fun _ _ _ _ _ _ h => h⟩
  case o29 =>
   have d11 : _ = _ := hD 11 rfl
   clear hD hI
   generalize xs 11 = y11 at *
   subst d11
   go_wp2
   exact hK.out _ _ ⟨rfl, hG, fun _ _ _ _ _ _ h => h⟩
  case o30 =>
   have d19 : _ = _ := hD 19 rfl
   clear hD hI
   generalize xs 19 = y19 at *
   subst d19
   go_wp2
   exact hK.out _ _ ⟨rfl, hG, fun _ _ _ _ _ _ h => h⟩
  case o31 =>
   have d27 : _ = _ := hD 27 rfl
   clear hD hI
   generalize xs 27 = y27 at *
   subst d27
   go_wp2
   exact hK.out _ _ ⟨rfl, hG, fun _ _ _ _ _ _ h => h⟩
  all_goals
   clear hD hI
   go_wp2
   exact hK.out _ _ ⟨rfl, hG, fun _ _ _ _ _ _ h => h⟩
 intro xs wx hV hG
 have d28 : _ = _ := hV 28 (by decide)
 have d29 : _ = _ := hV 29 (by decide)
 have d30 : _ = _ := hV 30 (by decide)
 have d31 : _ = _ := hV 31 (by decide)
 clear hV
 simp only [patchS, Nat.reduceAdd, Nat.reduceEqDiff, ↓reduceIte]
 generalize xs 0 = y0 at *
 generalize xs 1 = y1 at *
 generalize xs 2 = y2 at *
 generalize xs 3 = y3 at *
 generalize xs 4 = y4 at *
 generalize xs 5 = y5 at *
 generalize xs 6 = y6 at *
 generalize xs 7 = y7 at *
 generalize xs 8 = y8 at *
 generalize xs 9 = y9 at *
 generalize xs 10 = y10 at *
 generalize xs 11 = y11 at *
 generalize xs 12 = y12 at *
 generalize xs 13 = y13 at *
 generalize xs 14 = y14 at *
 generalize xs 15 = y15 at *
 generalize xs 16 = y16 at *
 generalize xs 17 = y17 at *
 generalize xs 18 = y18 at *
 generalize xs 19 = y19 at *
 generalize xs 20 = y20 at *
 generalize xs 21 = y21 at *
 generalize xs 22 = y22 at *
 generalize xs 23 = y23 at *
 generalize xs 24 = y24 at *
 generalize xs 25 = y25 at *
 generalize xs 26 = y26 at *
 generalize xs 27 = y27 at *
 generalize xs 28 = y28 at *
 generalize xs 29 = y29 at *
 generalize xs 30 = y30 at *
 generalize xs 31 = y31 at *
 replace hG : Ext w wx := hG
 subst d28 d29 d30 d31
 have G1 : IB wx b 29 zs ∧ w.grownBy wx (some b) := ⟨h.ext hG, grown_ext (grown_refl _ _) hG⟩
 clear hG h
 generalize wx = wa at *
 go_wp2_with fail
 refine wp_region_invL (by kernel_rfl) [(38, 0), (39, 1), (40, 2), (41, 3), (42, 4), (43, 5), (44, 6), (45, 7), (46, 8), (47, 9), (48, 10), (49, 11), (50, 12), (51, 13), (52, 14), (53, 15), (54, 16), (55, 17), (56, 18), (57, 19), (58, 20), (59, 21), (60, 23), (61, 24)] [[], [], [], [], [], [3, 4], [], [], [6, 7], [], [6, 7, 8, 9], [], [6, 7, 8, 9, 10, 11], [], [], [13, 14], [], [13, 14, 15, 16], [], [13, 14, 15, 16, 17, 18], [0], [0, 1, 6, 7, 8, 9, 10, 11, 12, 20], [0, 1, 6, 7, 8, 9, 10, 11, 12, 20, 21], [2], [0, 1, 2, 3, 4, 5, 6, 7, 8, 9, 10, 11, 12, 13, 14, 15, 16, 17, 18, 19, 20, 21, 22, 23], [0, 1, 2, 3, 4, 5, 6, 7, 8, 9, 10, 11, 12, 13, 14, 15, 16, 17, 18, 19, 20, 21, 22, 23, 24]] (fun i own ys wx => match i with | 0 => own = .pointer (some ⟨b, 0, none⟩) | 1 => own = .int .i64 (A0 : Nat) | 2 => own = .pointer (some ⟨b, 0, none⟩) | 3 => own = .int .i64 (A0 : Nat) | 4 => own = .int .i64 (st : Nat) | 5 => own = .int .i64 ((A1 : Nat)) | 6 => own = .int .i64 (v0) | 7 => own = .int .i64 (v1) | 8 => own = .int .i64 (v0 + v1) | 9 => own = .int .i64 (v2) | 10 => own = .int .i64 (v0 + v1 + v2) | 11 => own = .int .i64 (v3) | 12 => own = .int .i64 (v0 + v1 + v2 + v3) | 13 => own = .int .i64 (v0) | 14 => own = .int .i64 (v1) | 15 => own = .int .i64 (v0 + v1) | 16 => own = .int .i64 (v2) | 17 => own = .int .i64 (v0 + v1 - v2) | 18 => own = .int .i64 (v3) | 19 => own = .int .i64 (v0 + v1 - v2 - v3) | 20 => own = .pointer (some ⟨b, 0, none⟩) | 21 => own = .pointer (some ⟨b, A0, none⟩) | 22 => True | 23 => own = .pointer (some ⟨b, 0, none⟩) | 24 => own = .pointer (some ⟨b, A1, none⟩) | 25 => True | _ => True) (fun Lx wx => IB wx b 29 (stY (zs) A0 (v0 + v1 + v2 + v3) A1 (v0 + v1 - v2 - v3) (Lx 22) (Lx 25)) ∧ w.grownBy wx (some b)) (by kernel_rfl) (by kernel_rfl) (by kernel_rfl) ?g0_r2 ?gop_r2 ?gend_r2
 case g0_r2 => exact ⟨G1.1.drewN 1, gr_drew G1.2⟩
 case gop_r2 =>
  refine ⟨?o0, ?o1, ?_, ?_, ?_, ?o5, ?o6, ?o7, ?o8, ?o9, ?o10, ?o11, ?o12, ?_, ?_, ?o15, ?_, ?o17, ?_, ?o19, ?o20, ?o21, ?o22, ?o23, ?o24, ?o25, trivial⟩ <;> (intro Lx xs wx hG hl ha hb hD hI Qo Kx hK hQo; simp only [patchS, Nat.reduceAdd, Nat.reduceEqDiff, ↓reduceIte] at hQo ⊢)
  case o0 =>
   have l22 : Lx 22 = false := hb 22 rfl
   have l25 : Lx 25 = false := hb 25 rfl
   clear hl ha hb hD hI
   go_wp2
   exact hK.out _ _ ⟨rfl, hG, fun _ _ _ _ _ _ h => h⟩
  case o1 =>
   have l22 : Lx 22 = false := hb 22 rfl
   have l25 : Lx 25 = false := hb 25 rfl
   clear hl ha hb hD hI
   go_wp2
   exact hK.out _ _ ⟨rfl, hG, fun _ _ _ _ _ _ h => h⟩
  case o5 =>
   have l25 : Lx 25 = false := hb 25 rfl
   clear hl ha hb
   have d3 : _ = _ := hD 3 rfl
   have d4 : _ = _ := hD 4 rfl
   clear hD hI
   generalize xs 3 = y3 at *
   generalize xs 4 = y4 at *
   subst d3 d4
   go_wp2
   exact hK.out _ _ ⟨by rw [← i1.out], hG, fun _ _ _ _ _ _ h => h⟩
  case o6 =>
   have l22 : Lx 22 = false := hb 22 rfl
   have l25 : Lx 25 = false := hb 25 rfl
   clear hl ha hb hD hI
   go_wp2
   exact hK.out _ _ ⟨rfl, hG, fun _ _ _ _ _ _ h => h⟩
  case o7 =>
   have l22 : Lx 22 = false := hb 22 rfl
   have l25 : Lx 25 = false := hb 25 rfl
   clear hl ha hb hD hI
   go_wp2
   exact hK.out _ _ ⟨rfl, hG, fun _ _ _ _ _ _ h => h⟩
  case o8 =>
   have l22 : Lx 22 = false := hb 22 rfl
   have l25 : Lx 25 = false := hb 25 rfl
   clear hl ha hb
   have d6 : _ = _ := hD 6 rfl
   have d7 : _ = _ := hD 7 rfl
   clear hD hI
   generalize xs 6 = y6 at *
   generalize xs 7 = y7 at *
   subst d6 d7
   go_wp2
   exact hK.out _ _ ⟨rfl, hG, fun _ _ _ _ _ _ h => h⟩
  case o9 =>
   have l22 : Lx 22 = false := hb 22 rfl
   have l25 : Lx 25 = false := hb 25 rfl
   clear hl ha hb hD hI
   go_wp2
   exact hK.out _ _ ⟨rfl, hG, fun _ _ _ _ _ _ h => h⟩
  case o10 =>
   have l22 : Lx 22 = false := hb 22 rfl
   have l25 : Lx 25 = false := hb 25 rfl
   clear hl ha hb
   have d8 : _ = _ := hD 8 rfl
   have d9 : _ = _ := hD 9 rfl
   clear hD hI
   generalize xs 8 = y8 at *
   generalize xs 9 = y9 at *
   subst d8 d9
   go_wp2
   exact hK.out _ _ ⟨rfl, hG, fun _ _ _ _ _ _ h => h⟩
  case o11 =>
   have l22 : Lx 22 = false := hb 22 rfl
   have l25 : Lx 25 = false := hb 25 rfl
   clear hl ha hb hD hI
   go_wp2
   exact hK.out _ _ ⟨rfl, hG, fun _ _ _ _ _ _ h => h⟩
  case o12 =>
   have l22 : Lx 22 = false := hb 22 rfl
   have l25 : Lx 25 = false := hb 25 rfl
   clear hl ha hb
   have d10 : _ = _ := hD 10 rfl
   have d11 : _ = _ := hD 11 rfl
   clear hD hI
   generalize xs 10 = y10 at *
   generalize xs 11 = y11 at *
   subst d10 d11
   go_wp2
   exact hK.out _ _ ⟨rfl, hG, fun _ _ _ _ _ _ h => h⟩
  case o15 =>
   have l25 : Lx 25 = false := hb 25 rfl
   clear hl ha hb
   have d13 : _ = _ := hD 13 rfl
   have d14 : _ = _ := hD 14 rfl
   clear hD hI
   generalize xs 13 = y13 at *
   generalize xs 14 = y14 at *
   subst d13 d14
   go_wp2
   exact hK.out _ _ ⟨rfl, hG, fun _ _ _ _ _ _ h => h⟩
  case o17 =>
   have l25 : Lx 25 = false := hb 25 rfl
   clear hl ha hb
   have d15 : _ = _ := hD 15 rfl
   have d16 : _ = _ := hD 16 rfl
   clear hD hI
   generalize xs 15 = y15 at *
   generalize xs 16 = y16 at *
   subst d15 d16
   go_wp2
   exact hK.out _ _ ⟨rfl, hG, fun _ _ _ _ _ _ h => h⟩
  case o19 =>
   have l25 : Lx 25 = false := hb 25 rfl
   clear hl ha hb
   have d17 : _ = _ := hD 17 rfl
   have d18 : _ = _ := hD 18 rfl
   clear hD hI
   generalize xs 17 = y17 at *
   generalize xs 18 = y18 at *
   subst d17 d18
   go_wp2
   exact hK.out _ _ ⟨rfl, hG, fun _ _ _ _ _ _ h => h⟩
  case o20 =>
   have l22 : Lx 22 = false := hb 22 rfl
   have l25 : Lx 25 = false := hb 25 rfl
   clear hl ha hb
   have d0 : _ = _ := hD 0 rfl
   clear hD hI
   generalize xs 0 = y0 at *
   subst d0
   go_wp2
   exact hK.out _ _ ⟨rfl, hG, fun _ _ _ _ _ _ h => h⟩
  case o21 =>
   have l22 : Lx 22 = false := hb 22 rfl
   have l25 : Lx 25 = false := hb 25 rfl
   clear hl ha hb
   have d1 : _ = _ := hD 1 rfl
   have d20 : _ = _ := hD 20 rfl
   clear hD hI
   generalize xs 1 = y1 at *
   generalize xs 20 = y20 at *
   subst d1 d20
   go_wp2
   exact hK.out _ _ ⟨rfl, hG, fun _ _ _ _ _ _ h => h⟩
  case o22 =>
   have l22 : Lx 22 = false := hl
   have l25 : Lx 25 = false := hb 25 rfl
   clear hl ha hb
   have d12 : _ = _ := hD 12 rfl
   have d21 : _ = _ := hD 21 rfl
   clear hD hI
   generalize xs 12 = y12 at *
   generalize xs 21 = y21 at *
   subst d12 d21
   have cx := hG.1.cell (i := A0) (by rw [stY_len]; rw [Hl.out]; assumption)
   have fx := hG.1.frozen A0
   rw [l22] at hG
   have hG2 := hG.1.set A0 (v0 + v1 + v2 + v3)
   rw [stY_one _ _ _ _ _ _ n1] at hG2
   have hG3 := grownBy_trans hG.2 (gr_set _ b A0 (.int .i64 (v0 + v1 + v2 + v3)))
   go_wp2
   exact hQo undef _ (hK.out _ _ ⟨trivial, ⟨hG2, hG3⟩, fun _ _ _ _ _ _ h => h⟩)
  case o23 =>
   have l25 : Lx 25 = false := hb 25 rfl
   clear hl ha hb
   have d2 : _ = _ := hD 2 rfl
   clear hD hI
   generalize xs 2 = y2 at *
   subst d2
   go_wp2
   exact hK.out _ _ ⟨rfl, hG, fun _ _ _ _ _ _ h => h⟩
  case o24 =>
   have l22 : Lx 22 = true := ha 22 rfl
   have l25 : Lx 25 = false := hb 25 rfl
   clear hl ha hb
   have d5 : _ = _ := hD 5 rfl
   have d23 : _ = _ := hD 23 rfl
   clear hD hI
   generalize xs 5 = y5 at *
   generalize xs 23 = y23 at *
   subst d5 d23
   go_wp2
   exact hK.out _ _ ⟨rfl, hG, fun _ _ _ _ _ _ h => h⟩
  case o25 =>
   have l22 : Lx 22 = true := ha 22 rfl
   have l25 : Lx 25 = false := hl
   clear hl ha hb
   have d19 : _ = _ := hD 19 rfl
   have d24 : _ = _ := hD 24 rfl
   clear hD hI
   generalize xs 19 = y19 at *
   generalize xs 24 = y24 at *
   subst d19 d24
   have cx := hG.1.cell (i := A1) (by rw [stY_len]; rw [Hl.out]; assumption)
   have fx := hG.1.frozen A1
   rw [l25] at hG
   have hG2 := hG.1.set A1 (v0 + v1 - v2 - v3)
   rw [stY_two] at hG2
   have hG3 := grownBy_trans hG.2 (gr_set _ b A1 (.int .i64 (v0 + v1 - v2 - v3)))
   go_wp2
   exact hQo undef _ (hK.out _ _ ⟨trivial, ⟨hG2, hG3⟩, fun _ _ _ _ _ _ h => h⟩)
  all_goals
   have l25 : Lx 25 = false := hb 25 rfl
   clear hl ha hb hD hI
   go_wp2
   exact hK.out _ _ ⟨rfl, hG, fun _ _ _ _ _ _ h => h⟩
 intro xs wx hV hG0
 obtain ⟨Lx, hL, hG⟩ := hG0
 have l22 : Lx 22 = true := hL 22 (by decide)
 have l25 : Lx 25 = true := hL 25 (by decide)
 clear hL hV
 simp only [patchS, Nat.reduceAdd, Nat.reduceEqDiff, ↓reduceIte]
 generalize xs 0 = y0 at *
 generalize xs 1 = y1 at *
 generalize xs 2 = y2 at *
 generalize xs 3 = y3 at *
 generalize xs 4 = y4 at *
 generalize xs 5 = y5 at *
 generalize xs 6 = y6 at *
 generalize xs 7 = y7 at *
 generalize xs 8 = y8 at *
 generalize xs 9 = y9 at *
 generalize xs 10 = y10 at *
 generalize xs 11 = y11 at *
 generalize xs 12 = y12 at *
 generalize xs 13 = y13 at *
 generalize xs 14 = y14 at *
 generalize xs 15 = y15 at *
 generalize xs 16 = y16 at *
 generalize xs 17 = y17 at *
 generalize xs 18 = y18 at *
 generalize xs 19 = y19 at *
 generalize xs 20 = y20 at *
 generalize xs 21 = y21 at *
 generalize xs 22 = y22 at *
 generalize xs 23 = y23 at *
 generalize xs 24 = y24 at *
 generalize xs 25 = y25 at *
 replace hG : IB wx b 29 (stY (zs) A0 (v0 + v1 + v2 + v3) A1 (v0 + v1 - v2 - v3) (Lx 22) (Lx 25)) ∧ w.grownBy wx (some b) := hG
 rw [l22, l25] at hG
 have G2 := hG
 clear hG G1
 have e2 : stY zs A0 (v0 + v1 + v2 + v3) A1 (v0 + v1 - v2 - v3) true true = (zs.set A0 (v0 + v1 + v2 + v3)).set A1 (v0 + v1 - v2 - v3) := rfl
 rw [e2] at G2
 clear e2
 generalize wx = wb at *
 go_wp2_with fail
 refine wp_region_invL (by kernel_rfl) [(62, 0), (63, 1), (64, 2), (65, 3), (66, 4), (67, 5), (68, 6), (69, 7), (70, 8), (71, 9), (72, 10), (73, 11), (74, 12), (75, 13), (76, 14), (77, 15), (78, 16), (79, 17), (80, 18), (81, 19), (82, 20), (83, 21), (84, 22), (85, 23), (86, 24), (87, 25), (88, 27), (89, 28)] [[], [], [], [2], [1, 2, 3], [], [], [], [7], [6, 7, 8], [], [], [10, 11], [], [10, 11, 12, 13], [], [10, 11, 12, 13, 14, 15], [], [], [17, 18], [], [17, 18, 19, 20], [], [17, 18, 19, 20, 21, 22], [0], [0, 1, 2, 3, 4, 10, 11, 12, 13, 14, 15, 16, 24], [0, 1, 2, 3, 4, 10, 11, 12, 13, 14, 15, 16, 24, 25], [5], [0, 1, 2, 3, 4, 5, 6, 7, 8, 9, 10, 11, 12, 13, 14, 15, 16, 17, 18, 19, 20, 21, 22, 23, 24, 25, 26, 27], [0, 1, 2, 3, 4, 5, 6, 7, 8, 9, 10, 11, 12, 13, 14, 15, 16, 17, 18, 19, 20, 21, 22, 23, 24, 25, 26, 27, 28]] (fun i own ys wx => match i with | 0 => own = .pointer (some ⟨b, 0, none⟩) | 1 => own = .int .i64 (A0 : Nat) | 2 => own = .int .i64 (st : Nat) | 3 => own = .int .i64 (2 * (st : Int)) | 4 => own = .int .i64 ((A2 : Nat)) | 5 => own = .pointer (some ⟨b, 0, none⟩) | 6 => own = .int .i64 (A0 : Nat) | 7 => own = .int .i64 (st : Nat) | 8 => own = .int .i64 (3 * (st : Int)) | 9 => own = .int .i64 ((A3 : Nat)) | 10 => own = .int .i64 (v0) | 11 => own = .int .i64 (v1) | 12 => own = .int .i64 (v0 - v1) | 13 => own = .int .i64 (v2) | 14 => own = .int .i64 (v0 - v1 - v2) | 15 => own = .int .i64 (v3) | 16 => own = .int .i64 (v0 - v1 - v2 + v3) | 17 => own = .int .i64 (v0) | 18 => own = .int .i64 (v1) | 19 => own = .int .i64 (v0 - v1) | 20 => own = .int .i64 (v2) | 21 => own = .int .i64 (v0 - v1 + v2) | 22 => own = .int .i64 (v3) | 23 => own = .int .i64 (v0 - v1 + v2 - v3) | 24 => own = .pointer (some ⟨b, 0, none⟩) | 25 => own = .pointer (some ⟨b, A2, none⟩) | 26 => True | 27 => own = .pointer (some ⟨b, 0, none⟩) | 28 => own = .pointer (some ⟨b, A3, none⟩) | 29 => True | _ => True) (fun Lx wx => IB wx b 29 (stY ((zs.set A0 (v0 + v1 + v2 + v3)).set A1 (v0 + v1 - v2 - v3)) A2 (v0 - v1 - v2 + v3) A3 (v0 - v1 + v2 - v3) (Lx 26) (Lx 29)) ∧ w.grownBy wx (some b)) (by kernel_rfl) (by kernel_rfl) (by kernel_rfl) ?g0_r3 ?gop_r3 ?gend_r3
 case g0_r3 => exact ⟨G2.1.drewN 1, gr_drew G2.2⟩
 case gop_r3 =>
  refine ⟨?_, ?_, ?_, ?o3, ?o4, ?o5, ?o6, ?o7, ?o8, ?o9, ?_, ?_, ?o12, ?_, ?o14, ?_, ?o16, ?o17, ?o18, ?o19, ?o20, ?o21, ?o22, ?o23, ?o24, ?o25, ?o26, ?o27, ?o28, ?o29, trivial⟩ <;> (intro Lx xs wx hG hl ha hb hD hI Qo Kx hK hQo; simp only [patchS, Nat.reduceAdd, Nat.reduceEqDiff, ↓reduceIte] at hQo ⊢)
  case o3 =>
   have l26 : Lx 26 = false := hb 26 rfl
   have l29 : Lx 29 = false := hb 29 rfl
   clear hl ha hb
   have d2 : _ = _ := hD 2 rfl
   clear hD hI
   generalize xs 2 = y2 at *
   subst d2
   go_wp2
   exact hK.out _ _ ⟨rfl, hG, fun _ _ _ _ _ _ h => h⟩
  case o4 =>
   have l26 : Lx 26 = false := hb 26 rfl
   have l29 : Lx 29 = false := hb 29 rfl
   clear hl ha hb
   have d1 : _ = _ := hD 1 rfl
   have d3 : _ = _ := hD 3 rfl
   clear hD hI
   generalize xs 1 = y1 at *
   generalize xs 3 = y3 at *
   subst d1 d3
   go_wp2
   exact hK.out _ _ ⟨by rw [← i2.out], hG, fun _ _ _ _ _ _ h => h⟩
  case o5 =>
   have l29 : Lx 29 = false := hb 29 rfl
   clear hl ha hb hD hI
   go_wp2
   exact hK.out _ _ ⟨rfl, hG, fun _ _ _ _ _ _ h => h⟩
  case o6 =>
   have l29 : Lx 29 = false := hb 29 rfl
   clear hl ha hb hD hI
   go_wp2
   exact hK.out _ _ ⟨rfl, hG, fun _ _ _ _ _ _ h => h⟩
  case o7 =>
   have l29 : Lx 29 = false := hb 29 rfl
   clear hl ha hb hD hI
   go_wp2
   exact hK.out _ _ ⟨rfl, hG, fun _ _ _ _ _ _ h => h⟩
  case o8 =>
   have l29 : Lx 29 = false := hb 29 rfl
   clear hl ha hb
   have d7 : _ = _ := hD 7 rfl
   clear hD hI
   generalize xs 7 = y7 at *
   subst d7
   go_wp2
   exact hK.out _ _ ⟨rfl, hG, fun _ _ _ _ _ _ h => h⟩
  case o9 =>
   have l29 : Lx 29 = false := hb 29 rfl
   clear hl ha hb
   have d6 : _ = _ := hD 6 rfl
   have d8 : _ = _ := hD 8 rfl
   clear hD hI
   generalize xs 6 = y6 at *
   generalize xs 8 = y8 at *
   subst d6 d8
   go_wp2
   exact hK.out _ _ ⟨by rw [← i3.out], hG, fun _ _ _ _ _ _ h => h⟩
  case o12 =>
   have l26 : Lx 26 = false := hb 26 rfl
   have l29 : Lx 29 = false := hb 29 rfl
   clear hl ha hb
   have d10 : _ = _ := hD 10 rfl
   have d11 : _ = _ := hD 11 rfl
   clear hD hI
   generalize xs 10 = y10 at *
   generalize xs 11 = y11 at *
   subst d10 d11
   go_wp2
   exact hK.out _ _ ⟨rfl, hG, fun _ _ _ _ _ _ h => h⟩
  case o14 =>
   have l26 : Lx 26 = false := hb 26 rfl
   have l29 : Lx 29 = false := hb 29 rfl
   clear hl ha hb
   have d12 : _ = _ := hD 12 rfl
   have d13 : _ = _ := hD 13 rfl
   clear hD hI
   generalize xs 12 = y12 at *
   generalize xs 13 = y13 at *
   subst d12 d13
   go_wp2
   exact hK.out _ _ ⟨rfl, hG, fun _ _ _ _ _ _ h => h⟩
  case o16 =>
   have l26 : Lx 26 = false := hb 26 rfl
   have l29 : Lx 29 = false := hb 29 rfl
   clear hl ha hb
   have d14 : _ = _ := hD 14 rfl
   have d15 : _ = _ := hD 15 rfl
   clear hD hI
   generalize xs 14 = y14 at *
   generalize xs 15 = y15 at *
   subst d14 d15
   go_wp2
   exact hK.out _ _ ⟨rfl, hG, fun _ _ _ _ _ _ h => h⟩
  case o17 =>
   have l29 : Lx 29 = false := hb 29 rfl
   clear hl ha hb hD hI
   go_wp2
   exact hK.out _ _ ⟨rfl, hG, fun _ _ _ _ _ _ h => h⟩
  case o18 =>
   have l29 : Lx 29 = false := hb 29 rfl
   clear hl ha hb hD hI
   go_wp2
   exact hK.out _ _ ⟨rfl, hG, fun _ _ _ _ _ _ h => h⟩
  case o19 =>
   have l29 : Lx 29 = false := hb 29 rfl
   clear hl ha hb
   have d17 : _ = _ := hD 17 rfl
   have d18 : _ = _ := hD 18 rfl
   clear hD hI
   generalize xs 17 = y17 at *
   generalize xs 18 = y18 at *
   subst d17 d18
   go_wp2
   exact hK.out _ _ ⟨rfl, hG, fun _ _ _ _ _ _ h => h⟩
  case o20 =>
   have l29 : Lx 29 = false := hb 29 rfl
   clear hl ha hb hD hI
   go_wp2
   exact hK.out _ _ ⟨rfl, hG, fun _ _ _ _ _ _ h => h⟩
  case o21 =>
   have l29 : Lx 29 = false := hb 29 rfl
   clear hl ha hb
   have d19 : _ = _ := hD 19 rfl
   have d20 : _ = _ := hD 20 rfl
   clear hD hI
   generalize xs 19 = y19 at *
   generalize xs 20 = y20 at *
   subst d19 d20
   go_wp2
   exact hK.out _ _ ⟨rfl, hG, fun _ _ _ _ _ _ h => h⟩
  case o22 =>
   have l29 : Lx 29 = false := hb 29 rfl
   clear hl ha hb hD hI
   go_wp2
   exact hK.out _ _ ⟨rfl, hG, fun _ _ _ _ _ _ h => h⟩
  case o23 =>
   have l29 : Lx 29 = false := hb 29 rfl
   clear hl ha hb
   have d21 : _ = _ := hD 21 rfl
   have d22 : _ = _ := hD 22 rfl
   clear hD hI
   generalize xs 21 = y21 at *
   generalize xs 22 = y22 at *
   subst d21 d22
   go_wp2
   exact hK.out _ _ ⟨rfl, hG, fun _ _ _ _ _ _ h => h⟩
  case o24 =>
   have l26 : Lx 26 = false := hb 26 rfl
   have l29 : Lx 29 = false := hb 29 rfl
   clear hl ha hb
   have d0 : _ = _ := hD 0 rfl
   clear hD hI
   generalize xs 0 = y0 at *
   subst d0
   go_wp2
   exact hK.out _ _ ⟨rfl, hG, fun _ _ _ _ _ _ h => h⟩
  case o25 =>
   have l26 : Lx 26 = false := hb 26 rfl
   have l29 : Lx 29 = false := hb 29 rfl
   clear hl ha hb
   have d4 : _ = _ := hD 4 rfl
   have d24 : _ = _ := hD 24 rfl
   clear hD hI
   generalize xs 4 = y4 at *
   generalize xs 24 = y24 at *
   subst d4 d24
   go_wp2
   exact hK.out _ _ ⟨rfl, hG, fun _ _ _ _ _ _ h => h⟩
  case o26 =>
   have l26 : Lx 26 = false := hl
   have l29 : Lx 29 = false := hb 29 rfl
   clear hl ha hb
   have d16 : _ = _ := hD 16 rfl
   have d25 : _ = _ := hD 25 rfl
   clear hD hI
   generalize xs 16 = y16 at *
   generalize xs 25 = y25 at *
   subst d16 d25
   have cx := hG.1.cell (i := A2) (by rw [stY_len]; simp only [List.length_set]; rw [Hl.out]; assumption)
   have fx := hG.1.frozen A2
   rw [l26] at hG
   have hG2 := hG.1.set A2 (v0 - v1 - v2 + v3)
   rw [stY_one _ _ _ _ _ _ n2] at hG2
   have hG3 := grownBy_trans hG.2 (gr_set _ b A2 (.int .i64 (v0 - v1 - v2 + v3)))
   go_wp2
   exact hQo undef _ (hK.out _ _ ⟨trivial, ⟨hG2, hG3⟩, fun _ _ _ _ _ _ h => h⟩)
  case o27 =>
   have l29 : Lx 29 = false := hb 29 rfl
   clear hl ha hb
   have d5 : _ = _ := hD 5 rfl
   clear hD hI
   generalize xs 5 = y5 at *
   subst d5
   go_wp2
   exact hK.out _ _ ⟨rfl, hG, fun _ _ _ _ _ _ h => h⟩
  case o28 =>
   have l26 : Lx 26 = true := ha 26 rfl
   have l29 : Lx 29 = false := hb 29 rfl
   clear hl ha hb
   have d9 : _ = _ := hD 9 rfl
   have d27 : _ = _ := hD 27 rfl
   clear hD hI
   generalize xs 9 = y9 at *
   generalize xs 27 = y27 at *
   subst d9 d27
   go_wp2
   exact hK.out _ _ ⟨rfl, hG, fun _ _ _ _ _ _ h => h⟩
  case o29 =>
   have l26 : Lx 26 = true := ha 26 rfl
   have l29 : Lx 29 = false := hl
   clear hl ha hb
   have d23 : _ = _ := hD 23 rfl
   have d28 : _ = _ := hD 28 rfl
   clear hD hI
   generalize xs 23 = y23 at *
   generalize xs 28 = y28 at *
   subst d23 d28
   have cx := hG.1.cell (i := A3) (by rw [stY_len]; simp only [List.length_set]; rw [Hl.out]; assumption)
   have fx := hG.1.frozen A3
   rw [l29] at hG
   have hG2 := hG.1.set A3 (v0 - v1 + v2 - v3)
   rw [stY_two] at hG2
   have hG3 := grownBy_trans hG.2 (gr_set _ b A3 (.int .i64 (v0 - v1 + v2 - v3)))
   go_wp2
   exact hQo undef _ (hK.out _ _ ⟨trivial, ⟨hG2, hG3⟩, fun _ _ _ _ _ _ h => h⟩)
  all_goals
   have l26 : Lx 26 = false := hb 26 rfl
   have l29 : Lx 29 = false := hb 29 rfl
   clear hl ha hb hD hI
   go_wp2
   exact hK.out _ _ ⟨rfl, hG, fun _ _ _ _ _ _ h => h⟩
 intro xs wx hV hG0
 obtain ⟨Lx, hL, hG⟩ := hG0
 have l26 : Lx 26 = true := hL 26 (by decide)
 have l29 : Lx 29 = true := hL 29 (by decide)
 clear hL hV
 simp only [patchS, Nat.reduceAdd, Nat.reduceEqDiff, ↓reduceIte]
 generalize xs 0 = y0 at *
 generalize xs 1 = y1 at *
 generalize xs 2 = y2 at *
 generalize xs 3 = y3 at *
 generalize xs 4 = y4 at *
 generalize xs 5 = y5 at *
 generalize xs 6 = y6 at *
 generalize xs 7 = y7 at *
 generalize xs 8 = y8 at *
 generalize xs 9 = y9 at *
 generalize xs 10 = y10 at *
 generalize xs 11 = y11 at *
 generalize xs 12 = y12 at *
 generalize xs 13 = y13 at *
 generalize xs 14 = y14 at *
 generalize xs 15 = y15 at *
 generalize xs 16 = y16 at *
 generalize xs 17 = y17 at *
 generalize xs 18 = y18 at *
 generalize xs 19 = y19 at *
 generalize xs 20 = y20 at *
 generalize xs 21 = y21 at *
 generalize xs 22 = y22 at *
 generalize xs 23 = y23 at *
 generalize xs 24 = y24 at *
 generalize xs 25 = y25 at *
 generalize xs 26 = y26 at *
 generalize xs 27 = y27 at *
 generalize xs 28 = y28 at *
 generalize xs 29 = y29 at *
 replace hG : IB wx b 29 (stY ((zs.set A0 (v0 + v1 + v2 + v3)).set A1 (v0 + v1 - v2 - v3)) A2 (v0 - v1 - v2 + v3) A3 (v0 - v1 + v2 - v3) (Lx 26) (Lx 29)) ∧ w.grownBy wx (some b) := hG
 rw [l26, l29] at hG
 have e3 : stY ((zs.set A0 (v0 + v1 + v2 + v3)).set A1 (v0 + v1 - v2 - v3)) A2 (v0 - v1 - v2 + v3) A3 (v0 - v1 + v2 - v3) true true = bfS zs A0 st := HB.out.symm
 rw [e3] at hG
 have HG := Lib.hid hG
 clear hG G2 e3
 go_wp2
 go_end0
 exact ⟨rfl, HG.out.1, HG.out.2⟩
end Go.Proofs.YtbnhaegidfbgbaaGreatDoor
namespace Go.Proofs.YtbnhaegidfbgbaaGreatDoor
open Go.RowKit
set_option maxHeartbeats 1000000
set_option maxRecDepth 100000 in
theorem hadamard_any (zs : List Int) (w : World) (hl : zs.length = 16) (hb : bdA 1048576 zs) :
 Calls Tryz.prog 114 #[.agg (ic zs)] w fun e w' => e = .returned (.agg (ic (had zs))) ∧ Ext w w' := by
 have bR := bfR_bd hb
 have bC := bfC_bd (bR 4 (by omega))
 have hC : (bfC (bfR zs 4) 4).length = 16 := by rw [bfC_len, bfR_len, hl]
 have HC := Lib.hid hC
 have Hh := Lib.hid (bf_had hl)
 have Hl := Lib.hid hl
 have BR := Lib.hid bR
 have BC := Lib.hid bC
 clear hl hb bR bC hC
 have a2 := Ext.alloc (w.alloc (.cells (ic zs) 29)) (.cells (ic (List.replicate 16 0)) 29)
 have p0 := (IB.new w 29 zs).ext a2
 have p1 := IB.new (w.alloc (.cells (ic zs) 29)) 29 (List.replicate 16 0)
 have E1 := (Ext.alloc w (.cells (ic zs) 29)).trans a2
 simp only [World.size_alloc] at p1
 clear a2
 go_enter Tryz.func114, Tryz.ntmps114
 go_wp2_with fail
 go_loopw [5] (fun i wr => ∃ k : Nat, k ≤ 4 ∧ i = .int .i64 k ∧ Ext w wr ∧ IB wr w.heap.size 29 (bfR zs k) ∧ IB wr (w.heap.size + 1) 29 (List.replicate 16 0)) (fun i _ => 4 - (intOf i).toNat)
 case atStart => exact ⟨0, by omega, rfl, E1, p0, p1⟩
 case round =>
  obtain ⟨k, hk, rfl, E2, q0, q1⟩ := hrel
  clear p0 p1 E1
  by_cases hlt : k < 4
  ·have hd : decide ((k : Int) < 4) = true := by simp; omega
   have hbk := Lib.hid (bdA_mono (BR.out k hk) (show (268435456 : Int) ≤ 1099511627776 by omega))
   go_wp2_with fail
   have hcall := butterflies_any w.heap.size (4 * k) 1 (bfR zs k) wr q0 (by rw [bfR_len, Hl.out]) hbk.out (by omega) (by omega)
   rw [show ((4 * k : Nat) : Int) = 4 * (k : Int) by omega] at hcall
   refine hcall.mono ?_
   rintro e w3 ⟨rfl, i3, g3⟩
   clear hcall
   go_wp2
   go_roundw
   case rel => exact ⟨k + 1, by omega, by go_num, Ext.grown E2 g3 (fun q hq => by cases hq; omega), i3, q1.gr g3 (by simp)⟩
   case measure => simp [intOf]; omega
  ·have hk4 := Lib.hid (show k = 4 by omega)
   have hd : decide ((k : Int) < 4) = false := by simp; omega
   rw [hk4.out] at q0
   go_wp2_with fail
   go_loopw [12] (fun i wr => ∃ k : Nat, k ≤ 4 ∧ i = .int .i64 k ∧ Ext w wr ∧ IB wr w.heap.size 29 (bfC (bfR zs 4) k) ∧ IB wr (w.heap.size + 1) 29 (List.replicate 16 0)) (fun i _ => 4 - (intOf i).toNat)
   case atStart => exact ⟨0, by omega, rfl, E2, q0, q1⟩
   case round =>
    obtain ⟨k, hk, rfl, E3, r0, r1⟩ := hrel
    clear q0 q1 E2
    by_cases hlt : k < 4
    ·have hd : decide ((k : Int) < 4) = true := by simp; omega
     have hbk := Lib.hid (bdA_mono (BC.out k hk) (show (68719476736 : Int) ≤ 1099511627776 by omega))
     go_wp2_with fail
     have hcall := butterflies_any w.heap.size k 4 (bfC (bfR zs 4) k) wr r0 (by rw [bfC_len, bfR_len, Hl.out]) hbk.out (by omega) (by omega)
     refine hcall.mono ?_
     rintro e w3 ⟨rfl, i3, g3⟩
     clear hcall
     go_wp2
     go_roundw
     case rel => exact ⟨k + 1, by omega, by go_num, Ext.grown E3 g3 (fun q hq => by cases hq; omega), i3, r1.gr g3 (by simp)⟩
     case measure => simp [intOf]; omega
    ·obtain rfl : k = 4 := by omega
     go_wp2_with (first | (refine wpList_iload 29 _ rfl rfl r0 0 16 rfl _ Tryz.underlying29 rfl size_A16 (by rw [HC.out]; omega) _ (by rw [sub_all _ _ HC.out]) ?_) | (refine wpList_istore 29 _ _ rfl rfl r1 0 16 rfl _ rfl _ rfl size_A16 HC.out (by simp) ?_; intro w6 p6 g6; refine Hid.out ?_))
     rw [spl_all (by rw [HC.out]; simp)] at p6
     have E6 : Ext w w6 := Ext.grown E3 g6 (fun q hq => by cases hq; omega)
     refine Lib.hid ?_
     go_wp2
     exact bodyPost_ret (v := .agg (ic (had zs))) (results_cell_row rfl _ _ (w.heap.size + 1) 29 (ic (had zs)) (0, 0) _ rfl (by rw [← Hh.out]; exact p6) Tryz.underlying29 rfl (by rw [ic_size, had_len]; exact size_A16)) rfl ⟨rfl, E6⟩
end Go.Proofs.YtbnhaegidfbgbaaGreatDoor
namespace Go.Proofs.YtbnhaegidfbgbaaGreatDoor
open Go.RowKit
set_option maxHeartbeats 1000000
/-- The list of f's first k numbers, zeros behind them. -/
theorem had_mix (zs : List Int) {U V : Nat} (hU : U < 4) (hV : V < 4) : (mixI (had zs) (List.replicate 16 0) (4 * U + V)).set (4 * U + V) (sumZ (hadT zs U V) 16) = mixI (had zs) (List.replicate 16 0) (4 * U + (V + 1)) := by
 have h := nth_had zs (4 * U + V) (by omega)
 rw [show (4 * U + V) / 4 = U by omega, show (4 * U + V) % 4 = V by omega] at h
 rw [← h, mixI_set _ _ _ 16 (had_len _) (by simp) (by omega), Nat.add_assoc]
theorem mul4 (J : Nat) : 4 * (J + 1) = 4 * J + 4 := by omega
def sgnL : List Int := [1, 1, 1, 1, 1, 1, -1, -1, 1, -1, -1, 1, 1, -1, 1, -1]
theorem l3Sign_any (u y : Nat) (w : World) (hu : u < 4) (hy : y < 4) :
 Calls Tryz.prog 182 #[.int .i64 (u : Nat), .int .i64 (y : Nat)] w fun e w' => e = .returned (.int .i64 (sgn u y)) ∧ w = w' := by
 have HS := Lib.hid (show nth sgnL (4 * u + y) = sgn u y from rfl)
 go_enter Tryz.func182, Tryz.ntmps182
 go_wp2_with (refine wpList_iindex _ _ _ rfl rfl sgnL rfl (4 * u + y) 16 _ rfl (by omega) _ Tryz.underlying29 Tryz.underlying3 size_int (by omega) rfl ?_)
 go_ret
 exact ⟨ret_int HS.out, rfl⟩
set_option maxRecDepth 100000 in
set_option maxHeartbeats 2000000 in
theorem l3Apply_any (zs : List Int) (w : World) (hl : zs.length = 16) (hb : bdA 1048576 zs) :
 Calls Tryz.prog 169 #[.agg (ic zs)] w fun e w' => e = .returned (.agg (ic (had zs))) ∧ Ext w w' := by
 have Hl := Lib.hid hl
 have HB := Lib.hid hb
 have hz : (List.replicate 16 (0 : Int)).length = 16 := by simp
 have Hz := Lib.hid hz
 clear hl hb hz
 have a2 := Ext.alloc (w.alloc (.cells (ic zs) 29)) (.cells (ic (List.replicate 16 0)) 29)
 have a3 := Ext.alloc ((w.alloc (.cells (ic zs) 29)).alloc (.cells (ic (List.replicate 16 0)) 29)) (.cells (ic (List.replicate 16 0)) 29)
 have p0 := ((IB.new w 29 zs).ext a2).ext a3
 have p1 := (IB.new (w.alloc (.cells (ic zs) 29)) 29 (List.replicate 16 0)).ext a3
 have p2 := IB.new ((w.alloc (.cells (ic zs) 29)).alloc (.cells (ic (List.replicate 16 0)) 29)) 29 (List.replicate 16 0)
 have E1 := ((Ext.alloc w (.cells (ic zs) 29)).trans a2).trans a3
 simp only [World.size_alloc] at p1 p2
 clear a2 a3
 go_enter Tryz.func169, Tryz.ntmps169
 go_wp2_with fail
 obtain ⟨B, hB⟩ : ∃ B, B = w.heap.size := ⟨_, rfl⟩
 try simp only [World.size_alloc]
 rw [← hB] at p0 p1 p2 ⊢
 have hwB : w.heap.size ≤ B := by omega
 have HB0 := Lib.hid hB
 clear hB
 go_loopw [4] (fun u wr => ∃ U : Nat, U ≤ 4 ∧ u = .int .i64 U ∧ Ext w wr ∧ IB wr B 29 zs ∧ IB wr (B + 1) 29 (List.replicate 16 0) ∧ IB wr (B + 1 + 1) 29 (mixI (had zs) (List.replicate 16 0) (4 * U))) (fun u _ => 4 - (intOf u).toNat)
 case atStart => exact ⟨0, by omega, rfl, E1, p0, p1, by rw [mixI_zero]; exact p2⟩
 case round =>
  obtain ⟨U, hU, rfl, E2, q0, q1, q2⟩ := hrel
  obtain ⟨wo, rfl⟩ : ∃ wo : World, wo = wr := ⟨_, rfl⟩
  clear p0 p1 p2 E1
  by_cases hltU : U < 4
  ·have hdU : decide ((U : Int) < 4) = true := by simp; omega
   go_wp2_with fail
   go_loopw [5] (fun v wr2 => ∃ V : Nat, V ≤ 4 ∧ v = .int .i64 V ∧ Ext w wr2 ∧ IB wr2 B 29 zs ∧ IB wr2 (B + 1) 29 (List.replicate 16 0) ∧ IB wr2 (B + 1 + 1) 29 (mixI (had zs) (List.replicate 16 0) (4 * U + V))) (fun v _ => 4 - (intOf v).toNat)
   case atStart => exact ⟨0, by omega, rfl, E2, q0, q1, q2⟩
   case round =>
    obtain ⟨V, hV, rfl, E3, r0, r1, r2⟩ := hrel
    obtain ⟨wo2, rfl⟩ : ∃ wo2 : World, wo2 = wr := ⟨_, rfl⟩
    clear q0 q1 q2 E2
    by_cases hltV : V < 4
    ·have hdV : decide ((V : Int) < 4) = true := by simp; omega
     have Hmix := Lib.hid (had_mix zs hltU hltV)
     have hrng : ∀ t, t ≤ 16 → -16777216 ≤ sumZ (hadT zs U V) t ∧ sumZ (hadT zs U V) t ≤ 16777216 := fun t ht => by
      have := sumZ_rng (f := hadT zs U V) (B := 1048576) (n := t) (fun i hi => hadT_rng (HB.out i) hltU hltV (by omega))
      omega
     have Hrng := Lib.hid hrng
     have Hsum := Lib.hid (fun t => show sumZ (hadT zs U V) (t + 1) = sumZ (hadT zs U V) t + sgn U (t / 4) * sgn V (t % 4) * nth zs t from rfl)
     clear hrng
     obtain ⟨S, hS⟩ : ∃ S : Nat → Int, S = sumZ (hadT zs U V) := ⟨_, rfl⟩
     have HS0 := Lib.hid (show S 0 = 0 by rw [hS]; rfl)
     rw [← hS] at Hmix Hrng Hsum
     have HS := Lib.hid hS
     clear hS
     go_wp2_with fail
     go_loopw [6, 7] (fun n y wr3 => ∃ Y : Nat, Y ≤ 4 ∧ y = .int .i64 Y ∧ n = .int .i64 (S (4 * Y)) ∧ Ext wo2 wr3) (fun _ y _ => 4 - (intOf y).toNat)
     case atStart => exact ⟨0, by omega, rfl, by rw [Nat.mul_zero, HS0.out], Below.refl _ _⟩
     case round =>
      obtain ⟨Y, hY, rfl, rfl, E4⟩ := hrel
      obtain ⟨wo3, rfl⟩ : ∃ wo3 : World, wo3 = wr := ⟨_, rfl⟩
      by_cases hltY : Y < 4
      ·have hdY : decide ((Y : Int) < 4) = true := by simp; omega
       go_wp2_with fail
       go_loopw [6, 8] (fun n x wr4 => ∃ X : Nat, X ≤ 4 ∧ x = .int .i64 X ∧ n = .int .i64 (S (4 * Y + X)) ∧ Ext wo2 wr4) (fun _ x _ => 4 - (intOf x).toNat)
       case atStart => exact ⟨0, by omega, rfl, rfl, E4⟩
       case round =>
        obtain ⟨X, hX, rfl, rfl, E5⟩ := hrel
        obtain ⟨wo4, rfl⟩ : ∃ wo4 : World, wo4 = wr := ⟨_, rfl⟩
        clear E4
        by_cases hltX : X < 4
        ·have hdX : decide ((X : Int) < 4) = true := by simp; omega
         have hn0 := Hrng.out (4 * Y + X) (by omega)
         have hsm := Hsum.out (4 * Y + X)
         rw [show (4 * Y + X) / 4 = Y by omega, show (4 * Y + X) % 4 = X by omega] at hsm
         have g1 := sgn_one hltU hltY
         have g2 := sgn_one hltV hltX
         have hz := HB.out (4 * Y + X)
         have hc := (r0.ext E5).cell (i := 4 * Y + X) (by rw [Hl.out]; omega)
         have C := Lib.hid hc
         have HA1 := Lib.hid (fun w => l3Sign_any U Y w hltU hltY)
         have HA2 := Lib.hid (fun w => l3Sign_any V X w hltV hltX)
         generalize sgn U Y = s1 at *
         generalize sgn V X = s2 at *
         generalize nth zs (4 * Y + X) = z at *
         have hp : -1 ≤ s1 * s2 ∧ s1 * s2 ≤ 1 := by rcases g1 with h | h <;> rcases g2 with h2 | h2 <;> rw [h, h2] <;> omega
         have hpz : -1048576 ≤ s1 * s2 * z ∧ s1 * s2 * z ≤ 1048576 := by rcases g1 with h | h <;> rcases g2 with h2 | h2 <;> rw [h, h2] <;> omega
         have Hsm := Lib.hid hsm
         have Hnx := Lib.hid (Hrng.out (4 * Y + X + 1) (by omega))
         obtain ⟨N, hN⟩ : ∃ N, N = S (4 * Y + X) := ⟨_, rfl⟩
         rw [← hN] at hn0 Hsm ⊢
         have HN := Lib.hid hN
         clear hsm hc hN g1 g2
         go_wp2_with fail
         refine wp_region_inv2 (by kernel_rfl) [(6, 16), (26, 0), (27, 1), (28, 2), (29, 3), (30, 4), (31, 5), (32, 6), (33, 7), (34, 8), (35, 9), (36, 10), (37, 11), (38, 12), (39, 13), (40, 14), (41, 15)] [[], [], [], [1, 2], [], [], [1, 2, 3, 4, 5], [1, 2, 3, 4, 5, 6], [], [8], [], [8, 9, 10], [8, 9, 10, 11], [8, 9, 10, 11, 12], [1, 2, 3, 4, 5, 6, 7, 8, 9, 10, 11, 12, 13], [0, 1, 2, 3, 4, 5, 6, 7, 8, 9, 10, 11, 12, 13, 14], [0, 1, 2, 3, 4, 5, 6, 7, 8, 9, 10, 11, 12, 13, 14, 15]] (fun i own ys wx => match i with | 0 => own = .int .i64 N | 1 => own = .int .i64 (U : Nat) | 2 => own = .int .i64 (Y : Nat) | 3 => own = .int .i64 s1 | 4 => own = .int .i64 (V : Nat) | 5 => own = .int .i64 (X : Nat) | 6 => own = .int .i64 s2 | 7 => own = .int .i64 (s1 * s2) | 8 => own = .int .i64 (Y : Nat) | 9 => own = .int .i64 (4 * (Y : Int)) | 10 => own = .int .i64 (X : Nat) | 11 => own = .int .i64 (4 * (Y : Int) + (X : Int)) | 12 => own = .pointer (some ⟨B, 4 * Y + X, none⟩) | 13 => own = .int .i64 z | 14 => own = .int .i64 (s1 * s2 * z) | 15 => own = .int .i64 (N + s1 * s2 * z) | 16 => own = .int .i64 (N + s1 * s2 * z) | _ => True) (fun kx wx => Ext wo4 wx) (by kernel_rfl) (by kernel_rfl) (by kernel_rfl) ?g0_r1 ?gop_r1 ?gend_r1
         case g0_r1 => exact Ext.drewN _ 1
         case gop_r1 =>
          refine ⟨?o0, ?_, ?_, ?o3, ?_, ?_, ?o6, ?o7, ?_, ?o9, ?_, ?o11, ?o12, ?o13, ?o14, ?o15, ?o16, trivial⟩ <;> (intro kx xs wx hk hG hD hI Qo Kx hK hQo; simp only [patchS, Nat.reduceAdd, Nat.reduceEqDiff, ↓reduceIte] at hQo ⊢)
          case o0 =>
           have i16 := hI 16 6 rfl rfl
           simp only [List.getD_cons_succ, List.getD_cons_zero] at i16
           clear hD hI
           rw [i16] at hQo ⊢
           clear i16
           go_wp2
           exact hK.out _ _ ⟨rfl, hG, fun _ _ _ _ _ _ h => h⟩
          case o3 =>
           have d1 : _ = _ := hD 1 rfl
           have d2 : _ = _ := hD 2 rfl
           clear hD hI
           generalize xs 1 = y1 at *
           generalize xs 2 = y2 at *
           subst d1 d2
           go_wp2_with fail
           refine (HA1.out _).mono ?_
           rintro e w9 ⟨rfl, rfl⟩
           go_wp2
           exact hK.out _ _ ⟨rfl, hG, fun _ _ _ _ _ _ h => h⟩
          case o6 =>
           have d4 : _ = _ := hD 4 rfl
           have d5 : _ = _ := hD 5 rfl
           clear hD hI
           generalize xs 4 = y4 at *
           generalize xs 5 = y5 at *
           subst d4 d5
           go_wp2_with fail
           refine (HA2.out _).mono ?_
           rintro e w9 ⟨rfl, rfl⟩
           go_wp2
           exact hK.out _ _ ⟨rfl, hG, fun _ _ _ _ _ _ h => h⟩
          case o7 =>
           have d3 : _ = _ := hD 3 rfl
           have d6 : _ = _ := hD 6 rfl
           clear hD hI
           generalize xs 3 = y3 at *
           generalize xs 6 = y6 at *
           subst d3 d6
           go_wp2
           exact hK.out _ _ ⟨rfl, hG, fun _ _ _ _ _ _ h => h⟩
          case o9 =>
           have d8 : _ = _ := hD 8 rfl
           clear hD hI
           generalize xs 8 = y8 at *
           subst d8
           go_wp2
           exact hK.out _ _ ⟨rfl, hG, fun _ _ _ _ _ _ h => h⟩
          case o11 =>
           have d9 : _ = _ := hD 9 rfl
           have d10 : _ = _ := hD 10 rfl
           clear hD hI
           generalize xs 9 = y9 at *
           generalize xs 10 = y10 at *
           subst d9 d10
           go_wp2
           exact hK.out _ _ ⟨rfl, hG, fun _ _ _ _ _ _ h => h⟩
          case o12 =>
           have d11 : _ = _ := hD 11 rfl
           clear hD hI
           generalize xs 11 = y11 at *
           subst d11
           go_wp2
           exact hK.out _ _ ⟨rfl, hG, fun _ _ _ _ _ _ h => h⟩
          case o13 =>
           have d12 : _ = _ := hD 12 rfl
           clear hD hI
           generalize xs 12 = y12 at *
           subst d12
           have cx := cell_ext hG C.out
           go_wp2
           exact hK.out _ _ ⟨rfl, hG, fun _ _ _ _ _ _ h => h⟩
          case o14 =>
           have d7 : _ = _ := hD 7 rfl
           have d13 : _ = _ := hD 13 rfl
           clear hD hI
           generalize xs 7 = y7 at *
           generalize xs 13 = y13 at *
           subst d7 d13
           go_wp2
           exact hK.out _ _ ⟨rfl, hG, fun _ _ _ _ _ _ h => h⟩
          case o15 =>
           have d0 : _ = _ := hD 0 rfl
           have d14 : _ = _ := hD 14 rfl
           clear hD hI
           generalize xs 0 = y0 at *
           generalize xs 14 = y14 at *
           subst d0 d14
           go_wp2
           exact hK.out _ _ ⟨rfl, hG, fun _ _ _ _ _ _ h => h⟩
          case o16 =>
           have d15 : _ = _ := hD 15 rfl
           clear hD hI
           generalize xs 15 = y15 at *
           subst d15
           go_wp2
           exact hK.out _ _ ⟨rfl, hG, fun _ _ _ _ _ _ h => h⟩
          all_goals
           clear hD hI
           go_wp2
           exact hK.out _ _ ⟨rfl, hG, fun _ _ _ _ _ _ h => h⟩
         intro xs wx hV hG
         have d16 : _ = _ := hV 16 (by decide)
         clear hV
         simp only [patchS, Nat.reduceAdd, Nat.reduceEqDiff, ↓reduceIte]
         generalize xs 0 = y0 at *
         generalize xs 1 = y1 at *
         generalize xs 2 = y2 at *
         generalize xs 3 = y3 at *
         generalize xs 4 = y4 at *
         generalize xs 5 = y5 at *
         generalize xs 6 = y6 at *
         generalize xs 7 = y7 at *
         generalize xs 8 = y8 at *
         generalize xs 9 = y9 at *
         generalize xs 10 = y10 at *
         generalize xs 11 = y11 at *
         generalize xs 12 = y12 at *
         generalize xs 13 = y13 at *
         generalize xs 14 = y14 at *
         generalize xs 15 = y15 at *
         generalize xs 16 = y16 at *
         replace hG : Ext wo4 wx := hG
         subst d16
         go_wp2
         go_roundw
         case rel => exact ⟨X + 1, by omega, by go_num, by rw [← Nat.add_assoc, Hsm.out], E5.trans hG⟩
         case measure => simp [intOf]; omega
        ·obtain rfl : X = 4 := by omega
         go_wp2
         go_roundw
         case rel => exact ⟨Y + 1, by omega, by go_num, by rw [mul4], E5⟩
         case measure => simp [intOf]; omega
      ·obtain rfl : Y = 4 := by omega
       have hn0 := Hrng.out (4 * 4) (by omega)
       have r2' := r2.ext E4
       have cB := r2'.cell (i := 4 * U + V) (by rw [mixI_len _ _ _ 16 (had_len _) Hz.out]; omega)
       have fB := r2'.frozen (4 * U + V)
       go_wp2
       go_roundw
       case rel =>
        have s2' := r2'.set (4 * U + V) (S (4 * 4))
        rw [show 4 * 4 = 16 from rfl, Hmix.out] at s2'
        exact ⟨V + 1, by omega, by go_num, Ext.grown (E3.trans E4) (gr_set _ _ _ _) (fun q hq => by cases hq; omega), (r0.ext E4).set_other (by omega), (r1.ext E4).set_other (by omega), s2'⟩
       case measure => simp [intOf]; omega
    ·obtain rfl : V = 4 := by omega
     go_wp2
     go_roundw
     case rel => exact ⟨U + 1, by omega, by go_num, E3, r0, r1, by rw [mul4]; exact r2⟩
     case measure => simp [intOf]; omega
  ·obtain rfl : U = 4 := by omega
   rw [show 4 * 4 = 16 from rfl, mixI_all _ _ 16 (had_len _) Hz.out] at q2
   have HL := Lib.hid (had_len zs)
   go_wp2_with (first | (refine wpList_iload 29 _ rfl rfl q2 0 16 rfl _ Tryz.underlying29 rfl size_A16 (by rw [HL.out]; omega) _ (by rw [sub_all _ _ HL.out]) ?_) | (refine wpList_istore 29 _ _ rfl rfl q1 0 16 rfl _ rfl _ rfl size_A16 HL.out (by simp) ?_; intro w6 p6 g6; refine Hid.out ?_))
   rw [spl_all (by rw [HL.out]; simp)] at p6
   have E6 : Ext w w6 := Ext.grown E2 g6 (fun q hq => by cases hq; omega)
   refine Lib.hid ?_
   go_wp2
   exact bodyPost_ret (v := .agg (ic (had zs))) (results_cell_row rfl _ _ (B + 1) 29 (ic (had zs)) (0, 0) _ rfl p6 Tryz.underlying29 rfl (by rw [ic_size, had_len]; exact size_A16)) rfl ⟨rfl, E6⟩
end Go.Proofs.YtbnhaegidfbgbaaGreatDoor
namespace Go.Proofs.YtbnhaegidfbgbaaGreatDoor
open Go.RowKit
set_option maxHeartbeats 400000
set_option maxRecDepth 100000 in
theorem spec_l3Ok_any (zs : List Int) (B : Int) (w : World) (hl : zs.length = 16) (hB : 0 ≤ B) (hB2 : B ≤ 1099511627776) :
 Calls Tryz.prog 137 #[.agg (ic zs), .int .i64 B] w fun e w' => e = .returned (.bool (inB B zs)) ∧ Ext w w' := by
 have H := IB.new w 29 zs
 have Hl := Lib.hid hl
 clear hl
 go_enter Tryz.func137, Tryz.ntmps137
 go_wp2
 go_loopw [5] (fun i wr => ∃ k : Nat, k ≤ 16 ∧ i = .int .i64 k ∧ Ext w wr ∧ IB wr w.heap.size 29 zs ∧ Hid (∀ j, j < k → -B ≤ nth zs j ∧ nth zs j ≤ B)) (fun i _ => 16 - (intOf i).toNat)
 case atStart => exact ⟨0, by omega, rfl, Ext.alloc _ _, H, Lib.hid (fun j hj => by omega)⟩
 case round =>
  obtain ⟨k, hk, rfl, E2, H2, hall⟩ := hrel
  clear H
  by_cases hlt : k < 16
  ·have hc := H2.cell (i := k) (by rw [Hl.out]; exact hlt)
   by_cases h1 : -B ≤ nth zs k ∧ nth zs k ≤ B
   ·have hall2 := Lib.hid (show ∀ j, j < k + 1 → -B ≤ nth zs j ∧ nth zs j ≤ B from fun j hj => by
     by_cases hjk : j = k
     ·subst hjk; exact h1
     ·exact hall.out j (by omega))
    go_wp2_with fail
    refine (l1In_yes _ _ _ _ h1.1 h1.2).mono ?_
    rintro e w1 ⟨rfl, rfl⟩
    clear h1
    go_wp2
    go_roundw
    case rel => exact ⟨k + 1, by omega, by go_num, E2, H2, hall2⟩
    case measure => simp [intOf]; omega
   ·have hno := Lib.hid (inB_no (B := B) (j := k) (by rw [Hl.out]; exact hlt) (by omega))
    have h2 := Lib.hid (show nth zs k < -B ∨ B < nth zs k by omega)
    clear h1
    go_wp2_with fail
    refine (l1In_no _ _ _ _ h2.out).mono ?_
    rintro e w1 ⟨rfl, rfl⟩
    go_wp2
    go_ret
    exact ⟨(ret_bool hno.out).symm, E2⟩
  ·obtain rfl : k = 16 := by omega
   have hy := Lib.hid (inB_yes (B := B) (zs := zs) (by rw [Hl.out]; exact hall.out))
   go_wp2
   go_ret
   exact ⟨(ret_bool hy.out).symm, E2⟩
end Go.Proofs.YtbnhaegidfbgbaaGreatDoor
namespace Go.Proofs.YtbnhaegidfbgbaaGreatDoor
open Go.RowKit
set_option maxHeartbeats 1000000
theorem nth_mixR {xs ys : List Int} {n k j : Nat} (h1 : xs.length = n) (h2 : ys.length = n) (hj : k ≤ j) (hk : j < n) : nth (mixI xs ys k) j = nth ys j := by
 unfold nth mixI
 have hl : (xs.take k).length = k := by simp; omega
 rw [List.getD_eq_getElem?_getD, List.getElem?_append_right (by omega), List.getElem?_drop, hl, show k + (j - k) = j by omega, ← List.getD_eq_getElem?_getD]
theorem nth_ihad (b : List Int) {k : Nat} (h : k < 16) : nth (ihad b) k = (nth (had b) k + 8) / 16 := by
 have h1 : k < (had b).length := by rw [had_len]; exact h
 rw [nth_eq _ _ h1, nth_eq _ _ (by rw [ihad_len]; exact h)]
 simp [ihad]
theorem had_bdA {b : List Int} (h : bdA 1048576 b) : bdA 16777216 (had b) := bdA_of (by omega) fun j hj => by
 rw [had_len] at hj
 have := had_rng (b := b) (B := 1048576) (fun t _ => h t) hj
 omega
theorem inB_bdA {b : List Int} {B M : Int} (hB : 0 ≤ M) (h : inB B b = true) (hm : B ≤ M) : bdA M b := bdA_of hB fun j hj => by
 have := inB_iff.1 h j hj
 omega
theorem nth_map_dq (zs : List Int) (q : Nat) {k : Nat} (h : k < zs.length) : nth (zs.map (fun x => dq x q)) k = dq (nth zs k) q := by simp [nth, h]
theorem dqs_rng (zs : List Int) (q : Nat) : inB 4080 (zs.map (fun x => dq x q)) = true := inB_yes fun j hj => by
 rw [nth_map_dq _ _ (by simpa using hj)]
 exact dq_rng _ _
theorem ne_blk {a b : Nat} (h : a < b) : (some b : Option Nat) ≠ some a := by simp; omega
theorem l3Round_any (n : Int) (w : World) (h1 : -1099511627776 ≤ n) (h2 : n ≤ 1099511627776) :
 Calls Tryz.prog 180 #[.int .i64 n, .int .i64 16] w fun e w' => e = .returned (.int .i64 ((n + 8) / 16)) ∧ w = w' := by
 by_cases h0 : 0 ≤ n + 8
 ·have hd0 : decide ((n + 8) % 16 < 0) = false := by
   have := Int.emod_nonneg (n + 8) (show (16 : Int) ≠ 0 by omega)
   simp; omega
  go_enter Tryz.func180, Tryz.ntmps180
  go_wp2
  go_ret
  exact ⟨rfl, rfl⟩
 ·obtain ⟨t1, t2, t3, t4⟩ := tdiv_floor (by omega : n + 8 < 0) (show (1 : Int) ≤ 16 by omega)
  have T3 := Lib.hid t3
  have T4 := Lib.hid t4
  clear t3 t4
  by_cases hm : (n + 8).tmod 16 < 0
  ·have hd0 : decide ((n + 8).tmod 16 < 0) = true := by simpa using hm
   go_enter Tryz.func180, Tryz.ntmps180
   go_wp2
   go_ret
   exact ⟨ret_int (T3.out hm), rfl⟩
  ·have hd0 : decide ((n + 8).tmod 16 < 0) = false := by simpa using hm
   go_enter Tryz.func180, Tryz.ntmps180
   go_wp2
   go_ret
   exact ⟨ret_int (T4.out hm), rfl⟩
set_option maxRecDepth 100000 in
theorem l3Inverse_any (zs : List Int) (w : World) (hl : zs.length = 16) (hb : bdA 1048576 zs) :
 Calls Tryz.prog 165 #[.agg (ic zs)] w fun e w' => e = .returned (.agg (ic (ihad zs))) ∧ Ext w w' := by
 have Hl := Lib.hid hl
 have HB := Lib.hid hb
 have HH := Lib.hid (had_len zs)
 have HI := Lib.hid (ihad_len zs)
 have Hbd := Lib.hid (had_bdA hb)
 clear hl hb
 have a2 := Ext.alloc (w.alloc (.cells (ic zs) 29)) (.cells (ic (List.replicate 16 0)) 29)
 have p0 := (IB.new w 29 zs).ext a2
 have p1 := IB.new (w.alloc (.cells (ic zs) 29)) 29 (List.replicate 16 0)
 have E1 := (Ext.alloc w (.cells (ic zs) 29)).trans a2
 simp only [World.size_alloc] at p1
 clear a2
 go_enter Tryz.func165, Tryz.ntmps165
 go_wp2_with (refine wpList_iload 29 _ rfl rfl p0 0 16 rfl _ Tryz.underlying29 rfl size_A16 (by rw [Hl.out]; omega) _ (by rw [sub_all _ _ (Hl.out)]) ?_)
 obtain ⟨B, hB⟩ : ∃ B, B = w.heap.size := ⟨_, rfl⟩
 rw [← hB] at p0 p1 ⊢
 have hwB : w.heap.size ≤ B := by omega
 have HB0 := Lib.hid hB
 clear hB
 refine (l3Apply_any zs _ Hl.out HB.out).mono ?_
 rintro e w1 ⟨rfl, e1⟩
 have q0 := p0.ext e1
 have q1 := p1.ext e1
 have E2 := E1.trans e1
 have q2 := IB.new w1 29 (List.replicate 16 0)
 have l1 := q1.lt
 have q1a := q1.alloc (.cells (ic (List.replicate 16 0)) 29)
 have q0a := q0.alloc (.cells (ic (List.replicate 16 0)) 29)
 have E2a := E2.trans (Ext.alloc w1 (.cells (ic (List.replicate 16 0)) 29))
 have hs2 := E2.size
 clear p0 p1 E1 e1 q0 q1 E2
 go_wp2_with (refine wpList_istore 29 _ _ rfl rfl q2 0 16 rfl _ rfl _ rfl size_A16 (HH.out) (by simp) ?_; intro w2 i2 g2; refine Hid.out ?_)
 rw [spl_all (by rw [HH.out]; simp)] at i2
 have E3 : Ext w w2 := Ext.grown E2a g2 (fun k e => by cases e; omega)
 have q0 := q0a.gr g2 (ne_blk (by omega))
 have q1 := q1a.gr g2 (ne_blk (by omega))
 obtain ⟨O, hO⟩ : ∃ O, O = w1.heap.size := ⟨_, rfl⟩
 rw [← hO] at i2 l1 ⊢
 have hwO : w.heap.size ≤ O := by omega
 have HO := Lib.hid hO
 clear hO hs2 q0a q1a E2a q2 g2
 refine Lib.hid ?_
 go_wp2_with fail
 go_loopw [4] (fun i wr => ∃ k : Nat, k ≤ 16 ∧ i = .int .i64 k ∧ Ext w wr ∧ IB wr (B + 1) 29 (List.replicate 16 0) ∧ IB wr O 29 (mixI (ihad zs) (had zs) k)) (fun i _ => 16 - (intOf i).toNat)
 case atStart => exact ⟨0, by omega, rfl, E3, q1, by rw [mixI_zero]; exact i2⟩
 case round =>
  obtain ⟨k, hk, rfl, E4, r1, r2⟩ := hrel
  clear q0 q1 i2 E3
  by_cases hlt : k < 16
  ·have hd : decide ((k : Int) < 16) = true := by simp; omega
   have c0 := r2.cell (i := k) (by rw [mixI_len _ _ _ 16 HI.out HH.out]; exact hlt)
   rw [nth_mixR HI.out HH.out (Nat.le_refl _) hlt] at c0
   have f0 := r2.frozen k
   have hbk := Hbd.out k
   have hset := mixI_set (ihad zs) (had zs) k 16 HI.out HH.out hlt
   rw [nth_ihad _ hlt] at hset
   have Hset := Lib.hid hset
   clear hset
   generalize nth (had zs) k = z at *
   go_wp2_with fail
   refine (l3Round_any z _ (by omega) (by omega)).mono ?_
   rintro e w3 ⟨rfl, rfl⟩
   go_wp2
   go_roundw
   case rel => exact ⟨k + 1, by omega, by go_num, Ext.grown E4 (gr_set _ _ _ _) (fun q hq => by cases hq; omega), r1.set_other (by omega), by rw [← Hset.out]; exact r2.set k _⟩
   case measure => simp [intOf]; omega
  ·obtain rfl : k = 16 := by omega
   rw [mixI_all _ _ 16 HI.out HH.out] at r2
   go_wp2_with (first | (refine wpList_iload 29 _ rfl rfl r2 0 16 rfl _ Tryz.underlying29 rfl size_A16 (by rw [HI.out]; omega) _ (by rw [sub_all _ _ (HI.out)]) ?_) | (refine wpList_istore 29 _ _ rfl rfl r1 0 16 rfl _ rfl _ rfl size_A16 (HI.out) (by simp) ?_; intro w6 p6 g6; refine Hid.out ?_))
   rw [spl_all (by rw [HI.out]; simp)] at p6
   have E6 : Ext w w6 := Ext.grown E4 g6 (fun q hq => by cases hq; omega)
   refine Lib.hid ?_
   go_wp2
   exact bodyPost_ret (v := .agg (ic (ihad zs))) (results_cell_row rfl _ _ (B + 1) 29 (ic (ihad zs)) (0, 0) _ rfl p6 Tryz.underlying29 rfl (by rw [ic_size, ihad_len]; exact size_A16)) rfl ⟨rfl, E6⟩
set_option maxRecDepth 100000 in
theorem InverseTransform_any (zs : List Int) (w : World) (hl : zs.length = 16) (hb : inB 4080 zs = true) :
 Calls Tryz.prog 127 #[.agg (ic zs)] w fun e w' => e = .returned (.agg (ic (ihad zs))) ∧ Ext w w' := by
 have hbA := inB_bdA (M := 1048576) (by omega) hb (by omega)
 have Hl := Lib.hid hl
 have HB := Lib.hid hbA
 have HW := Lib.hid hb
 have HH := Lib.hid (had_len zs)
 have HI := Lib.hid (ihad_len zs)
 have Hbd := Lib.hid (had_bdA hbA)
 clear hl hb hbA
 have a2 := Ext.alloc (w.alloc (.cells (ic zs) 29)) (.cells (ic (List.replicate 16 0)) 29)
 have p0 := (IB.new w 29 zs).ext a2
 have p1 := IB.new (w.alloc (.cells (ic zs) 29)) 29 (List.replicate 16 0)
 have E1 := (Ext.alloc w (.cells (ic zs) 29)).trans a2
 simp only [World.size_alloc] at p1
 clear a2
 go_enter Tryz.func127, Tryz.ntmps127
 go_wp2_with (refine wpList_iload 29 _ rfl rfl p0 0 16 rfl _ Tryz.underlying29 rfl size_A16 (by rw [Hl.out]; omega) _ (by rw [sub_all _ _ (Hl.out)]) ?_)
 obtain ⟨B, hB⟩ : ∃ B, B = w.heap.size := ⟨_, rfl⟩
 rw [← hB] at p0 p1 ⊢
 have hwB : w.heap.size ≤ B := by omega
 have HB0 := Lib.hid hB
 clear hB
 refine (impl_blockWithin_any zs 4080 _ Hl.out (by omega) (by omega)).mono ?_
 rw [HW.out]
 rintro e w0 ⟨rfl, e0⟩
 have p0a := p0.ext e0
 have p1a := p1.ext e0
 have E0a := E1.trans e0
 clear p0 p1 E1 e0
 have p0 := p0a
 have p1 := p1a
 have E1 := E0a
 clear p0a p1a E0a
 go_wp2_with (refine wpList_iload 29 _ rfl rfl p0 0 16 rfl _ Tryz.underlying29 rfl size_A16 (by rw [Hl.out]; omega) _ (by rw [sub_all _ _ (Hl.out)]) ?_)
 refine (hadamard_any zs _ Hl.out HB.out).mono ?_
 rintro e w1 ⟨rfl, e1⟩
 have q0 := p0.ext e1
 have q1 := p1.ext e1
 have E2 := E1.trans e1
 have q2 := IB.new w1 29 (List.replicate 16 0)
 have l1 := q1.lt
 have q1a := q1.alloc (.cells (ic (List.replicate 16 0)) 29)
 have q0a := q0.alloc (.cells (ic (List.replicate 16 0)) 29)
 have E2a := E2.trans (Ext.alloc w1 (.cells (ic (List.replicate 16 0)) 29))
 have hs2 := E2.size
 clear p0 p1 E1 e1 q0 q1 E2
 go_wp2_with (refine wpList_istore 29 _ _ rfl rfl q2 0 16 rfl _ rfl _ rfl size_A16 (HH.out) (by simp) ?_; intro w2 i2 g2; refine Hid.out ?_)
 rw [spl_all (by rw [HH.out]; simp)] at i2
 have E3 : Ext w w2 := Ext.grown E2a g2 (fun k e => by cases e; omega)
 have q0 := q0a.gr g2 (ne_blk (by omega))
 have q1 := q1a.gr g2 (ne_blk (by omega))
 obtain ⟨O, hO⟩ : ∃ O, O = w1.heap.size := ⟨_, rfl⟩
 rw [← hO] at i2 l1 ⊢
 have hwO : w.heap.size ≤ O := by omega
 have HO := Lib.hid hO
 clear hO hs2 q0a q1a E2a q2 g2
 refine Lib.hid ?_
 go_wp2_with (refine wpList_iload 29 _ rfl rfl i2 0 16 rfl _ Tryz.underlying29 rfl size_A16 (by rw [HH.out]; omega) _ (by rw [sub_all _ _ (HH.out)]) ?_)
 go_loopw [13] (fun i wr => ∃ k : Nat, k ≤ 16 ∧ i = .int .i64 k ∧ Ext w wr ∧ IB wr (B + 1) 29 (List.replicate 16 0) ∧ IB wr O 29 (mixI (ihad zs) (had zs) k)) (fun i _ => 16 - (intOf i).toNat)
 case atStart => exact ⟨0, by omega, rfl, E3, q1, by rw [mixI_zero]; exact i2⟩
 case round =>
  obtain ⟨k, hk, rfl, E4, r1, r2⟩ := hrel
  clear q0 q1 i2 E3
  by_cases hlt : k < 16
  ·have hd : decide ((k : Int) < 16) = true := by simp; omega
   have c0 := r2.cell (i := k) (by rw [mixI_len _ _ _ 16 HI.out HH.out]; exact hlt)
   have f0 := r2.frozen k
   have hbk := Hbd.out k
   have hset := mixI_set (ihad zs) (had zs) k 16 HI.out HH.out hlt
   rw [nth_ihad _ hlt] at hset
   have Hset := Lib.hid hset
   clear hset
   go_wp2_with (refine wpList_iindex _ _ _ rfl rfl (had zs) rfl k 16 _ rfl rfl _ Tryz.underlying29 Tryz.underlying3 size_int hlt HH.out ?_)
   go_roundw
   case rel => exact ⟨k + 1, by omega, by go_num, Ext.grown E4 (gr_set _ _ _ _) (fun q hq => by cases hq; omega), r1.set_other (by omega), by rw [← Hset.out]; exact r2.set k _⟩
   case measure => simp [intOf]; omega
  ·obtain rfl : k = 16 := by omega
   rw [mixI_all _ _ 16 HI.out HH.out] at r2
   go_wp2_with (first | (refine wpList_iload 29 _ rfl rfl r2 0 16 rfl _ Tryz.underlying29 rfl size_A16 (by rw [HI.out]; omega) _ (by rw [sub_all _ _ (HI.out)]) ?_) | (refine wpList_istore 29 _ _ rfl rfl r1 0 16 rfl _ rfl _ rfl size_A16 (HI.out) (by simp) ?_; intro w6 p6 g6; refine Hid.out ?_))
   rw [spl_all (by rw [HI.out]; simp)] at p6
   have E6 : Ext w w6 := Ext.grown E4 g6 (fun q hq => by cases hq; omega)
   refine Lib.hid ?_
   go_wp2
   exact bodyPost_ret (v := .agg (ic (ihad zs))) (results_cell_row rfl _ _ (B + 1) 29 (ic (ihad zs)) (0, 0) _ rfl p6 Tryz.underlying29 rfl (by rw [ic_size, ihad_len]; exact size_A16)) rfl ⟨rfl, E6⟩
set_option maxRecDepth 100000 in
theorem impl_CodeBlock_any (zs : List Int) (q : Nat) (w : World) (hT : TabQ w) (hl : zs.length = 16) (hb : inB 255 zs = true) (hq : q < 16) :
 Calls Tryz.prog 69 #[.agg (ic zs), .int .i64 q] w fun e w' => e = .returned (.agg (ic (cod zs q))) ∧ Ext w w' := by
 have hbA := inB_bdA (M := 1048576) (by omega) hb (by omega)
 have Hbd := Lib.hid (fun k (hk : k < 16) => had_255 hl hb hk)
 have Hl := Lib.hid hl
 have HB := Lib.hid hbA
 have HW := Lib.hid hb
 have HT := Lib.hid hT
 have HH := Lib.hid (had_len zs)
 have HI := Lib.hid (cod_len zs q)
 clear hl hb hbA hT
 have a2 := Ext.alloc (w.alloc (.cells (ic zs) 29)) (.cells (ic (List.replicate 16 0)) 29)
 have p0 := (IB.new w 29 zs).ext a2
 have p1 := IB.new (w.alloc (.cells (ic zs) 29)) 29 (List.replicate 16 0)
 have E1 := (Ext.alloc w (.cells (ic zs) 29)).trans a2
 simp only [World.size_alloc] at p1
 clear a2
 go_enter Tryz.func69, Tryz.ntmps69
 go_wp2_with fail
 obtain ⟨B, hB⟩ : ∃ B, B = w.heap.size := ⟨_, rfl⟩
 rw [← hB] at p0 p1 ⊢
 have hwB : w.heap.size ≤ B := by omega
 have HB0 := Lib.hid hB
 clear hB
 refine (qualityValid_in _ _ (by omega) (by omega)).mono ?_
 rintro e w0 ⟨rfl, rfl⟩
 go_wp2_with (refine wpList_iload 29 _ rfl rfl p0 0 16 rfl _ Tryz.underlying29 rfl size_A16 (by rw [Hl.out]; omega) _ (by rw [sub_all _ _ (Hl.out)]) ?_)
 refine (impl_blockWithin_any zs 255 _ Hl.out (by omega) (by omega)).mono ?_
 rw [HW.out]
 rintro e w0 ⟨rfl, e0⟩
 have p0a := p0.ext e0
 have p1a := p1.ext e0
 have E0a := E1.trans e0
 clear p0 p1 E1 e0
 have p0 := p0a
 have p1 := p1a
 have E1 := E0a
 clear p0a p1a E0a
 go_wp2_with (refine wpList_iload 29 _ rfl rfl p0 0 16 rfl _ Tryz.underlying29 rfl size_A16 (by rw [Hl.out]; omega) _ (by rw [sub_all _ _ (Hl.out)]) ?_)
 refine (hadamard_any zs _ Hl.out HB.out).mono ?_
 rintro e w1 ⟨rfl, e1⟩
 have q0 := p0.ext e1
 have q1 := p1.ext e1
 have E2 := E1.trans e1
 have q2 := IB.new w1 29 (List.replicate 16 0)
 have l1 := q1.lt
 have q1a := q1.alloc (.cells (ic (List.replicate 16 0)) 29)
 have q0a := q0.alloc (.cells (ic (List.replicate 16 0)) 29)
 have E2a := E2.trans (Ext.alloc w1 (.cells (ic (List.replicate 16 0)) 29))
 have hs2 := E2.size
 clear p0 p1 E1 e1 q0 q1 E2
 go_wp2_with (refine wpList_istore 29 _ _ rfl rfl q2 0 16 rfl _ rfl _ rfl size_A16 (HH.out) (by simp) ?_; intro w2 i2 g2; refine Hid.out ?_)
 rw [spl_all (by rw [HH.out]; simp)] at i2
 have E3 : Ext w w2 := Ext.grown E2a g2 (fun k e => by cases e; omega)
 have q0 := q0a.gr g2 (ne_blk (by omega))
 have q1 := q1a.gr g2 (ne_blk (by omega))
 obtain ⟨O, hO⟩ : ∃ O, O = w1.heap.size := ⟨_, rfl⟩
 rw [← hO] at i2 l1 ⊢
 have hwO : w.heap.size ≤ O := by omega
 have HO := Lib.hid hO
 clear hO hs2 q0a q1a E2a q2 g2
 refine Lib.hid ?_
 go_wp2_with (refine wpList_iload 29 _ rfl rfl i2 0 16 rfl _ Tryz.underlying29 rfl size_A16 (by rw [HH.out]; omega) _ (by rw [sub_all _ _ (HH.out)]) ?_)
 go_loopw [20] (fun i wr => ∃ k : Nat, k ≤ 16 ∧ i = .int .i64 k ∧ Ext w wr ∧ IB wr (B + 1) 29 (List.replicate 16 0) ∧ IB wr O 29 (mixI (cod zs q) (had zs) k)) (fun i _ => 16 - (intOf i).toNat)
 case atStart => exact ⟨0, by omega, rfl, E3, q1, by rw [mixI_zero]; exact i2⟩
 case round =>
  obtain ⟨k, hk, rfl, E4, r1, r2⟩ := hrel
  clear q0 q1 i2 E3
  by_cases hlt : k < 16
  ·have hd : decide ((k : Int) < 16) = true := by simp; omega
   have hbk := Hbd.out k hlt
   have hset := mixI_set (cod zs q) (had zs) k 16 HI.out HH.out hlt
   rw [nth_cod _ _ hlt] at hset
   have Hset := Lib.hid hset
   clear hset
   go_wp2_with (refine wpList_iindex _ _ _ rfl rfl (had zs) rfl k 16 _ rfl rfl _ Tryz.underlying29 Tryz.underlying3 size_int hlt HH.out ?_)
   refine (impl_Quantize_in (nth (had zs) k) q _ (HT.out.ext E4) hbk.1 hbk.2 hq).mono ?_
   rintro e w3 ⟨rfl, m3, rfl⟩
   have E5 := Ext.trans_drewN E4 m3
   have s1 := r1.drewN m3
   have s2 := r2.drewN m3
   have c0 := s2.cell (i := k) (by rw [mixI_len _ _ _ 16 HI.out HH.out]; exact hlt)
   have f0 := s2.frozen k
   clear r1 r2 E4
   generalize wr.drewN m3 = w4 at *
   go_wp2
   go_roundw
   case rel => exact ⟨k + 1, by omega, by go_num, Ext.grown E5 (gr_set _ _ _ _) (fun q hq => by cases hq; omega), s1.set_other (by omega), by rw [← Hset.out]; exact s2.set k _⟩
   case measure => simp [intOf]; omega
  ·obtain rfl : k = 16 := by omega
   rw [mixI_all _ _ 16 HI.out HH.out] at r2
   go_wp2_with (first | (refine wpList_iload 29 _ rfl rfl r2 0 16 rfl _ Tryz.underlying29 rfl size_A16 (by rw [HI.out]; omega) _ (by rw [sub_all _ _ (HI.out)]) ?_) | (refine wpList_istore 29 _ _ rfl rfl r1 0 16 rfl _ rfl _ rfl size_A16 (HI.out) (by simp) ?_; intro w6 p6 g6; refine Hid.out ?_))
   rw [spl_all (by rw [HI.out]; simp)] at p6
   have E6 : Ext w w6 := Ext.grown E4 g6 (fun q hq => by cases hq; omega)
   refine Lib.hid ?_
   go_wp2
   exact bodyPost_ret (v := .agg (ic (cod zs q))) (results_cell_row rfl _ _ (B + 1) 29 (ic (cod zs q)) (0, 0) _ rfl p6 Tryz.underlying29 rfl (by rw [ic_size, cod_len]; exact size_A16)) rfl ⟨rfl, E6⟩
end Go.Proofs.YtbnhaegidfbgbaaGreatDoor
