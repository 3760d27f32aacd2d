/- Equality of macroblocks in the laws: of the same. | FnExactChooseMacro: the program's answer is the reference's: the walk of the law. | From the reading of an argument to the walks' words. | Opening arguments: pictures. -/
import Derived.Test.YtbnhaegidfbgbaaGreatDoorQn19
import Derived.ProofKit
import Derived.OpenShut
import Derived.ShutString
import Derived.ChangeOld
import Derived.Deep.Slices
import Derived.Lib.SmallJoins
set_option linter.unusedVariables false
set_option linter.unusedSimpArgs false
namespace Go.Proofs.YtbnhaegidfbgbaaGreatDoor
open Go.RowKit
set_option maxHeartbeats 1000000
set_option maxRecDepth 100000 in
theorem eqIntA16_same (zs : List Int) (w : World) (hl : zs.length = 16) :
 Calls Tryz.prog 113 #[.agg (ic zs), .agg (ic zs)] w fun e w' => e = .returned (.bool true) ∧ Ext w w' := by
 have p0 := (IB.new w 29 zs).alloc (.cells (ic zs) 29)
 have q0 := IB.new (w.alloc (.cells (ic zs) 29)) 29 zs
 have E0 := (Ext.alloc w (.cells (ic zs) 29)).trans (Ext.alloc _ (.cells (ic zs) 29))
 simp only [World.size_alloc] at q0
 have Hl := Lib.hid hl
 clear hl
 go_enter Tryz.func113, Tryz.ntmps113
 go_wp2_with fail
 generalize (w.alloc (.cells (ic zs) 29)).alloc (.cells (ic zs) 29) = w1 at *
 go_loopw [5] (fun i wr => ∃ k : Nat, k ≤ 16 ∧ i = .int .i64 k ∧ ∃ u, wr = w1.drewN u) (fun i _ => 16 - (intOf i).toNat)
 case atStart => exact ⟨0, by omega, rfl, 0, rfl⟩
 case round =>
  obtain ⟨k, hk, rfl, u, rfl⟩ := hrel
  by_cases hlt : k < 16
  ·have c1 := p0.cell (i := k) (by rw [Hl.out]; exact hlt)
   have c2 := q0.cell (i := k) (by rw [Hl.out]; exact hlt)
   have hd : decide ((k : Int) < 16) = true := by simp; omega
   generalize nth zs k = v at *
   go_wp2_with fail
   go_quiet (fail)
   go_wp2
   go_roundw
   case rel => exact ⟨k + 1, by omega, by go_num, _, (by first | rfl | exact World.drewN_drewN _ _ _)⟩
   case measure => simp [intOf]; omega
  ·obtain rfl : k = 16 := by omega
   go_wp2
   go_ret
   exact ⟨rfl, below_drewN E0 _⟩
set_option maxRecDepth 100000 in
theorem eqIntA4_same (zs : List Int) (w : World) (hl : zs.length = 4) :
 Calls Tryz.prog 65 #[.agg (ic zs), .agg (ic zs)] w fun e w' => e = .returned (.bool true) ∧ Ext w w' := by
 have p0 := (IB.new w 28 zs).alloc (.cells (ic zs) 28)
 have q0 := IB.new (w.alloc (.cells (ic zs) 28)) 28 zs
 have E0 := (Ext.alloc w (.cells (ic zs) 28)).trans (Ext.alloc _ (.cells (ic zs) 28))
 simp only [World.size_alloc] at q0
 have Hl := Lib.hid hl
 clear hl
 go_enter Tryz.func65, Tryz.ntmps65
 go_wp2_with fail
 generalize (w.alloc (.cells (ic zs) 28)).alloc (.cells (ic zs) 28) = w1 at *
 go_loopw [5] (fun i wr => ∃ k : Nat, k ≤ 4 ∧ i = .int .i64 k ∧ ∃ u, wr = w1.drewN u) (fun i _ => 4 - (intOf i).toNat)
 case atStart => exact ⟨0, by omega, rfl, 0, rfl⟩
 case round =>
  obtain ⟨k, hk, rfl, u, rfl⟩ := hrel
  by_cases hlt : k < 4
  ·have c1 := p0.cell (i := k) (by rw [Hl.out]; exact hlt)
   have c2 := q0.cell (i := k) (by rw [Hl.out]; exact hlt)
   have hd : decide ((k : Int) < 4) = true := by simp; omega
   generalize nth zs k = v at *
   go_wp2_with fail
   go_quiet (fail)
   go_wp2
   go_roundw
   case rel => exact ⟨k + 1, by omega, by go_num, _, (by first | rfl | exact World.drewN_drewN _ _ _)⟩
   case measure => simp [intOf]; omega
  ·obtain rfl : k = 4 := by omega
   go_wp2
   go_ret
   exact ⟨rfl, below_drewN E0 _⟩
theorem eqVector_same (x y : Int) (w : World) :
 Calls Tryz.prog 64 #[.agg #[.int .i64 x, .int .i64 y], .agg #[.int .i64 x, .int .i64 y]] w fun e w' => e = .returned (.bool true) ∧ Ext w w' := by
 go_enter Tryz.func64, Tryz.ntmps64
 go_wp2
 go_ret
 exact ⟨rfl, (Ext.alloc _ _).trans (Ext.alloc _ _)⟩
set_option maxRecDepth 100000 in
theorem eqIntA16A4_same (zs : List Int) (w : World) (hl : zs.length = 64) :
 Calls Tryz.prog 66 #[.agg (ic zs), .agg (ic zs)] w fun e w' => e = .returned (.bool true) ∧ Ext w w' := by
 have p0 := (IB.new w 30 zs).alloc (.cells (ic zs) 30)
 have q0 := IB.new (w.alloc (.cells (ic zs) 30)) 30 zs
 have E0 := (Ext.alloc w (.cells (ic zs) 30)).trans (Ext.alloc _ (.cells (ic zs) 30))
 simp only [World.size_alloc] at q0
 have Hl := Lib.hid hl
 clear hl
 go_enter Tryz.func66, Tryz.ntmps66
 go_wp2_with fail
 generalize (w.alloc (.cells (ic zs) 30)).alloc (.cells (ic zs) 30) = w1 at *
 go_loopw [5] (fun i wr => ∃ k : Nat, k ≤ 4 ∧ i = .int .i64 k ∧ Ext w1 wr) (fun i _ => 4 - (intOf i).toNat)
 case atStart => exact ⟨0, by omega, rfl, Below.refl _ _⟩
 case round =>
  obtain ⟨k, hk, rfl, E1⟩ := hrel
  by_cases hlt : k < 4
  ·have hd : decide ((k : Int) < 4) = true := by simp; omega
   have hsl : (sub zs (k * 16) 16).length = 16 := sub_len _ _ _ (by rw [Hl.out]; omega)
   have Hsl := Lib.hid hsl
   clear hsl
   go_wp2_with fail
   have hext : ∀ (i : Nat) (own : Value) (ys : Nat → Value) (wa wb : World), Ext wa wb → (match i with | 0 => own = .int .i64 k | 1 => own = .pointer (some ⟨w.heap.size, k * 16, none⟩) | 2 => own = .agg (ic (sub zs (k * 16) 16)) | 3 => own = .int .i64 k | 4 => own = .pointer (some ⟨w.heap.size + 1, k * 16, none⟩) | 5 => own = .agg (ic (sub zs (k * 16) 16)) | 6 => own = .bool true | 7 => own = .bool false | _ => True) → (match i with | 0 => own = .int .i64 k | 1 => own = .pointer (some ⟨w.heap.size, k * 16, none⟩) | 2 => own = .agg (ic (sub zs (k * 16) 16)) | 3 => own = .int .i64 k | 4 => own = .pointer (some ⟨w.heap.size + 1, k * 16, none⟩) | 5 => own = .agg (ic (sub zs (k * 16) 16)) | 6 => own = .bool true | 7 => own = .bool false | _ => True) := by
    intro i own ys wa wb e h
    match i, h with
    | 0, h | 1, h | 2, h | 3, h | 4, h | 5, h | 6, h | 7, h => exact h
    | _ + 8, _ => trivial
   have Hext := Lib.hid hext
   clear hext
   refine wp_region_inv2 (by kernel_rfl) [(10, 0), (11, 1), (12, 2), (13, 3), (14, 4), (15, 5), (16, 6), (17, 7)] [[], [0], [0, 1], [], [3], [3, 4], [0, 1, 2, 3, 4, 5], [0, 1, 2, 3, 4, 5, 6]] (fun i own ys wx => match i with | 0 => own = .int .i64 k | 1 => own = .pointer (some ⟨w.heap.size, k * 16, none⟩) | 2 => own = .agg (ic (sub zs (k * 16) 16)) | 3 => own = .int .i64 k | 4 => own = .pointer (some ⟨w.heap.size + 1, k * 16, none⟩) | 5 => own = .agg (ic (sub zs (k * 16) 16)) | 6 => own = .bool true | 7 => own = .bool false | _ => True) (fun kx wx => Ext w1 wx) (by kernel_rfl) (by kernel_rfl) (by kernel_rfl) ?g0_r1 ?gop_r1 ?gend_r1
   case g0_r1 => exact E1.trans (Ext.drewN _ 1)
   case gop_r1 =>
    refine ⟨?_, ?o1, ?o2, ?_, ?o4, ?o5, ?o6, ?o7, trivial⟩ <;> (intro kx xs wx hk hG hD hI Qo Kx hK hQo; simp only [patchS, Nat.reduceAdd, Nat.reduceEqDiff, ↓reduceIte] at hQo ⊢)
    case o1 =>
     have d0 : _ = _ := hD 0 rfl
     clear hD hI
     generalize xs 0 = y0 at *
     subst d0
     go_wp2
     exact hK.out _ _ ⟨rfl, hG, fun _ _ _ _ _ _ h => h⟩
    case o2 =>
     have d1 : _ = _ := hD 1 rfl
     clear hD hI
     generalize xs 1 = y1 at *
     subst d1
     go_wp2_with (refine wpList_iload 29 _ rfl rfl (p0.ext hG) (k * 16) 16 rfl _ Tryz.underlying29 rfl size_A16 (by rw [Hl.out]; omega) _ rfl ?_)
     exact hK.out _ _ ⟨rfl, hG, fun _ _ _ _ _ _ h => h⟩
    case o4 =>
     have d3 : _ = _ := hD 3 rfl
     clear hD hI
     generalize xs 3 = y3 at *
     subst d3
     go_wp2
     exact hK.out _ _ ⟨rfl, hG, fun _ _ _ _ _ _ h => h⟩
    case o5 =>
     have d4 : _ = _ := hD 4 rfl
     clear hD hI
     generalize xs 4 = y4 at *
     subst d4
     go_wp2_with (refine wpList_iload 29 _ rfl rfl (q0.ext hG) (k * 16) 16 rfl _ Tryz.underlying29 rfl size_A16 (by rw [Hl.out]; omega) _ rfl ?_)
     exact hK.out _ _ ⟨rfl, hG, fun _ _ _ _ _ _ h => h⟩
    case o6 =>
     have d2 : _ = _ := hD 2 rfl
     have d5 : _ = _ := hD 5 rfl
     clear hD hI
     generalize xs 2 = y2 at *
     generalize xs 5 = y5 at *
     subst d2 d5
     go_wp2_with fail
     refine (eqIntA16_same _ _ Hsl.out).mono ?_
     rintro e w4 ⟨rfl, e4⟩
     go_wp2
     exact hK.out _ _ ⟨rfl, hG.trans e4, fun i _ _ _ own ys h => Hext.out i own ys _ _ e4 h⟩
    case o7 =>
     have d6 : _ = _ := hD 6 rfl
     clear hD hI
     generalize xs 6 = y6 at *
     subst d6
     go_wp2
     exact hK.out _ _ ⟨rfl, hG, fun _ _ _ _ _ _ h => h⟩
    all_goals
     clear hD hI
     go_wp2
     exact hK.out _ _ ⟨rfl, hG, fun _ _ _ _ _ _ h => h⟩
   clear Hext
   intro xs wx hV hG
   have d7 : _ = _ := hV 7 (by decide)
   clear hV
   simp only [patchS, Nat.reduceAdd, Nat.reduceEqDiff, ↓reduceIte]
   generalize xs 0 = y0 at *
   generalize xs 1 = y1 at *
   generalize xs 2 = y2 at *
   generalize xs 3 = y3 at *
   generalize xs 4 = y4 at *
   generalize xs 5 = y5 at *
   generalize xs 6 = y6 at *
   generalize xs 7 = y7 at *
   replace hG : Ext w1 wx := hG
   subst d7
   go_wp2
   go_roundw
   case rel => exact ⟨k + 1, by omega, by go_num, hG⟩
   case measure => simp [intOf]; omega
  ·obtain rfl : k = 4 := by omega
   go_wp2
   go_ret
   exact ⟨rfl, E0.trans E1⟩
set_option maxRecDepth 100000 in
theorem eqMacro_same (m : Mac) (w : World) (hm : m.ok) :
 Calls Tryz.prog 19 #[.agg (ic m.zs), .agg (ic m.zs)] w fun e w' => e = .returned (.bool true) ∧ Ext w w' := by
 have p0 := (IB.new w 32 m.zs).alloc (.cells (ic m.zs) 32)
 have q0 := IB.new (w.alloc (.cells (ic m.zs) 32)) 32 m.zs
 have E0 := (Ext.alloc w (.cells (ic m.zs) 32)).trans (Ext.alloc _ (.cells (ic m.zs) 32))
 simp only [World.size_alloc] at q0
 have Hl := Lib.hid (Mac.zs_len hm)
 have Hm := Lib.hid hm
 have k0 := p0.cell (i := 0) (by rw [Hl.out]; omega)
 have j0 := q0.cell (i := 0) (by rw [Hl.out]; omega)
 rw [Mac.zs_kind] at k0 j0
 clear hm
 go_enter Tryz.func19, Tryz.ntmps19
 go_wp2_with (first | (refine wpList_iload 27 _ rfl rfl p0 1 2 rfl _ Tryz.underlying27 rfl size_Vector (by rw [Hl.out]; omega) _ Mac.zs_mv ?_) | (refine wpList_iload 27 _ rfl rfl q0 1 2 rfl _ Tryz.underlying27 rfl size_Vector (by rw [Hl.out]; omega) _ Mac.zs_mv ?_))
 refine (eqVector_same _ _ _).mono ?_
 rintro e w1 ⟨rfl, e1⟩
 have p1 := p0.ext e1
 have q1 := q0.ext e1
 have E1 := E0.trans e1
 clear p0 q0 E0 e1 k0 j0
 go_wp2_with (first | (refine wpList_iload 28 _ rfl rfl p1 3 4 rfl _ Tryz.underlying28 rfl size_A4 (by rw [Hl.out]; omega) _ (by rw [Mac.zs_modes Hm.out]) ?_) | (refine wpList_iload 28 _ rfl rfl q1 3 4 rfl _ Tryz.underlying28 rfl size_A4 (by rw [Hl.out]; omega) _ (by rw [Mac.zs_modes Hm.out]) ?_))
 refine (eqIntA4_same _ _ Hm.out.modes).mono ?_
 rintro e w2 ⟨rfl, e2⟩
 have p2 := p1.ext e2
 have q2 := q1.ext e2
 have E2 := E1.trans e2
 clear p1 q1 E1 e2
 go_wp2_with (first | (refine wpList_iload 30 _ rfl rfl p2 7 64 rfl _ Tryz.underlying30 rfl size_A16A4 (by rw [Hl.out]; omega) _ (by rw [Mac.zs_lv Hm.out]) ?_) | (refine wpList_iload 30 _ rfl rfl q2 7 64 rfl _ Tryz.underlying30 rfl size_A16A4 (by rw [Hl.out]; omega) _ (by rw [Mac.zs_lv Hm.out]) ?_))
 refine (eqIntA16A4_same _ _ Hm.out.lv).mono ?_
 rintro e w3 ⟨rfl, e3⟩
 go_wp2
 go_ret
 exact ⟨rfl, E2.trans e3⟩
end Go.Proofs.YtbnhaegidfbgbaaGreatDoor
namespace Go.Proofs.YtbnhaegidfbgbaaGreatDoor
open Go.RowKit
set_option maxHeartbeats 1000000
set_option maxRecDepth 100000 in
set_option maxHeartbeats 4000000 in
theorem law_FnExactChooseMacro (au : Option Addr) (cu : Nat) (pu : Pic) (ar : Option Addr) (cr : Nat) (pr : Pic) (ap : Option Addr) (cp : Nat) (pp : Pic) (x : Int) (wx : (Lit.int .i64 x).wf = true) (y : Int) (wy : (Lit.int .i64 y).wf = true) (q : Int) (wq : (Lit.int .i64 q).wf = true) (top : Int) (wtop : (Lit.int .i64 top).wf = true) (w : World) (hT : TabQ w) (slu : Sl w au pu.px.length (pu.px.map (Value.int .i64))) (hn0u : pu.px.length ≤ cu ∧ cu ≤ maxLen) (slr : Sl w ar pr.px.length (pr.px.map (Value.int .i64))) (hn0r : pr.px.length ≤ cr ∧ cr ≤ maxLen) (slp : Sl w ap pp.px.length (pp.px.map (Value.int .i64))) (hn0p : pp.px.length ≤ cp ∧ cp ≤ maxLen) :
 Calls Tryz.prog 4 #[.agg #[.int .i64 pu.w, .int .i64 pu.h, .slice au pu.px.length cu], .agg #[.int .i64 pr.w, .int .i64 pr.h, .slice ar pr.px.length cr], .agg #[.int .i64 pp.w, .int .i64 pp.h, .slice ap pp.px.length cp], .int .i64 x, .int .i64 y, .int .i64 q, .int .i64 top] w fun e w' => e = .returned (.bool true) ∧ Ext w w' := by
 have hnu : pu.px.length ≤ 9223372036854775807 := Nat.le_trans hn0u.1 hn0u.2
 have hnr : pr.px.length ≤ 9223372036854775807 := Nat.le_trans hn0r.1 hn0r.2
 have hnp : pp.px.length ≤ 9223372036854775807 := Nat.le_trans hn0p.1 hn0p.2
 clear hn0u hn0r hn0p wx wy wq wtop
 have Hr := Lib.hid (chP_ok pu pr pp x y q top)
 have Hrl := Lib.hid (Mac.zs_len Hr.out)
 have HS := Lib.hid (fun (au : Option Addr) (cu : Nat) (ar : Option Addr) (cr : Nat) (ap : Option Addr) (cp : Nat) (w : World) (ru : Sl w au pu.px.length (pu.px.map (Value.int .i64))) (rr : Sl w ar pr.px.length (pr.px.map (Value.int .i64))) (rp : Sl w ap pp.px.length (pp.px.map (Value.int .i64))) => spec_ChooseMacro_any pu pr pp x y q top au ar ap cu cr cp _ _ _ w rfl rfl rfl hnu hnr hnp ru rr rp)
 have HI := Lib.hid (fun (au : Option Addr) (cu : Nat) (ar : Option Addr) (cr : Nat) (ap : Option Addr) (cp : Nat) (w : World) (hT : TabQ w) (ru : Sl w au pu.px.length (pu.px.map (Value.int .i64))) (rr : Sl w ar pr.px.length (pr.px.map (Value.int .i64))) (rp : Sl w ap pp.px.length (pp.px.map (Value.int .i64))) => impl_ChooseMacro_any pu pr pp x y q top au ar ap cu cr cp _ _ _ w hT rfl rfl rfl hnu hnr hnp ru rr rp)
 obtain ⟨xu, yu, zu⟩ := pu
 obtain ⟨xr, yr, zr⟩ := pr
 obtain ⟨xp, yp, zp⟩ := pp
 simp only at hnu slu hnr slr hnp slp HS HI ⊢
 generalize chP ⟨xu, yu, zu⟩ ⟨xr, yr, zr⟩ ⟨xp, yp, zp⟩ x y q top = R at *
 obtain ⟨nu, hzu⟩ : ∃ n, n = zu.length := ⟨_, rfl⟩
 obtain ⟨nr, hzr⟩ : ∃ n, n = zr.length := ⟨_, rfl⟩
 obtain ⟨np, hzp⟩ : ∃ n, n = zp.length := ⟨_, rfl⟩
 rw [← hzu] at hnu slu ⊢
 rw [← hzr] at hnr slr ⊢
 rw [← hzp] at hnp slp ⊢
 simp only [← hzu, ← hzr, ← hzp] at HS HI
 clear hzu hzr hzp
 have a0_1 := Ext.alloc (w.alloc (.cells #[.int .i64 xu, .int .i64 yu, .slice au nu cu] 43)) (.cells #[.int .i64 xr, .int .i64 yr, .slice ar nr cr] 43)
 have a0_2 := Ext.alloc ((w.alloc (.cells #[.int .i64 xu, .int .i64 yu, .slice au nu cu] 43)).alloc (.cells #[.int .i64 xr, .int .i64 yr, .slice ar nr cr] 43)) (.cells #[.int .i64 xp, .int .i64 yp, .slice ap np cp] 43)
 have X0_0 := a0_2.blk (a0_1.blk (blk_new w (.cells #[.int .i64 xu, .int .i64 yu, .slice au nu cu] 43)))
 have a1_2 := Ext.alloc ((w.alloc (.cells #[.int .i64 xu, .int .i64 yu, .slice au nu cu] 43)).alloc (.cells #[.int .i64 xr, .int .i64 yr, .slice ar nr cr] 43)) (.cells #[.int .i64 xp, .int .i64 yp, .slice ap np cp] 43)
 have X1_0 := a1_2.blk (blk_new (w.alloc (.cells #[.int .i64 xu, .int .i64 yu, .slice au nu cu] 43)) (.cells #[.int .i64 xr, .int .i64 yr, .slice ar nr cr] 43))
 have X2_0 := blk_new ((w.alloc (.cells #[.int .i64 xu, .int .i64 yu, .slice au nu cu] 43)).alloc (.cells #[.int .i64 xr, .int .i64 yr, .slice ar nr cr] 43)) (.cells #[.int .i64 xp, .int .i64 yp, .slice ap np cp] 43)
 have E_0 := ((Ext.alloc w (.cells #[.int .i64 xu, .int .i64 yu, .slice au nu cu] 43)).trans (Ext.alloc (w.alloc (.cells #[.int .i64 xu, .int .i64 yu, .slice au nu cu] 43)) (.cells #[.int .i64 xr, .int .i64 yr, .slice ar nr cr] 43))).trans (Ext.alloc ((w.alloc (.cells #[.int .i64 xu, .int .i64 yu, .slice au nu cu] 43)).alloc (.cells #[.int .i64 xr, .int .i64 yr, .slice ar nr cr] 43)) (.cells #[.int .i64 xp, .int .i64 yp, .slice ap np cp] 43))
 simp only [World.size_alloc] at X1_0 X2_0
 clear a0_1 a0_2 a1_2
 obtain ⟨B, hB⟩ : ∃ B, B = w.heap.size := ⟨_, rfl⟩
 rw [← hB] at X0_0 X1_0 X2_0
 have Au_0 := X0_0
 clear X0_0
 have Ar_0 := X1_0
 clear X1_0
 have Ap_0 := X2_0
 clear X2_0
 have hwB : w.heap.size ≤ B := by omega
 go_enter Tryz.func4, Tryz.ntmps4
 obtain ⟨-, kAu0, kAu1, kAu2, -⟩ := bx3 Au_0
 obtain ⟨-, kAr0, kAr1, kAr2, -⟩ := bx3 Ar_0
 obtain ⟨-, kAp0, kAp1, kAp2, -⟩ := bx3 Ap_0
 go_wp2_with fail
 rw [← hB]
 have HB := Lib.hid hB
 clear hB
 have hB0 : B + 1 + 1 < w.heap.size + 3 := by have := HB.out; omega
 refine (szPicture_any xu yu au cu nu (1048576) _ hnu (by omega) (by omega)).mono ?_
 rintro e v1 ⟨rfl, e1⟩
 clear kAu0 kAu1 kAu2 kAr0 kAr1 kAr2 kAp0 kAp1 kAp2
 have Au_1 : v1.heap[B]? = some (.cells #[.int .i64 xu, .int .i64 yu, .slice au nu cu] 43 (0, 0)) := e1.blk Au_0
 have Ar_1 : v1.heap[B + 1]? = some (.cells #[.int .i64 xr, .int .i64 yr, .slice ar nr cr] 43 (0, 0)) := e1.blk Ar_0
 have Ap_1 : v1.heap[B + 1 + 1]? = some (.cells #[.int .i64 xp, .int .i64 yp, .slice ap np cp] 43 (0, 0)) := e1.blk Ap_0
 have E_1 : Ext w v1 := E_0.trans e1
 clear Au_0 Ar_0 Ap_0 E_0 e1
 by_cases hnegu : (1048576 : Int) - nu < 0
 ·rw [if_pos hnegu]
  go_wp2
  go_ret
  exact ⟨rfl, E_1⟩
 rw [if_neg hnegu]
 have hdu : decide ((1048576 : Int) - (nu : Int) < 0) = false := by simpa using hnegu
 obtain ⟨-, kAu0, kAu1, kAu2, -⟩ := bx3 Au_1
 obtain ⟨-, kAr0, kAr1, kAr2, -⟩ := bx3 Ar_1
 obtain ⟨-, kAp0, kAp1, kAp2, -⟩ := bx3 Ap_1
 go_wp2_with fail
 refine (szPicture_any xr yr ar cr nr (1048576 - (nu : Int)) _ hnr (by omega) (by omega)).mono ?_
 rintro e v2 ⟨rfl, e1⟩
 clear kAu0 kAu1 kAu2 kAr0 kAr1 kAr2 kAp0 kAp1 kAp2
 have Au_2 : v2.heap[B]? = some (.cells #[.int .i64 xu, .int .i64 yu, .slice au nu cu] 43 (0, 0)) := e1.blk Au_1
 have Ar_2 : v2.heap[B + 1]? = some (.cells #[.int .i64 xr, .int .i64 yr, .slice ar nr cr] 43 (0, 0)) := e1.blk Ar_1
 have Ap_2 : v2.heap[B + 1 + 1]? = some (.cells #[.int .i64 xp, .int .i64 yp, .slice ap np cp] 43 (0, 0)) := e1.blk Ap_1
 have E_2 : Ext w v2 := E_1.trans e1
 clear Au_1 Ar_1 Ap_1 E_1 e1
 by_cases hnegr : (1048576 - (nu : Int) : Int) - nr < 0
 ·rw [if_pos hnegr]
  go_wp2
  go_ret
  exact ⟨rfl, E_2⟩
 rw [if_neg hnegr]
 have hdr : decide ((1048576 - (nu : Int) : Int) - (nr : Int) < 0) = false := by simpa using hnegr
 obtain ⟨-, kAu0, kAu1, kAu2, -⟩ := bx3 Au_2
 obtain ⟨-, kAr0, kAr1, kAr2, -⟩ := bx3 Ar_2
 obtain ⟨-, kAp0, kAp1, kAp2, -⟩ := bx3 Ap_2
 go_wp2_with fail
 refine (szPicture_any xp yp ap cp np (1048576 - (nu : Int) - (nr : Int)) _ hnp (by omega) (by omega)).mono ?_
 rintro e v3 ⟨rfl, e1⟩
 clear kAu0 kAu1 kAu2 kAr0 kAr1 kAr2 kAp0 kAp1 kAp2
 have Au_3 : v3.heap[B]? = some (.cells #[.int .i64 xu, .int .i64 yu, .slice au nu cu] 43 (0, 0)) := e1.blk Au_2
 have Ar_3 : v3.heap[B + 1]? = some (.cells #[.int .i64 xr, .int .i64 yr, .slice ar nr cr] 43 (0, 0)) := e1.blk Ar_2
 have Ap_3 : v3.heap[B + 1 + 1]? = some (.cells #[.int .i64 xp, .int .i64 yp, .slice ap np cp] 43 (0, 0)) := e1.blk Ap_2
 have E_3 : Ext w v3 := E_2.trans e1
 clear Au_2 Ar_2 Ap_2 E_2 e1
 by_cases hnegp : (1048576 - (nu : Int) - (nr : Int) : Int) - np < 0
 ·rw [if_pos hnegp]
  go_wp2
  go_ret
  exact ⟨rfl, E_3⟩
 rw [if_neg hnegp]
 have hdp : decide ((1048576 - (nu : Int) - (nr : Int) : Int) - (np : Int) < 0) = false := by simpa using hnegp
 have h40u : nu < 2^40 := by omega
 have h40r : nr < 2^40 := by omega
 have h40p : np < 2^40 := by omega
 go_upto_region 11 with fail
 obtain ⟨h0, hh0⟩ : ∃ h, h = v3.heap.size := ⟨_, rfl⟩
 have HH0 := Lib.hid hh0
 have hlo : B + 1 + 1 < h0 := by rw [hh0]; exact lt_of_block Ap_3
 clear hh0
 have hext : ∀ (i : Nat) (own : Value) (ys : Nat → Value) (wa wb : World), Ext wa wb → (match i with | 0 => own = .agg #[.int .i64 xu, .int .i64 yu, .slice au nu cu] | 1 => ∃ (a2 : Option Addr) (c2 : Nat), own = .agg #[.int .i64 xu, .int .i64 yu, .slice a2 nu c2] ∧ wa.ownsRow v3.heap.size 3 1 (.slice a2 nu c2) nu (zu.map (Value.int .i64)) | 2 => own = .agg #[.int .i64 xr, .int .i64 yr, .slice ar nr cr] | 3 => ∃ (a2 : Option Addr) (c2 : Nat), own = .agg #[.int .i64 xr, .int .i64 yr, .slice a2 nr c2] ∧ wa.ownsRow v3.heap.size 3 1 (.slice a2 nr c2) nr (zr.map (Value.int .i64)) | 4 => own = .agg #[.int .i64 xp, .int .i64 yp, .slice ap np cp] | 5 => ∃ (a2 : Option Addr) (c2 : Nat), own = .agg #[.int .i64 xp, .int .i64 yp, .slice a2 np c2] ∧ wa.ownsRow v3.heap.size 3 1 (.slice a2 np c2) np (zp.map (Value.int .i64)) | 6 => own = .int .i64 x | 7 => own = .int .i64 y | 8 => own = .int .i64 q | 9 => own = .int .i64 top | 10 => own = .agg (ic R.zs) | 11 => ∃ (b : Nat) (us : List Int), own = .pointer (some ⟨b, 0, none⟩) ∧ v3.heap.size ≤ b ∧ IB wa b 32 us ∧ us.length = 71 | 12 => ∃ b : Nat, ys 11 = .pointer (some ⟨b, 0, none⟩) ∧ v3.heap.size ≤ b ∧ IB wa b 32 R.zs | _ => True) → (match i with | 0 => own = .agg #[.int .i64 xu, .int .i64 yu, .slice au nu cu] | 1 => ∃ (a2 : Option Addr) (c2 : Nat), own = .agg #[.int .i64 xu, .int .i64 yu, .slice a2 nu c2] ∧ wb.ownsRow v3.heap.size 3 1 (.slice a2 nu c2) nu (zu.map (Value.int .i64)) | 2 => own = .agg #[.int .i64 xr, .int .i64 yr, .slice ar nr cr] | 3 => ∃ (a2 : Option Addr) (c2 : Nat), own = .agg #[.int .i64 xr, .int .i64 yr, .slice a2 nr c2] ∧ wb.ownsRow v3.heap.size 3 1 (.slice a2 nr c2) nr (zr.map (Value.int .i64)) | 4 => own = .agg #[.int .i64 xp, .int .i64 yp, .slice ap np cp] | 5 => ∃ (a2 : Option Addr) (c2 : Nat), own = .agg #[.int .i64 xp, .int .i64 yp, .slice a2 np c2] ∧ wb.ownsRow v3.heap.size 3 1 (.slice a2 np c2) np (zp.map (Value.int .i64)) | 6 => own = .int .i64 x | 7 => own = .int .i64 y | 8 => own = .int .i64 q | 9 => own = .int .i64 top | 10 => own = .agg (ic R.zs) | 11 => ∃ (b : Nat) (us : List Int), own = .pointer (some ⟨b, 0, none⟩) ∧ v3.heap.size ≤ b ∧ IB wb b 32 us ∧ us.length = 71 | 12 => ∃ b : Nat, ys 11 = .pointer (some ⟨b, 0, none⟩) ∧ v3.heap.size ≤ b ∧ IB wb b 32 R.zs | _ => True) := by
  intro i own ys wa wb e h
  match i, h with
  | 0, h | 2, h | 4, h | 6, h | 7, h | 8, h | 9, h | 10, h => exact h
  | 1, h | 3, h | 5, h => obtain ⟨a2, c2, h1, h2⟩ := h; exact ⟨a2, c2, h1, owns_ext h2 e⟩
  | 11, h => obtain ⟨b, us, h1, h2, h3, h4⟩ := h; exact ⟨b, us, h1, h2, h3.ext e, h4⟩
  | 12, h => obtain ⟨b, h1, h2, h3⟩ := h; exact ⟨b, h1, h2, h3.ext e⟩
  | _ + 13, _ => trivial
 have Hext := Lib.hid hext
 clear hext
 refine wp_region_inv2 (by kernel_rfl) [(16, 11), (36, 0), (37, 1), (38, 2), (39, 3), (40, 4), (41, 5), (42, 6), (43, 7), (44, 8), (45, 9), (46, 10)] [[], [0], [], [0, 1, 2], [], [0, 1, 2, 3, 4], [], [], [], [], [0, 1, 2, 3, 4, 5, 6, 7, 8, 9], [], [0, 1, 2, 3, 4, 5, 6, 7, 8, 9, 10, 11]] (fun i own ys wx => match i with | 0 => own = .agg #[.int .i64 xu, .int .i64 yu, .slice au nu cu] | 1 => ∃ (a2 : Option Addr) (c2 : Nat), own = .agg #[.int .i64 xu, .int .i64 yu, .slice a2 nu c2] ∧ wx.ownsRow v3.heap.size 3 1 (.slice a2 nu c2) nu (zu.map (Value.int .i64)) | 2 => own = .agg #[.int .i64 xr, .int .i64 yr, .slice ar nr cr] | 3 => ∃ (a2 : Option Addr) (c2 : Nat), own = .agg #[.int .i64 xr, .int .i64 yr, .slice a2 nr c2] ∧ wx.ownsRow v3.heap.size 3 1 (.slice a2 nr c2) nr (zr.map (Value.int .i64)) | 4 => own = .agg #[.int .i64 xp, .int .i64 yp, .slice ap np cp] | 5 => ∃ (a2 : Option Addr) (c2 : Nat), own = .agg #[.int .i64 xp, .int .i64 yp, .slice a2 np c2] ∧ wx.ownsRow v3.heap.size 3 1 (.slice a2 np c2) np (zp.map (Value.int .i64)) | 6 => own = .int .i64 x | 7 => own = .int .i64 y | 8 => own = .int .i64 q | 9 => own = .int .i64 top | 10 => own = .agg (ic R.zs) | 11 => ∃ (b : Nat) (us : List Int), own = .pointer (some ⟨b, 0, none⟩) ∧ v3.heap.size ≤ b ∧ IB wx b 32 us ∧ us.length = 71 | 12 => ∃ b : Nat, ys 11 = .pointer (some ⟨b, 0, none⟩) ∧ v3.heap.size ≤ b ∧ IB wx b 32 R.zs | _ => True) (fun kx wx => Ext v3 wx) (by kernel_rfl) (by kernel_rfl) (by kernel_rfl) ?g0_r1 ?gop_r1 ?gend_r1
 case g0_r1 => exact Ext.drewN _ 1
 case gop_r1 =>
  refine ⟨?o0, ?o1, ?o2, ?o3, ?o4, ?o5, ?_, ?_, ?_, ?_, ?o10, ?o11, ?o12, trivial⟩ <;> (intro kx xs wx hk hG hD hI Qo Kx hK hQo; simp only [patchS, Nat.reduceAdd, Nat.reduceEqDiff, ↓reduceIte] at hQo ⊢)
  case o0 =>
   clear hD hI
   obtain ⟨-, k0, k1, k2, -⟩ := bx3 (hG.blk Au_3)
   go_wp2
   exact hK.out _ _ ⟨rfl, hG, fun _ _ _ _ _ _ h => h⟩
  case o1 =>
   have d0 : _ = _ := hD 0 rfl
   clear hD hI
   generalize xs 0 = y0 at *
   subst d0
   go_wp2_with fail
   refine (toPicture_any xu yu au nu cu zu _ (by omega) (slu.ext (E_3.trans hG))).mono ?_
   rintro e wz ⟨az, cz, rfl, ownz, ez⟩
   go_wp2
   exact hK.out _ _ ⟨⟨az, cz, rfl, owns_mono ownz hG.size⟩, hG.trans ez, fun i _ _ _ own ys h => Hext.out i own ys _ _ ez h⟩
  case o2 =>
   clear hD hI
   obtain ⟨-, k0, k1, k2, -⟩ := bx3 (hG.blk Ar_3)
   go_wp2
   exact hK.out _ _ ⟨rfl, hG, fun _ _ _ _ _ _ h => h⟩
  case o3 =>
   have d2 : _ = _ := hD 2 rfl
   clear hD hI
   generalize xs 2 = y2 at *
   subst d2
   go_wp2_with fail
   refine (toPicture_any xr yr ar nr cr zr _ (by omega) (slr.ext (E_3.trans hG))).mono ?_
   rintro e wz ⟨az, cz, rfl, ownz, ez⟩
   go_wp2
   exact hK.out _ _ ⟨⟨az, cz, rfl, owns_mono ownz hG.size⟩, hG.trans ez, fun i _ _ _ own ys h => Hext.out i own ys _ _ ez h⟩
  case o4 =>
   clear hD hI
   obtain ⟨-, k0, k1, k2, -⟩ := bx3 (hG.blk Ap_3)
   go_wp2
   exact hK.out _ _ ⟨rfl, hG, fun _ _ _ _ _ _ h => h⟩
  case o5 =>
   have d4 : _ = _ := hD 4 rfl
   clear hD hI
   generalize xs 4 = y4 at *
   subst d4
   go_wp2_with fail
   refine (toPicture_any xp yp ap np cp zp _ (by omega) (slp.ext (E_3.trans hG))).mono ?_
   rintro e wz ⟨az, cz, rfl, ownz, ez⟩
   go_wp2
   exact hK.out _ _ ⟨⟨az, cz, rfl, owns_mono ownz hG.size⟩, hG.trans ez, fun i _ _ _ own ys h => Hext.out i own ys _ _ ez h⟩
  case o10 =>
   have d1 : ∃ (a2 : Option Addr) (c2 : Nat), (xs 1) = .agg #[.int .i64 xu, .int .i64 yu, .slice a2 nu c2] ∧ wx.ownsRow v3.heap.size 3 1 (.slice a2 nu c2) nu (zu.map (Value.int .i64)) := hD 1 rfl
   have d3 : ∃ (a2 : Option Addr) (c2 : Nat), (xs 3) = .agg #[.int .i64 xr, .int .i64 yr, .slice a2 nr c2] ∧ wx.ownsRow v3.heap.size 3 1 (.slice a2 nr c2) nr (zr.map (Value.int .i64)) := hD 3 rfl
   have d5 : ∃ (a2 : Option Addr) (c2 : Nat), (xs 5) = .agg #[.int .i64 xp, .int .i64 yp, .slice a2 np c2] ∧ wx.ownsRow v3.heap.size 3 1 (.slice a2 np c2) np (zp.map (Value.int .i64)) := hD 5 rfl
   have d6 : _ = _ := hD 6 rfl
   have d7 : _ = _ := hD 7 rfl
   have d8 : _ = _ := hD 8 rfl
   have d9 : _ = _ := hD 9 rfl
   clear hD hI
   generalize xs 1 = y1 at *
   generalize xs 3 = y3 at *
   generalize xs 5 = y5 at *
   generalize xs 6 = y6 at *
   generalize xs 7 = y7 at *
   generalize xs 8 = y8 at *
   generalize xs 9 = y9 at *
   obtain ⟨a1, c1, rfl, o1⟩ := d1
   obtain ⟨a3, c3, rfl, o3⟩ := d3
   obtain ⟨a5, c5, rfl, o5⟩ := d5
   subst d6 d7 d8 d9
   go_wp2_with fail
   refine (HS.out a1 c1 a3 c3 a5 c5 _ (Sl.of_owns o1) (Sl.of_owns o3) (Sl.of_owns o5)).mono ?_
   rintro e wz ⟨rfl, ez⟩
   go_wp2
   exact hK.out _ _ ⟨rfl, hG.trans ez, fun i _ _ _ own ys h => Hext.out i own ys _ _ ez h⟩
  case o11 =>
   clear hD hI
   have ea := Ext.alloc wx (.cells (ic (zl 71)) 32)
   refine wpList_iallocz 32 rfl rfl 71 zeroq_M ?_
   exact hQo _ _ (hK.out _ _ ⟨⟨_, _, rfl, hG.size, IB.new _ _ _, zl_len 71⟩, hG.trans ea, fun i _ _ _ own ys h => Hext.out i own ys _ _ ea h⟩)
  case o12 =>
   have d11 : ∃ (b : Nat) (us : List Int), (xs 11) = .pointer (some ⟨b, 0, none⟩) ∧ v3.heap.size ≤ b ∧ IB wx b 32 us ∧ us.length = 71 := hD 11 rfl
   have d10 : _ = _ := hD 10 rfl
   clear hD hI
   generalize hx11 : xs 11 = y11 at *
   have Hx11 := Lib.hid hx11
   clear hx11
   generalize xs 10 = y10 at *
   obtain ⟨b11, us11, rfl, hb11, z11, l11⟩ := d11
   subst d10
   refine wpList_istore 32 _ _ rfl rfl z11 0 71 rfl _ rfl R.zs rfl size_Macro Hrl.out (by rw [l11]; omega) ?_
   intro w9 i9 g9
   rw [spl_all (by rw [Hrl.out, l11])] at i9
   have hst : ∀ (wy : World), (∃ b : Nat, wx.grownBy wy (some b) ∧ (∃ us : List Int, IB wx b 32 us) ∧ ∃ us : List Int, IB wy b 32 us ∧ us.length = 71) → ∀ (ii : Nat), ii < 13 → ii ≠ 12 → ([[], [0], [], [0, 1, 2], [], [0, 1, 2, 3, 4], [], [], [], [], [0, 1, 2, 3, 4, 5, 6, 7, 8, 9], [], [0, 1, 2, 3, 4, 5, 6, 7, 8, 9, 10, 11]].getD ii []).contains 12 = false → ∀ (own : Value) (ys : Nat → Value), (match ii with | 0 => own = .agg #[.int .i64 xu, .int .i64 yu, .slice au nu cu] | 1 => ∃ (a2 : Option Addr) (c2 : Nat), own = .agg #[.int .i64 xu, .int .i64 yu, .slice a2 nu c2] ∧ wx.ownsRow v3.heap.size 3 1 (.slice a2 nu c2) nu (zu.map (Value.int .i64)) | 2 => own = .agg #[.int .i64 xr, .int .i64 yr, .slice ar nr cr] | 3 => ∃ (a2 : Option Addr) (c2 : Nat), own = .agg #[.int .i64 xr, .int .i64 yr, .slice a2 nr c2] ∧ wx.ownsRow v3.heap.size 3 1 (.slice a2 nr c2) nr (zr.map (Value.int .i64)) | 4 => own = .agg #[.int .i64 xp, .int .i64 yp, .slice ap np cp] | 5 => ∃ (a2 : Option Addr) (c2 : Nat), own = .agg #[.int .i64 xp, .int .i64 yp, .slice a2 np c2] ∧ wx.ownsRow v3.heap.size 3 1 (.slice a2 np c2) np (zp.map (Value.int .i64)) | 6 => own = .int .i64 x | 7 => own = .int .i64 y | 8 => own = .int .i64 q | 9 => own = .int .i64 top | 10 => own = .agg (ic R.zs) | 11 => ∃ (b : Nat) (us : List Int), own = .pointer (some ⟨b, 0, none⟩) ∧ v3.heap.size ≤ b ∧ IB wx b 32 us ∧ us.length = 71 | 12 => ∃ b : Nat, ys 11 = .pointer (some ⟨b, 0, none⟩) ∧ v3.heap.size ≤ b ∧ IB wx b 32 R.zs | _ => True) → (match ii with | 0 => own = .agg #[.int .i64 xu, .int .i64 yu, .slice au nu cu] | 1 => ∃ (a2 : Option Addr) (c2 : Nat), own = .agg #[.int .i64 xu, .int .i64 yu, .slice a2 nu c2] ∧ wy.ownsRow v3.heap.size 3 1 (.slice a2 nu c2) nu (zu.map (Value.int .i64)) | 2 => own = .agg #[.int .i64 xr, .int .i64 yr, .slice ar nr cr] | 3 => ∃ (a2 : Option Addr) (c2 : Nat), own = .agg #[.int .i64 xr, .int .i64 yr, .slice a2 nr c2] ∧ wy.ownsRow v3.heap.size 3 1 (.slice a2 nr c2) nr (zr.map (Value.int .i64)) | 4 => own = .agg #[.int .i64 xp, .int .i64 yp, .slice ap np cp] | 5 => ∃ (a2 : Option Addr) (c2 : Nat), own = .agg #[.int .i64 xp, .int .i64 yp, .slice a2 np c2] ∧ wy.ownsRow v3.heap.size 3 1 (.slice a2 np c2) np (zp.map (Value.int .i64)) | 6 => own = .int .i64 x | 7 => own = .int .i64 y | 8 => own = .int .i64 q | 9 => own = .int .i64 top | 10 => own = .agg (ic R.zs) | 11 => ∃ (b : Nat) (us : List Int), own = .pointer (some ⟨b, 0, none⟩) ∧ v3.heap.size ≤ b ∧ IB wy b 32 us ∧ us.length = 71 | 12 => ∃ b : Nat, ys 11 = .pointer (some ⟨b, 0, none⟩) ∧ v3.heap.size ≤ b ∧ IB wy b 32 R.zs | _ => True) := by
    intro wy hy ii hii hne hc own ys h
    match ii, h with
    | 0, h | 2, h | 4, h | 6, h | 7, h | 8, h | 9, h | 10, h => exact h
    | 1, h | 3, h | 5, h => obtain ⟨a2, c2, h1, h2⟩ := h; obtain ⟨b, g1, ⟨us, g2⟩, -⟩ := hy; exact ⟨a2, c2, h1, h2.kept g1 (own_ne_blk h2 g2 (by decide))⟩
    | 11, h => obtain ⟨b, us, h1, h2, h3, h4⟩ := h; obtain ⟨b2, g1, -, us2, g2, g3⟩ := hy; by_cases e2 : b = b2; (subst e2; exact ⟨b, us2, h1, h2, g2, g3⟩); exact ⟨b, us, h1, h2, h3.gr g1 (by simp; omega), h4⟩
    | 12, h => exact absurd rfl hne
    | _ + 13, _ => trivial
   exact hQo undef _ (hK.out _ _ ⟨⟨b11, Hx11.out, hb11, i9⟩, Ext.grown hG g9 (fun k hk => by cases hk; exact hb11), hst _ ⟨b11, g9, ⟨_, z11⟩, _, i9, Hrl.out⟩⟩)
  all_goals
   clear hD hI
   go_wp2
   exact hK.out _ _ ⟨rfl, hG, fun _ _ _ _ _ _ h => h⟩
 clear Hext
 intro xs wx hV hG
 have d12 : ∃ b : Nat, (xs 11) = .pointer (some ⟨b, 0, none⟩) ∧ v3.heap.size ≤ b ∧ IB wx b 32 R.zs := hV 12 (by decide)
 clear hV
 simp only [patchS, Nat.reduceAdd, Nat.reduceEqDiff, ↓reduceIte]
 generalize xs 0 = y0 at *
 generalize xs 1 = y1 at *
 generalize xs 2 = y2 at *
 generalize xs 3 = y3 at *
 generalize xs 4 = y4 at *
 generalize xs 5 = y5 at *
 generalize xs 6 = y6 at *
 generalize xs 7 = y7 at *
 generalize xs 8 = y8 at *
 generalize xs 9 = y9 at *
 generalize xs 10 = y10 at *
 generalize xs 11 = y11 at *
 generalize xs 12 = y12 at *
 replace hG : Ext v3 wx := hG
 obtain ⟨bW, rfl, hbW, BW_n⟩ := d12
 generalize wx = v4 at *
 have hsg := hG.size
 obtain ⟨h1, hh1⟩ : ∃ h, h = v4.heap.size := ⟨_, rfl⟩
 have HH1 := Lib.hid hh1
 rw [← HH0.out] at hbW hsg
 rw [← hh1] at hsg
 have hbW2 : bW < h1 := by rw [hh1]; exact lt_of_block BW_n
 clear hh1
 have Au_4 : v4.heap[B]? = some (.cells #[.int .i64 xu, .int .i64 yu, .slice au nu cu] 43 (0, 0)) := hG.blk Au_3
 have Ar_4 : v4.heap[B + 1]? = some (.cells #[.int .i64 xr, .int .i64 yr, .slice ar nr cr] 43 (0, 0)) := hG.blk Ar_3
 have Ap_4 : v4.heap[B + 1 + 1]? = some (.cells #[.int .i64 xp, .int .i64 yp, .slice ap np cp] 43 (0, 0)) := hG.blk Ap_3
 have E_4 : Ext w v4 := E_3.trans hG
 clear Au_3 Ar_3 Ap_3 E_3 hG
 have BW_4 := BW_n
 clear BW_n
 obtain ⟨-, kAu0, kAu1, kAu2, -⟩ := bx3 Au_4
 obtain ⟨-, kAr0, kAr1, kAr2, -⟩ := bx3 Ar_4
 obtain ⟨-, kAp0, kAp1, kAp2, -⟩ := bx3 Ap_4
 go_wp2_with (first | (refine wpList_iload 32 _ rfl rfl BW_4 0 71 rfl _ Tryz.underlying32 rfl size_Macro (by rw [Hrl.out]; omega) _ (by rw [sub_all _ _ Hrl.out]) ?_))
 refine (toPicture_any xu yu au nu cu zu _ (by omega) (slu.ext E_4)).mono ?_
 rintro e uu ⟨aXu, cXu, rfl, oXu, e1⟩
 clear kAu0 kAu1 kAu2 kAr0 kAr1 kAr2 kAp0 kAp1 kAp2
 have ea := Ext.alloc uu (.cells #[.int .i64 xu, .int .i64 yu, .slice aXu nu cXu] 25)
 have ee := e1.trans ea
 obtain ⟨bXu, hbxu⟩ : ∃ d, d = uu.heap.size := ⟨_, rfl⟩
 have hsz1 := e1.size
 rw [← HH1.out] at oXu hsz1
 have RXu := Lib.hid (show ∀ k, (Value.slice aXu nu cXu).ownBlock = some k → h1 ≤ k ∧ k < bXu from fun k hk => by rw [hbxu]; exact oXu.lt k hk)
 rw [← hbxu] at hsz1
 have hblu : h1 ≤ bXu := hsz1
 clear hsz1
 have Au_5 : (uu.alloc (.cells #[.int .i64 xu, .int .i64 yu, .slice aXu nu cXu] 25)).heap[B]? = some (.cells #[.int .i64 xu, .int .i64 yu, .slice au nu cu] 43 (0, 0)) := ee.blk Au_4
 have Ar_5 : (uu.alloc (.cells #[.int .i64 xu, .int .i64 yu, .slice aXu nu cXu] 25)).heap[B + 1]? = some (.cells #[.int .i64 xr, .int .i64 yr, .slice ar nr cr] 43 (0, 0)) := ee.blk Ar_4
 have Ap_5 : (uu.alloc (.cells #[.int .i64 xu, .int .i64 yu, .slice aXu nu cXu] 25)).heap[B + 1 + 1]? = some (.cells #[.int .i64 xp, .int .i64 yp, .slice ap np cp] 43 (0, 0)) := ee.blk Ap_4
 have E_5 : Ext w (uu.alloc (.cells #[.int .i64 xu, .int .i64 yu, .slice aXu nu cXu] 25)) := E_4.trans ee
 have BW_5 : IB (uu.alloc (.cells #[.int .i64 xu, .int .i64 yu, .slice aXu nu cXu] 25)) bW 32 R.zs := BW_4.ext ee
 clear Au_4 Ar_4 Ap_4 E_4 BW_4
 have OXu_5 := owns_ext oXu ea
 have BXu_5 : PX (uu.alloc (.cells #[.int .i64 xu, .int .i64 yu, .slice aXu nu cXu] 25)) bXu xu yu aXu nu cXu := by rw [hbxu]; exact blk_new _ _
 obtain ⟨h2, hh2⟩ : ∃ h, h = (uu.alloc (.cells #[.int .i64 xu, .int .i64 yu, .slice aXu nu cXu] 25)).heap.size := ⟨_, rfl⟩
 have hbuu : bXu < h2 := by rw [hh2, hbxu]; simp
 have HH2 := Lib.hid hh2
 clear hh2 oXu ea ee e1
 obtain ⟨-, kAu0, kAu1, kAu2, -⟩ := bx3 Au_5
 obtain ⟨-, kAr0, kAr1, kAr2, -⟩ := bx3 Ar_5
 obtain ⟨-, kAp0, kAp1, kAp2, -⟩ := bx3 Ap_5
 go_wp2_with (first | (refine wpList_iload 32 _ rfl rfl BW_5 0 71 rfl _ Tryz.underlying32 rfl size_Macro (by rw [Hrl.out]; omega) _ (by rw [sub_all _ _ Hrl.out]) ?_))
 rw [← hbxu]
 generalize uu.alloc (.cells #[.int .i64 xu, .int .i64 yu, .slice aXu nu cXu] 25) = v5x at *
 clear hbxu
 refine (toPicture_any xr yr ar nr cr zr _ (by omega) (slr.ext E_5)).mono ?_
 rintro e ur ⟨aXr, cXr, rfl, oXr, e1⟩
 clear kAu0 kAu1 kAu2 kAr0 kAr1 kAr2 kAp0 kAp1 kAp2
 have ea := Ext.alloc ur (.cells #[.int .i64 xr, .int .i64 yr, .slice aXr nr cXr] 25)
 have ee := e1.trans ea
 obtain ⟨bXr, hbxr⟩ : ∃ d, d = ur.heap.size := ⟨_, rfl⟩
 have hsz1 := e1.size
 rw [← HH2.out] at oXr hsz1
 have RXr := Lib.hid (show ∀ k, (Value.slice aXr nr cXr).ownBlock = some k → h2 ≤ k ∧ k < bXr from fun k hk => by rw [hbxr]; exact oXr.lt k hk)
 rw [← hbxr] at hsz1
 have hblr : h2 ≤ bXr := hsz1
 clear hsz1
 have Au_6 : (ur.alloc (.cells #[.int .i64 xr, .int .i64 yr, .slice aXr nr cXr] 25)).heap[B]? = some (.cells #[.int .i64 xu, .int .i64 yu, .slice au nu cu] 43 (0, 0)) := ee.blk Au_5
 have Ar_6 : (ur.alloc (.cells #[.int .i64 xr, .int .i64 yr, .slice aXr nr cXr] 25)).heap[B + 1]? = some (.cells #[.int .i64 xr, .int .i64 yr, .slice ar nr cr] 43 (0, 0)) := ee.blk Ar_5
 have Ap_6 : (ur.alloc (.cells #[.int .i64 xr, .int .i64 yr, .slice aXr nr cXr] 25)).heap[B + 1 + 1]? = some (.cells #[.int .i64 xp, .int .i64 yp, .slice ap np cp] 43 (0, 0)) := ee.blk Ap_5
 have E_6 : Ext w (ur.alloc (.cells #[.int .i64 xr, .int .i64 yr, .slice aXr nr cXr] 25)) := E_5.trans ee
 have BW_6 : IB (ur.alloc (.cells #[.int .i64 xr, .int .i64 yr, .slice aXr nr cXr] 25)) bW 32 R.zs := BW_5.ext ee
 have OXu_6 : (ur.alloc (.cells #[.int .i64 xr, .int .i64 yr, .slice aXr nr cXr] 25)).ownsRow h1 3 1 (.slice aXu nu cXu) nu (zu.map (Value.int .i64)) := owns_ext OXu_5 ee
 have BXu_6 : PX (ur.alloc (.cells #[.int .i64 xr, .int .i64 yr, .slice aXr nr cXr] 25)) bXu xu yu aXu nu cXu := BXu_5.ext ee
 clear Au_5 Ar_5 Ap_5 E_5 BW_5 OXu_5 BXu_5
 have OXr_6 := owns_ext oXr ea
 have BXr_6 : PX (ur.alloc (.cells #[.int .i64 xr, .int .i64 yr, .slice aXr nr cXr] 25)) bXr xr yr aXr nr cXr := by rw [hbxr]; exact blk_new _ _
 obtain ⟨h3, hh3⟩ : ∃ h, h = (ur.alloc (.cells #[.int .i64 xr, .int .i64 yr, .slice aXr nr cXr] 25)).heap.size := ⟨_, rfl⟩
 have hbur : bXr < h3 := by rw [hh3, hbxr]; simp
 have HH3 := Lib.hid hh3
 clear hh3 oXr ea ee e1
 obtain ⟨-, kAu0, kAu1, kAu2, -⟩ := bx3 Au_6
 obtain ⟨-, kAr0, kAr1, kAr2, -⟩ := bx3 Ar_6
 obtain ⟨-, kAp0, kAp1, kAp2, -⟩ := bx3 Ap_6
 go_wp2_with (first | (refine wpList_iload 32 _ rfl rfl BW_6 0 71 rfl _ Tryz.underlying32 rfl size_Macro (by rw [Hrl.out]; omega) _ (by rw [sub_all _ _ Hrl.out]) ?_))
 rw [← hbxr]
 generalize ur.alloc (.cells #[.int .i64 xr, .int .i64 yr, .slice aXr nr cXr] 25) = v6x at *
 clear hbxr
 refine (toPicture_any xp yp ap np cp zp _ (by omega) (slp.ext E_6)).mono ?_
 rintro e up ⟨aXp, cXp, rfl, oXp, e1⟩
 clear kAu0 kAu1 kAu2 kAr0 kAr1 kAr2 kAp0 kAp1 kAp2
 have ea := Ext.alloc up (.cells #[.int .i64 xp, .int .i64 yp, .slice aXp np cXp] 25)
 have ee := e1.trans ea
 obtain ⟨bXp, hbxp⟩ : ∃ d, d = up.heap.size := ⟨_, rfl⟩
 have hsz1 := e1.size
 rw [← HH3.out] at oXp hsz1
 have RXp := Lib.hid (show ∀ k, (Value.slice aXp np cXp).ownBlock = some k → h3 ≤ k ∧ k < bXp from fun k hk => by rw [hbxp]; exact oXp.lt k hk)
 rw [← hbxp] at hsz1
 have hblp : h3 ≤ bXp := hsz1
 clear hsz1
 have Au_7 : (up.alloc (.cells #[.int .i64 xp, .int .i64 yp, .slice aXp np cXp] 25)).heap[B]? = some (.cells #[.int .i64 xu, .int .i64 yu, .slice au nu cu] 43 (0, 0)) := ee.blk Au_6
 have Ar_7 : (up.alloc (.cells #[.int .i64 xp, .int .i64 yp, .slice aXp np cXp] 25)).heap[B + 1]? = some (.cells #[.int .i64 xr, .int .i64 yr, .slice ar nr cr] 43 (0, 0)) := ee.blk Ar_6
 have Ap_7 : (up.alloc (.cells #[.int .i64 xp, .int .i64 yp, .slice aXp np cXp] 25)).heap[B + 1 + 1]? = some (.cells #[.int .i64 xp, .int .i64 yp, .slice ap np cp] 43 (0, 0)) := ee.blk Ap_6
 have E_7 : Ext w (up.alloc (.cells #[.int .i64 xp, .int .i64 yp, .slice aXp np cXp] 25)) := E_6.trans ee
 have BW_7 : IB (up.alloc (.cells #[.int .i64 xp, .int .i64 yp, .slice aXp np cXp] 25)) bW 32 R.zs := BW_6.ext ee
 have OXu_7 : (up.alloc (.cells #[.int .i64 xp, .int .i64 yp, .slice aXp np cXp] 25)).ownsRow h1 3 1 (.slice aXu nu cXu) nu (zu.map (Value.int .i64)) := owns_ext OXu_6 ee
 have BXu_7 : PX (up.alloc (.cells #[.int .i64 xp, .int .i64 yp, .slice aXp np cXp] 25)) bXu xu yu aXu nu cXu := BXu_6.ext ee
 have OXr_7 : (up.alloc (.cells #[.int .i64 xp, .int .i64 yp, .slice aXp np cXp] 25)).ownsRow h2 3 1 (.slice aXr nr cXr) nr (zr.map (Value.int .i64)) := owns_ext OXr_6 ee
 have BXr_7 : PX (up.alloc (.cells #[.int .i64 xp, .int .i64 yp, .slice aXp np cXp] 25)) bXr xr yr aXr nr cXr := BXr_6.ext ee
 clear Au_6 Ar_6 Ap_6 E_6 BW_6 OXu_6 BXu_6 OXr_6 BXr_6
 have OXp_7 := owns_ext oXp ea
 have BXp_7 : PX (up.alloc (.cells #[.int .i64 xp, .int .i64 yp, .slice aXp np cXp] 25)) bXp xp yp aXp np cXp := by rw [hbxp]; exact blk_new _ _
 obtain ⟨h4, hh4⟩ : ∃ h, h = (up.alloc (.cells #[.int .i64 xp, .int .i64 yp, .slice aXp np cXp] 25)).heap.size := ⟨_, rfl⟩
 have hbup : bXp < h4 := by rw [hh4, hbxp]; simp
 have HH4 := Lib.hid hh4
 clear hh4 oXp ea ee e1
 obtain ⟨kBXu0, kBXu1, kBXu2⟩ := PX.cells BXu_7
 obtain ⟨kBXr0, kBXr1, kBXr2⟩ := PX.cells BXr_7
 obtain ⟨kBXp0, kBXp1, kBXp2⟩ := PX.cells BXp_7
 go_wp2_with (first | (refine wpList_iload 32 _ rfl rfl BW_7 0 71 rfl _ Tryz.underlying32 rfl size_Macro (by rw [Hrl.out]; omega) _ (by rw [sub_all _ _ Hrl.out]) ?_))
 rw [← hbxp]
 generalize up.alloc (.cells #[.int .i64 xp, .int .i64 yp, .slice aXp np cXp] 25) = v7x at *
 clear hbxp
 refine (HI.out aXu cXu aXr cXr aXp cXp _ (hT.ext E_7) (Sl.of_owns OXu_7) (Sl.of_owns OXr_7) (Sl.of_owns OXp_7)).mono ?_
 rintro e ug ⟨rfl, e1⟩
 clear kBXu0 kBXu1 kBXu2 kBXr0 kBXr1 kBXr2 kBXp0 kBXp1 kBXp2
 have Au_8 : ug.heap[B]? = some (.cells #[.int .i64 xu, .int .i64 yu, .slice au nu cu] 43 (0, 0)) := e1.blk Au_7
 have Ar_8 : ug.heap[B + 1]? = some (.cells #[.int .i64 xr, .int .i64 yr, .slice ar nr cr] 43 (0, 0)) := e1.blk Ar_7
 have Ap_8 : ug.heap[B + 1 + 1]? = some (.cells #[.int .i64 xp, .int .i64 yp, .slice ap np cp] 43 (0, 0)) := e1.blk Ap_7
 have E_8 : Ext w ug := E_7.trans e1
 have BW_8 : IB ug bW 32 R.zs := BW_7.ext e1
 have OXu_8 : ug.ownsRow h1 3 1 (.slice aXu nu cXu) nu (zu.map (Value.int .i64)) := owns_ext OXu_7 e1
 have BXu_8 : PX ug bXu xu yu aXu nu cXu := BXu_7.ext e1
 have OXr_8 : ug.ownsRow h2 3 1 (.slice aXr nr cXr) nr (zr.map (Value.int .i64)) := owns_ext OXr_7 e1
 have BXr_8 : PX ug bXr xr yr aXr nr cXr := BXr_7.ext e1
 have OXp_8 : ug.ownsRow h3 3 1 (.slice aXp np cXp) np (zp.map (Value.int .i64)) := owns_ext OXp_7 e1
 have BXp_8 : PX ug bXp xp yp aXp np cXp := BXp_7.ext e1
 clear Au_7 Ar_7 Ap_7 E_7 BW_7 OXu_7 BXu_7 OXr_7 BXr_7 OXp_7 BXp_7 e1
 obtain ⟨bG, hbG⟩ : ∃ d, d = ug.heap.size := ⟨_, rfl⟩
 have ib0 := IB.new ug 32 (zl 71)
 have ea := Ext.alloc ug (.cells (ic (zl 71)) 32)
 have hlo9 : B < bG := by rw [hbG]; exact lt_of_block Au_8
 have hbW9 : bW < bG := by rw [hbG]; exact lt_of_block BW_8
 have hbX9u : bXu < bG := by rw [hbG]; exact lt_of_block BXu_8
 have hbX9r : bXr < bG := by rw [hbG]; exact lt_of_block BXr_8
 have hbX9p : bXp < bG := by rw [hbG]; exact lt_of_block BXp_8
 have hoX9u := Lib.hid (show ∀ k, (Value.slice aXu nu cXu).ownBlock = some k → h1 ≤ k ∧ k < bG from fun k hk => by have := RXu.out k hk; have := OXu_8.lt k hk; rw [hbG]; omega)
 have hoX9r := Lib.hid (show ∀ k, (Value.slice aXr nr cXr).ownBlock = some k → h1 ≤ k ∧ k < bG from fun k hk => by have := RXr.out k hk; have := OXr_8.lt k hk; rw [hbG]; omega)
 have hoX9p := Lib.hid (show ∀ k, (Value.slice aXp np cXp).ownBlock = some k → h1 ≤ k ∧ k < bG from fun k hk => by have := RXp.out k hk; have := OXp_8.lt k hk; rw [hbG]; omega)
 have Au_9 : (ug.alloc (.cells (ic (zl 71)) 32)).heap[B]? = some (.cells #[.int .i64 xu, .int .i64 yu, .slice au nu cu] 43 (0, 0)) := ea.blk Au_8
 have Ar_9 : (ug.alloc (.cells (ic (zl 71)) 32)).heap[B + 1]? = some (.cells #[.int .i64 xr, .int .i64 yr, .slice ar nr cr] 43 (0, 0)) := ea.blk Ar_8
 have Ap_9 : (ug.alloc (.cells (ic (zl 71)) 32)).heap[B + 1 + 1]? = some (.cells #[.int .i64 xp, .int .i64 yp, .slice ap np cp] 43 (0, 0)) := ea.blk Ap_8
 have E_9 : Ext w (ug.alloc (.cells (ic (zl 71)) 32)) := E_8.trans ea
 have BW_9 : IB (ug.alloc (.cells (ic (zl 71)) 32)) bW 32 R.zs := BW_8.ext ea
 have OXu_9 : (ug.alloc (.cells (ic (zl 71)) 32)).ownsRow h1 3 1 (.slice aXu nu cXu) nu (zu.map (Value.int .i64)) := owns_ext OXu_8 ea
 have BXu_9 : PX (ug.alloc (.cells (ic (zl 71)) 32)) bXu xu yu aXu nu cXu := BXu_8.ext ea
 have OXr_9 : (ug.alloc (.cells (ic (zl 71)) 32)).ownsRow h2 3 1 (.slice aXr nr cXr) nr (zr.map (Value.int .i64)) := owns_ext OXr_8 ea
 have BXr_9 : PX (ug.alloc (.cells (ic (zl 71)) 32)) bXr xr yr aXr nr cXr := BXr_8.ext ea
 have OXp_9 : (ug.alloc (.cells (ic (zl 71)) 32)).ownsRow h3 3 1 (.slice aXp np cXp) np (zp.map (Value.int .i64)) := owns_ext OXp_8 ea
 have BXp_9 : PX (ug.alloc (.cells (ic (zl 71)) 32)) bXp xp yp aXp np cXp := BXp_8.ext ea
 clear Au_8 Ar_8 Ap_8 E_8 BW_8 OXu_8 BXu_8 OXr_8 BXr_8 OXp_8 BXp_8 ea
 go_wp2_with (first | (refine wpList_iallocz 32 rfl rfl 71 zeroq_M ?_; (try simp only [World.size_alloc])) | (refine wpList_istore 32 _ _ rfl rfl ib0 0 71 rfl _ rfl R.zs rfl size_Macro Hrl.out (by simp [zl]) ?_; intro vg igg gg; refine Hid.out ?_))
 rw [spl_all (by rw [Hrl.out, zl_len])] at igg
 rw [← hbG] at igg gg ⊢
 have TT : Tc bG (bG + 1) _ vg := Tc.of gg (fun k hk => by cases hk; omega)
 have Au_10 : vg.heap[B]? = some (.cells #[.int .i64 xu, .int .i64 yu, .slice au nu cu] 43 (0, 0)) := TT.blk Au_9 (by omega)
 have Ar_10 : vg.heap[B + 1]? = some (.cells #[.int .i64 xr, .int .i64 yr, .slice ar nr cr] 43 (0, 0)) := TT.blk Ar_9 (by omega)
 have Ap_10 : vg.heap[B + 1 + 1]? = some (.cells #[.int .i64 xp, .int .i64 yp, .slice ap np cp] 43 (0, 0)) := TT.blk Ap_9 (by omega)
 have E_10 : Ext w vg := TT.ext E_9 (by omega)
 have BW_10 : IB vg bW 32 R.zs := TT.ib BW_9 (by omega)
 have OXu_10 : vg.ownsRow h1 3 1 (.slice aXu nu cXu) nu (zu.map (Value.int .i64)) := TT.own OXu_9 (fun k hk => by have := hoX9u.out k hk; omega)
 have BXu_10 : PX vg bXu xu yu aXu nu cXu := TT.blk BXu_9 (by omega)
 have OXr_10 : vg.ownsRow h2 3 1 (.slice aXr nr cXr) nr (zr.map (Value.int .i64)) := TT.own OXr_9 (fun k hk => by have := hoX9r.out k hk; omega)
 have BXr_10 : PX vg bXr xr yr aXr nr cXr := TT.blk BXr_9 (by omega)
 have OXp_10 : vg.ownsRow h3 3 1 (.slice aXp np cXp) np (zp.map (Value.int .i64)) := TT.own OXp_9 (fun k hk => by have := hoX9p.out k hk; omega)
 have BXp_10 : PX vg bXp xp yp aXp np cXp := TT.blk BXp_9 (by omega)
 clear Au_9 Ar_9 Ap_9 E_9 BW_9 OXu_9 BXu_9 OXr_9 BXr_9 OXp_9 BXp_9 TT gg ib0 hbG
 refine Lib.hid ?_
 have BG_10 := igg
 clear igg
 go_wp2_with (first | (refine wpList_iload 32 _ rfl rfl BW_10 0 71 rfl _ Tryz.underlying32 rfl size_Macro (by rw [Hrl.out]; omega) _ (by rw [sub_all _ _ Hrl.out]) ?_) | (refine wpList_iload 32 _ rfl rfl BG_10 0 71 rfl _ Tryz.underlying32 rfl size_Macro (by rw [Hrl.out]; omega) _ (by rw [sub_all _ _ Hrl.out]) ?_))
 refine (eqMacro_same R _ Hr.out).mono ?_
 rintro e v11 ⟨rfl, e1⟩
 have Au_11 : v11.heap[B]? = some (.cells #[.int .i64 xu, .int .i64 yu, .slice au nu cu] 43 (0, 0)) := e1.blk Au_10
 have Ar_11 : v11.heap[B + 1]? = some (.cells #[.int .i64 xr, .int .i64 yr, .slice ar nr cr] 43 (0, 0)) := e1.blk Ar_10
 have Ap_11 : v11.heap[B + 1 + 1]? = some (.cells #[.int .i64 xp, .int .i64 yp, .slice ap np cp] 43 (0, 0)) := e1.blk Ap_10
 have E_11 : Ext w v11 := E_10.trans e1
 have BW_11 : IB v11 bW 32 R.zs := BW_10.ext e1
 have OXu_11 : v11.ownsRow h1 3 1 (.slice aXu nu cXu) nu (zu.map (Value.int .i64)) := owns_ext OXu_10 e1
 have BXu_11 : PX v11 bXu xu yu aXu nu cXu := BXu_10.ext e1
 have OXr_11 : v11.ownsRow h2 3 1 (.slice aXr nr cXr) nr (zr.map (Value.int .i64)) := owns_ext OXr_10 e1
 have BXr_11 : PX v11 bXr xr yr aXr nr cXr := BXr_10.ext e1
 have OXp_11 : v11.ownsRow h3 3 1 (.slice aXp np cXp) np (zp.map (Value.int .i64)) := owns_ext OXp_10 e1
 have BXp_11 : PX v11 bXp xp yp aXp np cXp := BXp_10.ext e1
 have BG_11 : IB v11 bG 32 R.zs := BG_10.ext e1
 clear Au_10 Ar_10 Ap_10 E_10 BW_10 OXu_10 BXu_10 OXr_10 BXr_10 OXp_10 BXp_10 BG_10 e1
 go_upto_region 18 with fail
 have hext : ∀ (i : Nat) (own : Value) (ys : Nat → Value) (wa wb : World), Ext wa wb → (match i with | 0 => own = .agg #[.int .i64 xu, .int .i64 yu, .slice aXu nu cXu] | 1 => own = .agg #[.int .i64 xu, .int .i64 yu, .slice au nu cu] | 2 => ∃ (a2 : Option Addr) (c2 : Nat), own = .agg #[.int .i64 xu, .int .i64 yu, .slice a2 nu c2] ∧ wa.ownsRow v11.heap.size 3 1 (.slice a2 nu c2) nu (zu.map (Value.int .i64)) | 3 => own = .bool true | 4 => own = .bool false | _ => True) → (match i with | 0 => own = .agg #[.int .i64 xu, .int .i64 yu, .slice aXu nu cXu] | 1 => own = .agg #[.int .i64 xu, .int .i64 yu, .slice au nu cu] | 2 => ∃ (a2 : Option Addr) (c2 : Nat), own = .agg #[.int .i64 xu, .int .i64 yu, .slice a2 nu c2] ∧ wb.ownsRow v11.heap.size 3 1 (.slice a2 nu c2) nu (zu.map (Value.int .i64)) | 3 => own = .bool true | 4 => own = .bool false | _ => True) := by
  intro i own ys wa wb e h
  match i, h with
  | 0, h | 1, h | 3, h | 4, h => exact h
  | 2, h => obtain ⟨a2, c2, h1, h2⟩ := h; exact ⟨a2, c2, h1, owns_ext h2 e⟩
  | _ + 5, _ => trivial
 have Hext := Lib.hid hext
 clear hext
 refine wp_region_inv2 (by kernel_rfl) [(65, 0), (66, 1), (67, 2), (68, 3), (69, 4)] [[], [], [1], [0, 1, 2], [0, 1, 2, 3]] (fun i own ys wx => match i with | 0 => own = .agg #[.int .i64 xu, .int .i64 yu, .slice aXu nu cXu] | 1 => own = .agg #[.int .i64 xu, .int .i64 yu, .slice au nu cu] | 2 => ∃ (a2 : Option Addr) (c2 : Nat), own = .agg #[.int .i64 xu, .int .i64 yu, .slice a2 nu c2] ∧ wx.ownsRow v11.heap.size 3 1 (.slice a2 nu c2) nu (zu.map (Value.int .i64)) | 3 => own = .bool true | 4 => own = .bool false | _ => True) (fun kx wx => Ext v11 wx) (by kernel_rfl) (by kernel_rfl) (by kernel_rfl) ?g0_r2 ?gop_r2 ?gend_r2
 case g0_r2 => exact Ext.drewN _ 1
 case gop_r2 =>
  refine ⟨?o0, ?o1, ?o2, ?o3, ?o4, trivial⟩ <;> (intro kx xs wx hk hG hD hI Qo Kx hK hQo; simp only [patchS, Nat.reduceAdd, Nat.reduceEqDiff, ↓reduceIte] at hQo ⊢)
  case o0 =>
   clear hD hI
   obtain ⟨k0, k1, k2⟩ := PX.cells (BXu_11.ext hG)
   go_wp2
   exact hK.out _ _ ⟨rfl, hG, fun _ _ _ _ _ _ h => h⟩
  case o1 =>
   clear hD hI
   obtain ⟨-, k0, k1, k2, -⟩ := bx3 (hG.blk Au_11)
   go_wp2
   exact hK.out _ _ ⟨rfl, hG, fun _ _ _ _ _ _ h => h⟩
  case o2 =>
   have d1 : _ = _ := hD 1 rfl
   clear hD hI
   generalize xs 1 = y1 at *
   subst d1
   go_wp2_with fail
   refine (toPicture_any xu yu au nu cu zu _ (by omega) (slu.ext (E_11.trans hG))).mono ?_
   rintro e wz ⟨az, cz, rfl, ownz, ez⟩
   go_wp2
   exact hK.out _ _ ⟨⟨az, cz, rfl, owns_mono ownz hG.size⟩, hG.trans ez, fun i _ _ _ own ys h => Hext.out i own ys _ _ ez h⟩
  case o3 =>
   have d0 : _ = _ := hD 0 rfl
   have d2 : ∃ (a2 : Option Addr) (c2 : Nat), (xs 2) = .agg #[.int .i64 xu, .int .i64 yu, .slice a2 nu c2] ∧ wx.ownsRow v11.heap.size 3 1 (.slice a2 nu c2) nu (zu.map (Value.int .i64)) := hD 2 rfl
   clear hD hI
   generalize xs 0 = y0 at *
   generalize xs 2 = y2 at *
   subst d0
   obtain ⟨a2, c2, rfl, o2⟩ := d2
   go_wp2_with fail
   refine (eqPicture_same xu yu aXu a2 cXu c2 nu zu _ (by omega) ((Sl.of_owns OXu_11).ext hG) (Sl.of_owns o2)).mono ?_
   rintro e wz ⟨rfl, ez⟩
   go_wp2
   exact hK.out _ _ ⟨rfl, hG.trans ez, fun i _ _ _ own ys h => Hext.out i own ys _ _ ez h⟩
  case o4 =>
   have d3 : _ = _ := hD 3 rfl
   clear hD hI
   generalize xs 3 = y3 at *
   subst d3
   go_wp2
   exact hK.out _ _ ⟨rfl, hG, fun _ _ _ _ _ _ h => h⟩
 clear Hext
 intro xs wx hV hG
 have d4 : _ = _ := hV 4 (by decide)
 clear hV
 simp only [patchS, Nat.reduceAdd, Nat.reduceEqDiff, ↓reduceIte]
 generalize xs 0 = y0 at *
 generalize xs 1 = y1 at *
 generalize xs 2 = y2 at *
 generalize xs 3 = y3 at *
 generalize xs 4 = y4 at *
 replace hG : Ext v11 wx := hG
 subst d4
 generalize wx = v12 at *
 have hsg := hG.size
 clear hsg
 have Au_12 : v12.heap[B]? = some (.cells #[.int .i64 xu, .int .i64 yu, .slice au nu cu] 43 (0, 0)) := hG.blk Au_11
 have Ar_12 : v12.heap[B + 1]? = some (.cells #[.int .i64 xr, .int .i64 yr, .slice ar nr cr] 43 (0, 0)) := hG.blk Ar_11
 have Ap_12 : v12.heap[B + 1 + 1]? = some (.cells #[.int .i64 xp, .int .i64 yp, .slice ap np cp] 43 (0, 0)) := hG.blk Ap_11
 have E_12 : Ext w v12 := E_11.trans hG
 have BW_12 : IB v12 bW 32 R.zs := BW_11.ext hG
 have OXu_12 : v12.ownsRow h1 3 1 (.slice aXu nu cXu) nu (zu.map (Value.int .i64)) := owns_ext OXu_11 hG
 have BXu_12 : PX v12 bXu xu yu aXu nu cXu := BXu_11.ext hG
 have OXr_12 : v12.ownsRow h2 3 1 (.slice aXr nr cXr) nr (zr.map (Value.int .i64)) := owns_ext OXr_11 hG
 have BXr_12 : PX v12 bXr xr yr aXr nr cXr := BXr_11.ext hG
 have OXp_12 : v12.ownsRow h3 3 1 (.slice aXp np cXp) np (zp.map (Value.int .i64)) := owns_ext OXp_11 hG
 have BXp_12 : PX v12 bXp xp yp aXp np cXp := BXp_11.ext hG
 have BG_12 : IB v12 bG 32 R.zs := BG_11.ext hG
 clear Au_11 Ar_11 Ap_11 E_11 BW_11 OXu_11 BXu_11 OXr_11 BXr_11 OXp_11 BXp_11 BG_11 hG
 go_upto_region 20 with fail
 have hext : ∀ (i : Nat) (own : Value) (ys : Nat → Value) (wa wb : World), Ext wa wb → (match i with | 0 => own = .agg #[.int .i64 xr, .int .i64 yr, .slice aXr nr cXr] | 1 => own = .agg #[.int .i64 xr, .int .i64 yr, .slice ar nr cr] | 2 => ∃ (a2 : Option Addr) (c2 : Nat), own = .agg #[.int .i64 xr, .int .i64 yr, .slice a2 nr c2] ∧ wa.ownsRow v12.heap.size 3 1 (.slice a2 nr c2) nr (zr.map (Value.int .i64)) | 3 => own = .bool true | 4 => own = .bool false | _ => True) → (match i with | 0 => own = .agg #[.int .i64 xr, .int .i64 yr, .slice aXr nr cXr] | 1 => own = .agg #[.int .i64 xr, .int .i64 yr, .slice ar nr cr] | 2 => ∃ (a2 : Option Addr) (c2 : Nat), own = .agg #[.int .i64 xr, .int .i64 yr, .slice a2 nr c2] ∧ wb.ownsRow v12.heap.size 3 1 (.slice a2 nr c2) nr (zr.map (Value.int .i64)) | 3 => own = .bool true | 4 => own = .bool false | _ => True) := by
  intro i own ys wa wb e h
  match i, h with
  | 0, h | 1, h | 3, h | 4, h => exact h
  | 2, h => obtain ⟨a2, c2, h1, h2⟩ := h; exact ⟨a2, c2, h1, owns_ext h2 e⟩
  | _ + 5, _ => trivial
 have Hext := Lib.hid hext
 clear hext
 refine wp_region_inv2 (by kernel_rfl) [(70, 0), (71, 1), (72, 2), (73, 3), (74, 4)] [[], [], [1], [0, 1, 2], [0, 1, 2, 3]] (fun i own ys wx => match i with | 0 => own = .agg #[.int .i64 xr, .int .i64 yr, .slice aXr nr cXr] | 1 => own = .agg #[.int .i64 xr, .int .i64 yr, .slice ar nr cr] | 2 => ∃ (a2 : Option Addr) (c2 : Nat), own = .agg #[.int .i64 xr, .int .i64 yr, .slice a2 nr c2] ∧ wx.ownsRow v12.heap.size 3 1 (.slice a2 nr c2) nr (zr.map (Value.int .i64)) | 3 => own = .bool true | 4 => own = .bool false | _ => True) (fun kx wx => Ext v12 wx) (by kernel_rfl) (by kernel_rfl) (by kernel_rfl) ?g0_r3 ?gop_r3 ?gend_r3
 case g0_r3 => exact Ext.drewN _ 1
 case gop_r3 =>
  refine ⟨?o0, ?o1, ?o2, ?o3, ?o4, trivial⟩ <;> (intro kx xs wx hk hG hD hI Qo Kx hK hQo; simp only [patchS, Nat.reduceAdd, Nat.reduceEqDiff, ↓reduceIte] at hQo ⊢)
  case o0 =>
   clear hD hI
   obtain ⟨k0, k1, k2⟩ := PX.cells (BXr_12.ext hG)
   go_wp2
   exact hK.out _ _ ⟨rfl, hG, fun _ _ _ _ _ _ h => h⟩
  case o1 =>
   clear hD hI
   obtain ⟨-, k0, k1, k2, -⟩ := bx3 (hG.blk Ar_12)
   go_wp2
   exact hK.out _ _ ⟨rfl, hG, fun _ _ _ _ _ _ h => h⟩
  case o2 =>
   have d1 : _ = _ := hD 1 rfl
   clear hD hI
   generalize xs 1 = y1 at *
   subst d1
   go_wp2_with fail
   refine (toPicture_any xr yr ar nr cr zr _ (by omega) (slr.ext (E_12.trans hG))).mono ?_
   rintro e wz ⟨az, cz, rfl, ownz, ez⟩
   go_wp2
   exact hK.out _ _ ⟨⟨az, cz, rfl, owns_mono ownz hG.size⟩, hG.trans ez, fun i _ _ _ own ys h => Hext.out i own ys _ _ ez h⟩
  case o3 =>
   have d0 : _ = _ := hD 0 rfl
   have d2 : ∃ (a2 : Option Addr) (c2 : Nat), (xs 2) = .agg #[.int .i64 xr, .int .i64 yr, .slice a2 nr c2] ∧ wx.ownsRow v12.heap.size 3 1 (.slice a2 nr c2) nr (zr.map (Value.int .i64)) := hD 2 rfl
   clear hD hI
   generalize xs 0 = y0 at *
   generalize xs 2 = y2 at *
   subst d0
   obtain ⟨a2, c2, rfl, o2⟩ := d2
   go_wp2_with fail
   refine (eqPicture_same xr yr aXr a2 cXr c2 nr zr _ (by omega) ((Sl.of_owns OXr_12).ext hG) (Sl.of_owns o2)).mono ?_
   rintro e wz ⟨rfl, ez⟩
   go_wp2
   exact hK.out _ _ ⟨rfl, hG.trans ez, fun i _ _ _ own ys h => Hext.out i own ys _ _ ez h⟩
  case o4 =>
   have d3 : _ = _ := hD 3 rfl
   clear hD hI
   generalize xs 3 = y3 at *
   subst d3
   go_wp2
   exact hK.out _ _ ⟨rfl, hG, fun _ _ _ _ _ _ h => h⟩
 clear Hext
 intro xs wx hV hG
 have d4 : _ = _ := hV 4 (by decide)
 clear hV
 simp only [patchS, Nat.reduceAdd, Nat.reduceEqDiff, ↓reduceIte]
 generalize xs 0 = y0 at *
 generalize xs 1 = y1 at *
 generalize xs 2 = y2 at *
 generalize xs 3 = y3 at *
 generalize xs 4 = y4 at *
 replace hG : Ext v12 wx := hG
 subst d4
 generalize wx = v13 at *
 have hsg := hG.size
 clear hsg
 have Au_13 : v13.heap[B]? = some (.cells #[.int .i64 xu, .int .i64 yu, .slice au nu cu] 43 (0, 0)) := hG.blk Au_12
 have Ar_13 : v13.heap[B + 1]? = some (.cells #[.int .i64 xr, .int .i64 yr, .slice ar nr cr] 43 (0, 0)) := hG.blk Ar_12
 have Ap_13 : v13.heap[B + 1 + 1]? = some (.cells #[.int .i64 xp, .int .i64 yp, .slice ap np cp] 43 (0, 0)) := hG.blk Ap_12
 have E_13 : Ext w v13 := E_12.trans hG
 have BW_13 : IB v13 bW 32 R.zs := BW_12.ext hG
 have OXu_13 : v13.ownsRow h1 3 1 (.slice aXu nu cXu) nu (zu.map (Value.int .i64)) := owns_ext OXu_12 hG
 have BXu_13 : PX v13 bXu xu yu aXu nu cXu := BXu_12.ext hG
 have OXr_13 : v13.ownsRow h2 3 1 (.slice aXr nr cXr) nr (zr.map (Value.int .i64)) := owns_ext OXr_12 hG
 have BXr_13 : PX v13 bXr xr yr aXr nr cXr := BXr_12.ext hG
 have OXp_13 : v13.ownsRow h3 3 1 (.slice aXp np cXp) np (zp.map (Value.int .i64)) := owns_ext OXp_12 hG
 have BXp_13 : PX v13 bXp xp yp aXp np cXp := BXp_12.ext hG
 have BG_13 : IB v13 bG 32 R.zs := BG_12.ext hG
 clear Au_12 Ar_12 Ap_12 E_12 BW_12 OXu_12 BXu_12 OXr_12 BXr_12 OXp_12 BXp_12 BG_12 hG
 go_upto_region 22 with fail
 have hext : ∀ (i : Nat) (own : Value) (ys : Nat → Value) (wa wb : World), Ext wa wb → (match i with | 0 => own = .agg #[.int .i64 xp, .int .i64 yp, .slice aXp np cXp] | 1 => own = .agg #[.int .i64 xp, .int .i64 yp, .slice ap np cp] | 2 => ∃ (a2 : Option Addr) (c2 : Nat), own = .agg #[.int .i64 xp, .int .i64 yp, .slice a2 np c2] ∧ wa.ownsRow v13.heap.size 3 1 (.slice a2 np c2) np (zp.map (Value.int .i64)) | 3 => own = .bool true | 4 => own = .bool false | _ => True) → (match i with | 0 => own = .agg #[.int .i64 xp, .int .i64 yp, .slice aXp np cXp] | 1 => own = .agg #[.int .i64 xp, .int .i64 yp, .slice ap np cp] | 2 => ∃ (a2 : Option Addr) (c2 : Nat), own = .agg #[.int .i64 xp, .int .i64 yp, .slice a2 np c2] ∧ wb.ownsRow v13.heap.size 3 1 (.slice a2 np c2) np (zp.map (Value.int .i64)) | 3 => own = .bool true | 4 => own = .bool false | _ => True) := by
  intro i own ys wa wb e h
  match i, h with
  | 0, h | 1, h | 3, h | 4, h => exact h
  | 2, h => obtain ⟨a2, c2, h1, h2⟩ := h; exact ⟨a2, c2, h1, owns_ext h2 e⟩
  | _ + 5, _ => trivial
 have Hext := Lib.hid hext
 clear hext
 refine wp_region_inv2 (by kernel_rfl) [(75, 0), (76, 1), (77, 2), (78, 3), (79, 4)] [[], [], [1], [0, 1, 2], [0, 1, 2, 3]] (fun i own ys wx => match i with | 0 => own = .agg #[.int .i64 xp, .int .i64 yp, .slice aXp np cXp] | 1 => own = .agg #[.int .i64 xp, .int .i64 yp, .slice ap np cp] | 2 => ∃ (a2 : Option Addr) (c2 : Nat), own = .agg #[.int .i64 xp, .int .i64 yp, .slice a2 np c2] ∧ wx.ownsRow v13.heap.size 3 1 (.slice a2 np c2) np (zp.map (Value.int .i64)) | 3 => own = .bool true | 4 => own = .bool false | _ => True) (fun kx wx => Ext v13 wx) (by kernel_rfl) (by kernel_rfl) (by kernel_rfl) ?g0_r4 ?gop_r4 ?gend_r4
 case g0_r4 => exact Ext.drewN _ 1
 case gop_r4 =>
  refine ⟨?o0, ?o1, ?o2, ?o3, ?o4, trivial⟩ <;> (intro kx xs wx hk hG hD hI Qo Kx hK hQo; simp only [patchS, Nat.reduceAdd, Nat.reduceEqDiff, ↓reduceIte] at hQo ⊢)
  case o0 =>
   clear hD hI
   obtain ⟨k0, k1, k2⟩ := PX.cells (BXp_13.ext hG)
   go_wp2
   exact hK.out _ _ ⟨rfl, hG, fun _ _ _ _ _ _ h => h⟩
  case o1 =>
   clear hD hI
   obtain ⟨-, k0, k1, k2, -⟩ := bx3 (hG.blk Ap_13)
   go_wp2
   exact hK.out _ _ ⟨rfl, hG, fun _ _ _ _ _ _ h => h⟩
  case o2 =>
   have d1 : _ = _ := hD 1 rfl
   clear hD hI
   generalize xs 1 = y1 at *
   subst d1
   go_wp2_with fail
   refine (toPicture_any xp yp ap np cp zp _ (by omega) (slp.ext (E_13.trans hG))).mono ?_
   rintro e wz ⟨az, cz, rfl, ownz, ez⟩
   go_wp2
   exact hK.out _ _ ⟨⟨az, cz, rfl, owns_mono ownz hG.size⟩, hG.trans ez, fun i _ _ _ own ys h => Hext.out i own ys _ _ ez h⟩
  case o3 =>
   have d0 : _ = _ := hD 0 rfl
   have d2 : ∃ (a2 : Option Addr) (c2 : Nat), (xs 2) = .agg #[.int .i64 xp, .int .i64 yp, .slice a2 np c2] ∧ wx.ownsRow v13.heap.size 3 1 (.slice a2 np c2) np (zp.map (Value.int .i64)) := hD 2 rfl
   clear hD hI
   generalize xs 0 = y0 at *
   generalize xs 2 = y2 at *
   subst d0
   obtain ⟨a2, c2, rfl, o2⟩ := d2
   go_wp2_with fail
   refine (eqPicture_same xp yp aXp a2 cXp c2 np zp _ (by omega) ((Sl.of_owns OXp_13).ext hG) (Sl.of_owns o2)).mono ?_
   rintro e wz ⟨rfl, ez⟩
   go_wp2
   exact hK.out _ _ ⟨rfl, hG.trans ez, fun i _ _ _ own ys h => Hext.out i own ys _ _ ez h⟩
  case o4 =>
   have d3 : _ = _ := hD 3 rfl
   clear hD hI
   generalize xs 3 = y3 at *
   subst d3
   go_wp2
   exact hK.out _ _ ⟨rfl, hG, fun _ _ _ _ _ _ h => h⟩
 clear Hext
 intro xs wx hV hG
 have d4 : _ = _ := hV 4 (by decide)
 clear hV
 simp only [patchS, Nat.reduceAdd, Nat.reduceEqDiff, ↓reduceIte]
 generalize xs 0 = y0 at *
 generalize xs 1 = y1 at *
 generalize xs 2 = y2 at *
 generalize xs 3 = y3 at *
 generalize xs 4 = y4 at *
 replace hG : Ext v13 wx := hG
 subst d4
 generalize wx = v14 at *
 have hsg := hG.size
 clear hsg
 have Au_14 : v14.heap[B]? = some (.cells #[.int .i64 xu, .int .i64 yu, .slice au nu cu] 43 (0, 0)) := hG.blk Au_13
 have Ar_14 : v14.heap[B + 1]? = some (.cells #[.int .i64 xr, .int .i64 yr, .slice ar nr cr] 43 (0, 0)) := hG.blk Ar_13
 have Ap_14 : v14.heap[B + 1 + 1]? = some (.cells #[.int .i64 xp, .int .i64 yp, .slice ap np cp] 43 (0, 0)) := hG.blk Ap_13
 have E_14 : Ext w v14 := E_13.trans hG
 have BW_14 : IB v14 bW 32 R.zs := BW_13.ext hG
 have OXu_14 : v14.ownsRow h1 3 1 (.slice aXu nu cXu) nu (zu.map (Value.int .i64)) := owns_ext OXu_13 hG
 have BXu_14 : PX v14 bXu xu yu aXu nu cXu := BXu_13.ext hG
 have OXr_14 : v14.ownsRow h2 3 1 (.slice aXr nr cXr) nr (zr.map (Value.int .i64)) := owns_ext OXr_13 hG
 have BXr_14 : PX v14 bXr xr yr aXr nr cXr := BXr_13.ext hG
 have OXp_14 : v14.ownsRow h3 3 1 (.slice aXp np cXp) np (zp.map (Value.int .i64)) := owns_ext OXp_13 hG
 have BXp_14 : PX v14 bXp xp yp aXp np cXp := BXp_13.ext hG
 have BG_14 : IB v14 bG 32 R.zs := BG_13.ext hG
 clear Au_13 Ar_13 Ap_13 E_13 BW_13 OXu_13 BXu_13 OXr_13 BXr_13 OXp_13 BXp_13 BG_13 hG
 go_wp2
 go_ret
 exact ⟨rfl, E_14⟩
end Go.Proofs.YtbnhaegidfbgbaaGreatDoor
namespace Go.Proofs.YtbnhaegidfbgbaaGreatDoor
open Go.RowKit Go.ChangeShapes Go.WideShapes
section
variable {H : Type} {enc : TypeId × Value → H} {P : Program} {w : World}
/-- The cells cs read as a value of type t. -/
def Cells (enc : TypeId × Value → H) (P : Program) (w : World) (t : TypeId) (cs : List Value) : Prop :=
 ∃ fuel x, DataW.trod enc P w 0 (fun _ => true) true fuel t cs = some x
theorem Cells.of_trod {t : TypeId} {v : Value} {d : DataW H} {ps : List MemPlace} (h : DataW.Trod enc P w 0 (fun _ => true) true t v d ps) : Cells enc P w t v.cells.toList := by
 obtain ⟨fuel, hf⟩ := h
 exact ⟨fuel, _, hf⟩
theorem Cells.int {t : TypeId} {k : IntKind} {cs : List Value} (h : Cells enc P w t cs) (ht : P.underlying t = some (.int k)) : ∃ n, cs = [.int k n] ∧ (Lit.int k n).wf = true := by
 obtain ⟨fuel, x, hf⟩ := h
 obtain ⟨n, h1, -, h2⟩ := DataW.trod_int ht hf
 exact ⟨n, h1, h2⟩
theorem Cells.bool {t : TypeId} {cs : List Value} (h : Cells enc P w t cs) (ht : P.underlying t = some .bool) : ∃ b, cs = [.bool b] := by
 obtain ⟨fuel, x, hf⟩ := h
 obtain ⟨n, h1, -⟩ := DataW.trod_bool ht hf
 exact ⟨n, h1⟩
theorem add_add (a : Addr) (i j : Nat) : a.add (i + j) = (a.add i).add j := by
 unfold Addr.add
 by_cases h1 : i = 0
 ·subst h1; simp
 ·by_cases h2 : j = 0
  ·subst h2; simp
  ·simp [h1, h2, Nat.add_assoc]
/-- A slice whose elements have c cells each: cell j of element i. -/
theorem Cells.slice {t e : TypeId} {c : Nat} {cs : List Value} (h : Cells enc P w t cs) (ht : P.underlying t = some (.slice e)) (hc : P.cellsOf e = c) :
 ∃ a n cap, cs = [.slice a n cap] ∧ (n ≤ cap ∧ cap ≤ maxLen) ∧ ∀ i, i < n → ∃ x es, a = some x ∧ es.length = c ∧ (∀ j, j < c → w.cell? (x.add (i * c + j)) = es[j]?) ∧ Cells enc P w e es := by
 subst hc
 obtain ⟨fuel, x, hf⟩ := h
 rcases Deep.open_slice ht hf with ⟨rfl, -⟩ | ⟨a, len, cap, m, n, D, Pl, rfl, -, hl, hm, hmm, -, hx⟩
 ·exact ⟨none, 0, 0, rfl, ⟨by omega, by simp⟩, fun i hi => by omega⟩
 ·refine ⟨some a, len, cap, rfl, ⟨hl, hm⟩, fun i hi => ?_⟩
  obtain ⟨cs', h1, h2⟩ := hx i (by simp at hmm; omega)
  obtain ⟨-, hlen, hcell⟩ := World.cells?_some h1
  refine ⟨a, cs', rfl, hlen, fun j hj => ?_, ⟨n, _, h2⟩⟩
  have := hcell j hj
  rw [← this, add_add]
theorem Cells.struct {t : TypeId} {fs : Array Field} {cs : List Value} (h : Cells enc P w t cs) (ht : P.underlying t = some (.struct fs)) :
 cs.length = P.cellsOf t ∧ ∀ (i : Nat) (f : Field), fs[i]? = some f → Cells enc P w f.type ((cs.drop f.offset).take (P.cellsOf f.type)) := by
 obtain ⟨fuel, x, hf⟩ := h
 obtain ⟨xs, n, -, -, h1, h2, h3⟩ := DataW.trod_struct ht hf
 refine ⟨h1, fun i f hi => ?_⟩
 have h4 := h3 i f hi
 have hl : i < xs.length := by
  rw [h2]
  exact (Array.getElem?_eq_some_iff.1 hi).1
 exact ⟨n, xs[i], by rw [h4]; simp [hl]⟩
theorem Cells.array {t e : TypeId} {n : Nat} {cs : List Value} (h : Cells enc P w t cs) (ht : P.underlying t = some (.array n e)) :
 cs.length = P.cellsOf t ∧ ∀ i, i < n → Cells enc P w e ((cs.drop (i * P.cellsOf e)).take (P.cellsOf e)) := by
 obtain ⟨fuel, x, hf⟩ := h
 cases fuel with
 | zero => simp [DataW.trod] at hf
 | succ m =>
  unfold DataW.trod at hf
  rw [ht] at hf
  split at hf <;> simp_all
  obtain ⟨hl, xs, hp, hd⟩ := hf
  intro i hi
  have h4 := mapM_some_get hp i i (by simp [hi])
  have hl : i < xs.length := by rw [mapM_some_length hp]; simpa using hi
  exact ⟨m, xs[i], by rw [h4]; simp [hl]⟩
theorem Sl.of_add {a : Addr} {n : Nat} {xs : List Value} (hl : xs.length = n) (h : ∀ i, i < n → w.cell? (a.add i) = some (xs.getD i undef)) : Sl w (some a) n xs := by
 refine ⟨hl, fun i hi => ?_⟩
 obtain ⟨b, off, spot⟩ := a
 have hc := h 0 (by omega)
 have hs : spot = none := by simpa [Addr.add] using World.cell?_spot hc
 subst hs
 exact ⟨b, off, rfl, by rw [← h i hi, Addr.add_lit]⟩
/-- A list out of a choice for each index. -/
theorem list_of {α : Type} (n : Nat) (p : Nat → α → Prop) (h : ∀ i, i < n → ∃ y, p i y) : ∃ ys : List α, ys.length = n ∧ ∀ i (hi : i < ys.length), p i ys[i] := by
 induction n with
 | zero => exact ⟨[], rfl, fun i hi => by simp at hi⟩
 | succ n ih =>
  obtain ⟨ys, hl, hy⟩ := ih (fun i hi => h i (by omega))
  obtain ⟨y, hp⟩ := h n (by omega)
  refine ⟨ys ++ [y], by simp [hl], fun i hi => ?_⟩
  by_cases h1 : i < ys.length
  ·rw [List.getElem_append_left h1]; exact hy i h1
  ·have : i = n := by simp at hi; omega
   subst this
   rw [List.getElem_append_right (by omega)]
   simpa [hl] using hp
/-- A slice of one-cell elements. -/
theorem Cells.slice1 {t e : TypeId} {cs : List Value} (h : Cells enc P w t cs) (ht : P.underlying t = some (.slice e)) (hc : P.cellsOf e = 1) :
 ∃ a n cap xs, cs = [.slice a n cap] ∧ (n ≤ cap ∧ cap ≤ maxLen) ∧ Sl w a n xs ∧ ∀ x ∈ xs, Cells enc P w e [x] := by
 obtain ⟨a, n, cap, rfl, hn, hx⟩ := h.slice ht hc
 obtain ⟨ys, hl, hy⟩ := list_of (α := Value) n (fun i y => (∃ x, a = some x ∧ w.cell? (x.add i) = some y) ∧ Cells enc P w e [y]) (fun i hi => by
  obtain ⟨x, es, ha, h1, h2, h3⟩ := hx i hi
  match es, h1 with
  | [y], _ => exact ⟨y, ⟨x, ha, by simpa using h2 0 (by omega)⟩, h3⟩)
 refine ⟨a, n, cap, ys, rfl, hn, ?_, ?_⟩
 ·cases a with
  | none =>
   refine ⟨hl, fun i hi => ?_⟩
   obtain ⟨⟨x, hx, -⟩, -⟩ := hy i (by omega)
   simp at hx
  | some a =>
   refine Sl.of_add hl fun i hi => ?_
   obtain ⟨⟨x, hx, hc⟩, -⟩ := hy i (by omega)
   simp only [Option.some.injEq] at hx
   subst hx
   rw [hc]
   simp [show i < ys.length by omega]
 ·intro x hx
  obtain ⟨i, hi, rfl⟩ := List.getElem_of_mem hx
  exact (hy i hi).2
theorem map_of {α : Type} (C : α → Value) (p : α → Prop) (xs : List Value) (h : ∀ x ∈ xs, ∃ z, x = C z ∧ p z) : ∃ zs : List α, xs = zs.map C ∧ ∀ z ∈ zs, p z := by
 induction xs with
 | nil => exact ⟨[], rfl, fun z hz => by simp at hz⟩
 | cons x xs ih =>
  obtain ⟨zs, rfl, hz⟩ := ih (fun y hy => h y (by simp [hy]))
  obtain ⟨z, rfl, hp⟩ := h x (by simp)
  refine ⟨z :: zs, rfl, fun y hy => ?_⟩
  rcases List.mem_cons.1 hy with rfl | hy
  ·exact hp
  ·exact hz y hy
theorem Cells.slice_int {t e : TypeId} {k : IntKind} {cs : List Value} (h : Cells enc P w t cs) (ht : P.underlying t = some (.slice e)) (he : P.underlying e = some (.int k)) (hc : P.cellsOf e = 1) :
 ∃ (a : Option Addr) (n cap : Nat) (zs : List Int), cs = [.slice a n cap] ∧ (n ≤ cap ∧ cap ≤ maxLen) ∧ Sl w a n (zs.map (Value.int k)) ∧ ∀ z ∈ zs, (Lit.int k z).wf = true := by
 obtain ⟨a, n, cap, xs, rfl, hn, s, hx⟩ := h.slice1 ht hc
 obtain ⟨zs, rfl, hz⟩ := map_of (Value.int k) (fun z => (Lit.int k z).wf = true) xs (fun x hx' => by
  obtain ⟨z, h1, h2⟩ := (hx x hx').int he
  exact ⟨z, by simpa using h1, h2⟩)
 exact ⟨a, n, cap, zs, rfl, hn, s, hz⟩
end
end Go.Proofs.YtbnhaegidfbgbaaGreatDoor
namespace Go.Proofs.YtbnhaegidfbgbaaGreatDoor
open Go.RowKit Go.ChangeShapes Go.WideShapes
section
variable {H : Type} {enc : TypeId × Value → H} {w : World}
set_option maxRecDepth 100000 in
theorem open_PictureC {es : List Value} (hl : es.length = 3) (h6 : Cells enc Tryz.prog w 43 es) :
 ∃ (p : Pic) (a : Option Addr) (c : Nat), es = [.int .i64 p.w, .int .i64 p.h, .slice a p.px.length c] ∧ Sl w a p.px.length (p.px.map (Value.int .i64)) ∧ (p.px.length ≤ c ∧ c ≤ maxLen) := by
 obtain ⟨-, h8⟩ := h6.struct Tryz.underlying43
 match es, hl with
 | [e0, e1, e2], _ =>
  have f0 : Cells enc Tryz.prog w 3 [e0] := by
   have := h8 0 _ rfl
   rw [show Tryz.prog.cellsOf _ = 1 from by kernel_rfl] at this
   exact this
  have f1 : Cells enc Tryz.prog w 3 [e1] := by
   have := h8 1 _ rfl
   rw [show Tryz.prog.cellsOf _ = 1 from by kernel_rfl] at this
   exact this
  have f2 : Cells enc Tryz.prog w 23 [e2] := by
   have := h8 2 _ rfl
   rw [show Tryz.prog.cellsOf _ = 1 from by kernel_rfl] at this
   exact this
  obtain ⟨t0, ht0, -⟩ := f0.int Tryz.underlying3
  obtain ⟨t1, ht1, -⟩ := f1.int Tryz.underlying3
  obtain ⟨a2, n2, c2, zs, hz, hn2, s2, -⟩ := f2.slice_int Tryz.underlying23 Tryz.underlying3 (by kernel_rfl)
  simp only [List.cons.injEq, and_true] at ht0 ht1 hz
  obtain rfl : n2 = zs.length := s2.int_len.symm
  subst ht0 ht1 hz
  exact ⟨⟨t0, t1, zs⟩, a2, c2, rfl, s2, hn2⟩
set_option maxRecDepth 100000 in
theorem open_Picture {r : Reach} {b0 : Nat} {v : Value} {d : DataW H} {ps : List MemPlace}
 (hv : Value.okWide Tryz.prog w r b0 43 v) (h : DataW.Trod enc Tryz.prog w 0 (fun _ => true) true 43 v d ps) :
 ∃ (a : Option Addr) (c : Nat) (p : Pic), v = .agg #[.int .i64 p.w, .int .i64 p.h, .slice a p.px.length c] ∧ Sl w a p.px.length (p.px.map (Value.int .i64)) ∧ (p.px.length ≤ c ∧ c ≤ maxLen) := by
 obtain ⟨cs, rfl, hsz⟩ := okWide_struct Tryz.underlying43 hv
 have hsz6 : cs.toList.length = 3 := by rw [Array.length_toList, hsz]; kernel_rfl
 obtain ⟨p, a, c, h1, h2, h3⟩ := open_PictureC hsz6 (Cells.of_trod h)
 refine ⟨a, c, p, ?_, h2, h3⟩
 have : cs = cs.toList.toArray := by simp
 rw [this, h1]
end
end Go.Proofs.YtbnhaegidfbgbaaGreatDoor
