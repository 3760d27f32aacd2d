/- FnExactDropLayers: the walk of the law. -/
import Derived.Test.YtmokncpppmchfaaDoorJ4
import Derived.Test.YtmokncpppmchfaaDoorJ7
import Derived.Test.YtmokncpppmchfaaDoorLa
namespace Go.Proofs.YtmokncpppmchfaaDoor
open Go.RowKit
set_option maxHeartbeats 1000000
theorem drop_any (r : Nat → Cd) (n : Nat) (x y : Int) (ok : okC r n) :
    ∃ (N : Nat) (z : Nat → Cd), okC z N ∧
      (∀ (a : Option Addr) (c : Nat) (w : World), CP w a n r → Calls Tryd.prog 6 #[.slice a n c, .int .i64 x, .int .i64 y] w fun e w' => ∃ a' c', e = .returned (.slice a' N c') ∧ CP w' a' N z ∧ Ext w w') ∧
      (∀ (a : Option Addr) (c : Nat) (w : World), Tab w → CP w a n r → Calls Tryd.prog 8 #[.slice a n c, .int .i64 x, .int .i64 y] w fun e w' => ∃ a' c' cs, e = .returned (.slice a' N c') ∧ CE w' w.heap.size w'.heap.size (.slice a' N c') N N z cs ∧ Ext w w') := by
  have hn := ok.1
  by_cases h : n ≤ 8 ∧ 1 ≤ x ∧ x ≤ 4
  · obtain ⟨h1, h2, h3⟩ := h
    obtain ⟨l, rfl⟩ := Int.eq_ofNat_of_zero_le (show 0 ≤ x by omega)
    refine ⟨n, dropR r l y, ok.drop l y, fun a c w R => ?_, fun a c w hT R => impl_DropLayers_yes a n c l y r w hT ok R h1 (by omega) (by omega)⟩
    refine (spec_DropLayers_yes a n c l y r w ok R h1 (by omega) (by omega)).mono ?_
    rintro e w' ⟨a', c', cs, rfl, S, E⟩
    exact ⟨_, _, rfl, S.toCP, E⟩
  · refine ⟨0, r, ⟨by omega, by simp [smN, sumN]⟩, fun a c w R => ?_, fun a c w hT R => ?_⟩
    · refine (spec_DropLayers_no a n c x y w (by omega)).mono ?_
      rintro e w' ⟨rfl, E⟩
      exact ⟨_, _, rfl, fun i hi => by omega, E⟩
    · refine (impl_DropLayers_no a n c x y w (by omega)).mono ?_
      rintro e w' ⟨rfl, rfl⟩
      exact ⟨_, _, _, rfl, CE.none _ _ _ _ (Nat.le_refl _), Below.refl _ _⟩
set_option maxRecDepth 100000 in
set_option maxHeartbeats 8000000 in
theorem law_FnExactDropLayers (a : Option Addr) (c n : Nat) (r : Nat → Cd) (x : Int) (_wx0 : (Lit.int .i64 x).wf = true) (y : Int) (_wy0 : (Lit.int .i64 y).wf = true) (w : World) (hT : Tab w) (hn0 : n ≤ c ∧ c ≤ maxLen) (R : CP w a n r) :
    Calls Tryd.prog 3 #[.slice a n c, .int .i64 x, .int .i64 y] w fun e w' => e = .returned (.bool true) ∧ Ext w w' := by
  have hn : n ≤ 9223372036854775807 := Nat.le_trans hn0.1 hn0.2
  go_enter Tryd.func3, Tryd.ntmps3
  go_wp2_with fail
  refine (szCodedS_any a c n r 1048576 _ hn (by omega) (by omega) R).mono ?_
  rintro e w1 ⟨x1, rfl, hx1, hx, E1⟩
  by_cases hneg : x1 < 0
  · go_wp2
    go_ret
    exact ⟨rfl, E1⟩
  have hd : decide (x1 < 0) = false := by simpa using hneg
  obtain ⟨ok, hxe⟩ := hx (by omega)
  obtain ⟨N, z, okN, hS, hI⟩ := drop_any r n x y ok
  have hN : N ≤ 1048576 := okN.1
  have Hok := Lib.hid ok
  have HokN := Lib.hid okN
  have HS := Lib.hid hS
  have HI := Lib.hid hI
  have E0 := E1
  have hn20 : n ≤ 1048576 := ok.1
  clear ok okN hS hI hx hxe E1 
  have hwt : smN wtC z N ≤ 8388608 := by
    have h1 := smN_wt z N
    have h2 := HokN.out.2
    omega
  go_wp2_with fail
  refine (toCodedS_own a c n r _ Hok.out (R.ext E0)).mono ?_
  rintro e w11 ⟨cs11, rfl, C11, e11⟩
  have E11 := E0.trans e11
  have q11 := C11.toCP
  clear C11 e11
  go_wp2_with fail
  refine (HS.out _ _ _ q11).mono ?_
  rintro e w12 ⟨aS, cS, rfl, PS, e12⟩
  have E12 := E11.trans e12
  clear e12 q11  E11 E0
  go_wp2_with fail
  refine (toCodedS_own a c n r _ Hok.out (R.ext E12)).mono ?_
  rintro e w13 ⟨cs13, rfl, C13, e13⟩
  have E13 := E12.trans e13
  have D13 := C13
  go_wp2_with fail
  refine (HI.out _ n _ (hT.ext E13) D13.toCP).mono ?_
  rintro e w14 ⟨aI, cI, csI, rfl, G14, e14⟩
  have E14 := E13.trans e14
  have P14 : Ext w12 w14 := e13.trans e14
  have X14 := D13.ext e14
  have hB1 : w12.heap.size < w13.heap.size := (C13.own.lt _ rfl).2
  have s1 := e13.size
  have s3 := e14.size
  have s0 := E12.size
  clear C13 D13 e13  E13 e14 E12
  go_wp2_with fail
  refine (eqCodedS_same aI aS cI cS N z _ HokN.out G14.toCP (PS.ext P14)).mono ?_
  rintro e w15 ⟨rfl, e15⟩
  have E15 := E14.trans e15
  have P15 := P14.trans e15
  have G15 := G14.ext e15
  have X15 := X14.ext e15
  have t15 := e15.size
  clear E14 P14 G14 X14 e15 
  go_wp2_with fail
  refine (toCodedS_own a c n r _ Hok.out (R.ext E15)).mono ?_
  rintro e w16 ⟨cs16, rfl, C16, e16⟩
  have E16 := E15.trans e16
  go_wp2_with fail
  refine (eqCodedS_same _ _ _ _ n r _ Hok.out (X15.ext e16).toCP C16.toCP).mono ?_
  rintro e w17 ⟨rfl, e17⟩
  have f17 := e16.trans e17
  have E17 := E15.trans f17
  have P17 := P15.trans f17
  have G17 := G15.ext f17
  have X17 := X15.ext f17
  have t17 := f17.size
  clear C16 e16 e17 f17 E16 E15 P15 G15 X15 
  have hwa : smN wtC r n ≤ 8388608 := by
    have h1 := smN_wt r n
    have h2 := Hok.out.2
    omega
  go_wp2_with fail
  refine (markCodedS_f _ _ n w12.heap.size w13.heap.size r _ 1 _ Hok.out (by omega) (by omega) X17 (fun q hq => by simp [Value.ownBlock] at hq; subst hq; exact ⟨Nat.le_refl _, hB1⟩)).mono ?_
  rintro e w18 ⟨rfl, -, T18⟩
  have E18 := E17.tch T18 (by omega)
  have P18 := P17.tch T18 (by omega)
  have G18 := G17.tch T18 (by omega)
  have t18 := T18.size
  clear T18 E17 P17 G17 X17 
  have hdk : decide ((1 : Int) + (smN wtC r n : Nat) < 0) = false := by simp; omega
  go_wp2_with fail
  refine (eqCodedS_same aI aS cI cS N z _ HokN.out G18.toCP (PS.ext P18)).mono ?_
  rintro e w19 ⟨rfl, e19⟩
  have E19 := E18.trans e19
  have P19 := P18.trans e19
  have G19 := (G18.ext e19).up (hi' := w19.heap.size) (by have := e19.size; omega)
  have t19 := e19.size
  clear E18 P18 G18 e19
  go_wp2_with fail
  have hlt19 := G19.own.lt
  refine (markCodedS_f aI cI N w13.heap.size w19.heap.size z _ 1 _ HokN.out (by omega) (by omega) G19 (fun q hq => hlt19 q hq)).mono ?_
  rintro e w20 ⟨rfl, ⟨csM, G20⟩, T20⟩
  have E20 := E19.tch T20 (by omega)
  have P20 := P19.tch T20 (by omega)
  have t20 := T20.size
  have hdm : decide ((1 : Int) + (smN wtC z N : Nat) < 0) = false := by simp; omega
  have M20 := G20.toCP
  clear T20 E19 P19 G19 G20 hlt19
  go_wp2_with fail
  refine (heldCodedS_f aI cI N z 1 _ HokN.out (by omega) (by omega) M20).mono ?_
  rintro e w21 ⟨rfl, e21⟩
  have E21 := E20.trans e21
  have P21 := P20.trans e21
  have M21 := M20.ext e21
  clear E20 P20 M20 e21
  go_wp2_with fail
  refine (toCodedS_own a c n r _ Hok.out (R.ext E21)).mono ?_
  rintro e w22 ⟨cs22, rfl, C22, e22⟩
  have E22 := E21.trans e22
  go_wp2_with fail
  refine (HI.out _ n _ (hT.ext E22) C22.toCP).mono ?_
  rintro e w23 ⟨aH, cH, csH, rfl, G23, e23⟩
  have f23 := e22.trans e23
  have E23 := E21.trans f23
  have P23 := P21.trans f23
  have M23 := M21.ext f23
  clear C22 e22 E22  e23 f23 E21 P21 M21
  go_wp2_with fail
  refine (eqCodedS_same aH aS cH cS N z _ HokN.out G23.toCP (PS.ext P23)).mono ?_
  rintro e w24 ⟨rfl, e24⟩
  have E24 := E23.trans e24
  have M24 := M23.ext e24
  clear E23 P23 M23 G23 e24
  go_wp2_with fail
  refine (heldCodedS_f aI cI N z 1 _ HokN.out (by omega) (by omega) M24).mono ?_
  rintro e w25 ⟨rfl, e25⟩
  have E25 := E24.trans e25
  go_wp2
  go_ret
  exact ⟨rfl, E25⟩
end Go.Proofs.YtmokncpppmchfaaDoor
