/- FnExactJoinSequences: the walk of the law. -/
import Derived.Test.YtlmoeabchiddnaaJ4
import Derived.Test.YtlmoeabchiddnaaJ7
namespace Go.Proofs.Ytlmoeabchiddnaa
open Go.RowKit
set_option maxHeartbeats 1000000
theorem join_any (r s : Nat → Cd) (n m : Nat) (ok : okC r n) (ok2 : okC s m) (hs : smN szC r n + n + (smN szC s m + m) ≤ 1048576) :
    ∃ (N : Nat) (z : Nat → Cd), okC z N ∧
      (∀ (a b : Option Addr) (c d : Nat) (w : World), CP w a n r → CP w b m s → Calls Try.prog 6 #[.slice a n c, .slice b m d] w fun e w' => ∃ a' c', e = .returned (.slice a' N c') ∧ CP w' a' N z ∧ Ext w w') ∧
      (∀ (a b : Option Addr) (c d : Nat) (w : World), CP w a n r → CP w b m s → Calls Try.prog 8 #[.slice a n c, .slice b m d] w fun e w' => ∃ a' c' cs, e = .returned (.slice a' N c') ∧ CE w' w.heap.size w'.heap.size (.slice a' N c') N N z cs ∧ Ext w w') := by
  have hn := ok.1
  have hm := ok2.1
  by_cases h : n + m ≤ 8 ∧ (0 < m → (s 0).i = true)
  · refine ⟨n + m, joinR n r s, ok.join ok2 hs, fun a b c d w R S => ?_, fun a b c d w R S => impl_JoinSequences_yes a b n c m d r s w ok ok2 R S h.1 h.2⟩
    refine (spec_JoinSequences_yes a b n c m d r s w ok ok2 R S h.1 h.2).mono ?_
    rintro e w' ⟨a', c', cs, rfl, S, E⟩
    exact ⟨_, _, rfl, S.toCP, E⟩
  · have hno : 8 < n + m ∨ 0 < m ∧ (s 0).i = false := by
      by_cases h1 : 8 < n + m
      · exact .inl h1
      · right
        by_cases h2 : 0 < m
        · refine ⟨h2, ?_⟩
          cases h3 : (s 0).i with
          | false => rfl
          | true => exact absurd ⟨by omega, fun _ => h3⟩ h
        · exact absurd ⟨by omega, fun h3 => absurd h3 h2⟩ h
    refine ⟨0, r, ⟨by omega, by simp [smN, sumN]⟩, fun a b c d w R S => ?_, fun a b c d w R S => ?_⟩
    · refine (spec_JoinSequences_no a b n c m d s w hn hm S hno).mono ?_
      rintro e w' ⟨rfl, E⟩
      exact ⟨_, _, rfl, fun i hi => by omega, E⟩
    · refine (impl_JoinSequences_no a b n c m d s w hn hm S hno).mono ?_
      rintro e w' ⟨rfl, rfl⟩
      exact ⟨_, _, _, rfl, CE.none _ _ _ _ (Nat.le_refl _), Below.refl _ _⟩
set_option maxRecDepth 100000 in
set_option maxHeartbeats 8000000 in
theorem law_FnExactJoinSequences (a : Option Addr) (c n : Nat) (r : Nat → Cd) (b : Option Addr) (d m : Nat) (s : Nat → Cd) (w : World) (hn0 : n ≤ c ∧ c ≤ maxLen) (R : CP w a n r) (hm0 : m ≤ d ∧ d ≤ maxLen) (S : CP w b m s) :
    Calls Try.prog 3 #[.slice a n c, .slice b m d] w fun e w' => e = .returned (.bool true) ∧ Ext w w' := by
  have hn : n ≤ 9223372036854775807 := Nat.le_trans hn0.1 hn0.2
  have hm : m ≤ 9223372036854775807 := Nat.le_trans hm0.1 hm0.2
  go_enter Try.func3, Try.ntmps3
  go_wp2_with fail
  refine (szCodedS_any a c n r 1048576 _ hn (by omega) (by omega) R).mono ?_
  rintro e w1 ⟨x1, rfl, hx1, hx, E1⟩
  by_cases hneg : x1 < 0
  · go_wp2
    go_ret
    exact ⟨rfl, E1⟩
  have hd : decide (x1 < 0) = false := by simpa using hneg
  obtain ⟨ok, hxe⟩ := hx (by omega)
  have Hxe := Lib.hid hxe
  have Hok0 := Lib.hid ok
  clear hxe ok hx
  go_wp2_with fail
  refine (szCodedS_any b d m s x1 _ hm (by omega) hx1 (S.ext E1)).mono ?_
  rintro e w2 ⟨x2, rfl, hx2, hy, E2'⟩
  have E2 := E1.trans E2'
  by_cases hneg2 : x2 < 0
  · go_wp2
    go_ret
    exact ⟨rfl, E2⟩
  have hd2 : decide (x2 < 0) = false := by simpa using hneg2
  obtain ⟨ok2, hye⟩ := hy (by omega)
  have ok := Hok0.out
  have hxe := Hxe.out
  obtain ⟨N, z, okN, hS, hI⟩ := join_any r s n m ok ok2 (by omega)
  have hN : N ≤ 1048576 := okN.1
  have Hok := Lib.hid ok
  have HokN := Lib.hid okN
  have HS := Lib.hid hS
  have HI := Lib.hid hI
  have E0 := E2
  have hn20 : n ≤ 1048576 := ok.1
  have Hok2 := Lib.hid ok2
  have hm20 : m ≤ 1048576 := ok2.1
  clear ok okN hS hI  hxe E1 E2 E2' hy hye ok2 Hok0
  have hwt : smN wtC z N ≤ 8388608 := by
    have h1 := smN_wt z N
    have h2 := HokN.out.2
    omega
  go_wp2_with fail
  refine (toCodedS_own a c n r _ Hok.out (R.ext E0)).mono ?_
  rintro e w11 ⟨cs11, rfl, C11, e11⟩
  have E11 := E0.trans e11
  go_wp2_with fail
  refine (toCodedS_own b d m s _ Hok2.out (S.ext E11)).mono ?_
  rintro e w12 ⟨cs12, rfl, C12, e12⟩
  have E12 := E11.trans e12
  have q11 := C11.toCP.ext e12
  have q12 := C12.toCP
  clear C11 C12 e11 e12 E11
  go_wp2_with fail
  refine (HS.out _ _ _ _ _ q11 q12).mono ?_
  rintro e w13 ⟨aS, cS, rfl, PS, e13⟩
  have E13 := E12.trans e13
  clear e13 q11 q12 E12 E0
  go_wp2_with fail
  refine (toCodedS_own a c n r _ Hok.out (R.ext E13)).mono ?_
  rintro e w14 ⟨cs14, rfl, C14, e14⟩
  have E14 := E13.trans e14
  go_wp2_with fail
  refine (toCodedS_own b d m s _ Hok2.out (S.ext E14)).mono ?_
  rintro e w15 ⟨cs15, rfl, C15, e15⟩
  have E15 := E14.trans e15
  have D14 := C14.ext e15
  go_wp2_with fail
  refine (HI.out _ _ _ _ _ (D14).toCP C15.toCP).mono ?_
  rintro e w16 ⟨aI, cI, csI, rfl, G16, e16⟩
  have E16 := E15.trans e16
  have P16 : Ext w13 w16 := (e14.trans e15).trans e16
  have X16 := D14.ext e16
  have Y16 := C15.ext e16
  have hB1 : w13.heap.size < w14.heap.size := (C14.own.lt _ rfl).2
  have s1 := e14.size
  have s3 := e16.size
  have s0 := E13.size
  have s2 := e15.size
  have hB2 : w14.heap.size < w15.heap.size := (C15.own.lt _ rfl).2
  clear C14 D14 e14 C15 e15 E14 E15 e16 E13
  go_wp2_with fail
  refine (eqCodedS_same aI aS cI cS N z _ HokN.out G16.toCP (PS.ext P16)).mono ?_
  rintro e w17 ⟨rfl, e17⟩
  have E17 := E16.trans e17
  have P17 := P16.trans e17
  have G17 := G16.ext e17
  have X17 := X16.ext e17
  have t17 := e17.size
  have Y17 := Y16.ext e17
  clear E16 P16 G16 X16 e17 Y16
  go_wp2_with fail
  refine (toCodedS_own a c n r _ Hok.out (R.ext E17)).mono ?_
  rintro e w18 ⟨cs18, rfl, C18, e18⟩
  have E18 := E17.trans e18
  go_wp2_with fail
  refine (eqCodedS_same _ _ _ _ n r _ Hok.out (X17.ext e18).toCP C18.toCP).mono ?_
  rintro e w19 ⟨rfl, e19⟩
  have f19 := e18.trans e19
  have E19 := E17.trans f19
  have P19 := P17.trans f19
  have G19 := G17.ext f19
  have X19 := X17.ext f19
  have t19 := f19.size
  have Y19 := Y17.ext f19
  clear C18 e18 e19 f19 E18 E17 P17 G17 X17 Y17
  go_wp2_with fail
  refine (toCodedS_own b d m s _ Hok2.out (S.ext E19)).mono ?_
  rintro e w20 ⟨cs20, rfl, C20, e20⟩
  have E20 := E19.trans e20
  go_wp2_with fail
  refine (eqCodedS_same _ _ _ _ m s _ Hok2.out (Y19.ext e20).toCP C20.toCP).mono ?_
  rintro e w21 ⟨rfl, e21⟩
  have f21 := e20.trans e21
  have E21 := E19.trans f21
  have P21 := P19.trans f21
  have G21 := G19.ext f21
  have X21 := X19.ext f21
  have t21 := f21.size
  have Y21 := Y19.ext f21
  clear C20 e20 e21 f21 E20 E19 P19 G19 X19 Y19
  have hwa : smN wtC r n ≤ 8388608 := by
    have h1 := smN_wt r n
    have h2 := Hok.out.2
    omega
  have hwb : smN wtC s m ≤ 8388608 := by
    have h1 := smN_wt s m
    have h2 := Hok2.out.2
    omega
  go_wp2_with fail
  refine (markCodedS_f _ _ n w13.heap.size w14.heap.size r _ 1 _ Hok.out (by omega) (by omega) X21 (fun q hq => by simp [Value.ownBlock] at hq; subst hq; exact ⟨Nat.le_refl _, hB1⟩)).mono ?_
  rintro e w22 ⟨rfl, -, T22⟩
  have E22 := E21.tch T22 (by omega)
  have P22 := P21.tch T22 (by omega)
  have G22 := G21.tch T22 (by omega)
  have t22 := T22.size
  have Y22 := Y21.tch T22 (by omega)
  clear T22 E21 P21 G21 X21 Y21
  go_wp2_with fail
  refine (markCodedS_f _ _ m w14.heap.size w15.heap.size s _ (1 + (smN wtC r n : Nat)) _ Hok2.out (by omega) (by omega) Y22 (fun q hq => by simp [Value.ownBlock] at hq; subst hq; exact ⟨Nat.le_refl _, hB2⟩)).mono ?_
  rintro e w23 ⟨rfl, -, T23⟩
  have E23 := E22.tch T23 (by omega)
  have P23 := P22.tch T23 (by omega)
  have G23 := G22.tch T23 (by omega)
  have t23 := T23.size
  clear T23 E22 P22 G22  Y22
  have hdk : decide ((1 : Int) + (smN wtC r n : Nat) + (smN wtC s m : Nat) < 0) = false := by simp; omega
  go_wp2_with fail
  refine (eqCodedS_same aI aS cI cS N z _ HokN.out G23.toCP (PS.ext P23)).mono ?_
  rintro e w24 ⟨rfl, e24⟩
  have E24 := E23.trans e24
  have P24 := P23.trans e24
  have G24 := (G23.ext e24).up (hi' := w24.heap.size) (by have := e24.size; omega)
  have t24 := e24.size
  clear E23 P23 G23 e24
  go_wp2_with fail
  have hlt24 := G24.own.lt
  refine (markCodedS_f aI cI N w15.heap.size w24.heap.size z _ 1 _ HokN.out (by omega) (by omega) G24 (fun q hq => hlt24 q hq)).mono ?_
  rintro e w25 ⟨rfl, ⟨csM, G25⟩, T25⟩
  have E25 := E24.tch T25 (by omega)
  have P25 := P24.tch T25 (by omega)
  have t25 := T25.size
  have hdm : decide ((1 : Int) + (smN wtC z N : Nat) < 0) = false := by simp; omega
  have M25 := G25.toCP
  clear T25 E24 P24 G24 G25 hlt24
  go_wp2_with fail
  refine (heldCodedS_f aI cI N z 1 _ HokN.out (by omega) (by omega) M25).mono ?_
  rintro e w26 ⟨rfl, e26⟩
  have E26 := E25.trans e26
  have P26 := P25.trans e26
  have M26 := M25.ext e26
  clear E25 P25 M25 e26
  go_wp2_with fail
  refine (toCodedS_own a c n r _ Hok.out (R.ext E26)).mono ?_
  rintro e w27 ⟨cs27, rfl, C27, e27⟩
  have E27 := E26.trans e27
  go_wp2_with fail
  refine (toCodedS_own b d m s _ Hok2.out (S.ext E27)).mono ?_
  rintro e w28 ⟨cs28, rfl, C28, e28⟩
  have E28 := E27.trans e28
  go_wp2_with fail
  refine (HI.out _ _ _ _ _ (C27.ext e28).toCP C28.toCP).mono ?_
  rintro e w29 ⟨aH, cH, csH, rfl, G29, e29⟩
  have f29 := (e27.trans e28).trans e29
  have E29 := E26.trans f29
  have P29 := P26.trans f29
  have M29 := M26.ext f29
  clear C27 e27 E27 C28 e28 E28 e29 f29 E26 P26 M26
  go_wp2_with fail
  refine (eqCodedS_same aH aS cH cS N z _ HokN.out G29.toCP (PS.ext P29)).mono ?_
  rintro e w30 ⟨rfl, e30⟩
  have E30 := E29.trans e30
  have M30 := M29.ext e30
  clear E29 P29 M29 G29 e30
  go_wp2_with fail
  refine (heldCodedS_f aI cI N z 1 _ HokN.out (by omega) (by omega) M30).mono ?_
  rintro e w31 ⟨rfl, e31⟩
  have E31 := E30.trans e31
  go_wp2
  go_ret
  exact ⟨rfl, E31⟩
end Go.Proofs.Ytlmoeabchiddnaa
