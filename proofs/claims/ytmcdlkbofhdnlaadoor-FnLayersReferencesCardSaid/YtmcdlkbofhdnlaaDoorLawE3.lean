/- FnLayerReference, FnLayersReferences: the walks. -/
import Derived.Test.YtmcdlkbofhdnlaaDoorC2
import Derived.Test.YtmcdlkbofhdnlaaDoorD5
import Derived.Test.YtmcdlkbofhdnlaaDoorV
namespace Go.Proofs.YtmcdlkbofhdnlaaDoor
open Go.RowKit
set_option maxHeartbeats 1000000
theorem byte_range {zs : List Int} (h : ∀ z ∈ zs, (Lit.int .u8 z).wf = true) : ∀ z ∈ zs, 0 ≤ z ∧ z ≤ 255 := by
  intro z hz
  have := h z hz
  simp [Lit.wf, IntKind.min, IntKind.max, IntKind.signed, IntKind.bits] at this
  omega
theorem layerN_cases (k l : Nat) : layerN k l ≤ l - 1 := layerN_lt k l
theorem refN_zero (l : Nat) : refN 0 l = -1 := by
  unfold refN
  rw [if_pos (Nat.pow_pos (by decide))]
/-- The reference of a later picture: an earlier one, in a lower layer or, from layer 0, in layer 0. -/
theorem ref_spec (k l : Nat) (hk : k ≤ 28) (hk1 : 1 ≤ k) (h1 : 1 ≤ l) (h2 : l ≤ 4) : ∃ m : Nat, refN k l = m ∧ m < k ∧ (layerN m l < layerN k l ∨ layerN k l = 0 ∧ layerN m l = 0) := by
  have hl : l = 1 ∨ l = 2 ∨ l = 3 ∨ l = 4 := by omega
  have h3 := layerN_lt k l
  rcases hl with rfl | rfl | rfl | rfl
  · have h4 : layerN k 1 = 0 := by omega
    rcases h4 with h4
    · have z0 := (layerN_le k 1 0 (by omega) (by decide) (by decide)).1 (by omega)
      have r := refN_10 k h4
      simp only [Nat.reduceSub, Nat.reducePow] at z0
      rw [if_neg (by omega)] at r
      refine ⟨k - 1, by rw [r]; omega, by omega, ?_⟩
      have := (layerN_le (k - 1) 1 0 (by omega) (by decide) (by decide)).2 (by simp only [Nat.reduceSub, Nat.reducePow]; omega)
      omega
  · have h4 : layerN k 2 = 0 ∨ layerN k 2 = 1 := by omega
    rcases h4 with h4 | h4
    · have z0 := (layerN_le k 2 0 (by omega) (by decide) (by decide)).1 (by omega)
      have r := refN_20 k h4
      simp only [Nat.reduceSub, Nat.reducePow] at z0
      rw [if_neg (by omega)] at r
      refine ⟨k - 2, by rw [r]; omega, by omega, ?_⟩
      have := (layerN_le (k - 2) 2 0 (by omega) (by decide) (by decide)).2 (by simp only [Nat.reduceSub, Nat.reducePow]; omega)
      omega
    · have z0 := (layerN_le k 2 1 (by omega) (by decide) (by decide)).1 (by omega)
      have r := refN_21 k h4
      have z1 : ¬ k % 2 = 0 := fun h => by have := (layerN_le k 2 0 (by omega) (by decide) (by decide)).2 h; omega
      simp only [Nat.reduceSub, Nat.reducePow] at z0
      rw [if_neg (by omega)] at r
      refine ⟨k - 1, by rw [r]; omega, by omega, ?_⟩
      have := (layerN_le (k - 1) 2 0 (by omega) (by decide) (by decide)).2 (by simp only [Nat.reduceSub, Nat.reducePow]; omega)
      omega
  · have h4 : layerN k 3 = 0 ∨ layerN k 3 = 1 ∨ layerN k 3 = 2 := by omega
    rcases h4 with h4 | h4 | h4
    · have z0 := (layerN_le k 3 0 (by omega) (by decide) (by decide)).1 (by omega)
      have r := refN_30 k h4
      simp only [Nat.reduceSub, Nat.reducePow] at z0
      rw [if_neg (by omega)] at r
      refine ⟨k - 4, by rw [r]; omega, by omega, ?_⟩
      have := (layerN_le (k - 4) 3 0 (by omega) (by decide) (by decide)).2 (by simp only [Nat.reduceSub, Nat.reducePow]; omega)
      omega
    · have z0 := (layerN_le k 3 1 (by omega) (by decide) (by decide)).1 (by omega)
      have r := refN_31 k h4
      have z1 : ¬ k % 4 = 0 := fun h => by have := (layerN_le k 3 0 (by omega) (by decide) (by decide)).2 h; omega
      simp only [Nat.reduceSub, Nat.reducePow] at z0
      rw [if_neg (by omega)] at r
      refine ⟨k - 2, by rw [r]; omega, by omega, ?_⟩
      have := (layerN_le (k - 2) 3 0 (by omega) (by decide) (by decide)).2 (by simp only [Nat.reduceSub, Nat.reducePow]; omega)
      omega
    · have z0 := (layerN_le k 3 2 (by omega) (by decide) (by decide)).1 (by omega)
      have r := refN_32 k h4
      have z1 : ¬ k % 2 = 0 := fun h => by have := (layerN_le k 3 1 (by omega) (by decide) (by decide)).2 h; omega
      simp only [Nat.reduceSub, Nat.reducePow] at z0
      rw [if_neg (by omega)] at r
      refine ⟨k - 1, by rw [r]; omega, by omega, ?_⟩
      have := (layerN_le (k - 1) 3 1 (by omega) (by decide) (by decide)).2 (by simp only [Nat.reduceSub, Nat.reducePow]; omega)
      omega
  · have h4 : layerN k 4 = 0 ∨ layerN k 4 = 1 ∨ layerN k 4 = 2 ∨ layerN k 4 = 3 := by omega
    rcases h4 with h4 | h4 | h4 | h4
    · have z0 := (layerN_le k 4 0 (by omega) (by decide) (by decide)).1 (by omega)
      have r := refN_40 k h4
      simp only [Nat.reduceSub, Nat.reducePow] at z0
      rw [if_neg (by omega)] at r
      refine ⟨k - 8, by rw [r]; omega, by omega, ?_⟩
      have := (layerN_le (k - 8) 4 0 (by omega) (by decide) (by decide)).2 (by simp only [Nat.reduceSub, Nat.reducePow]; omega)
      omega
    · have z0 := (layerN_le k 4 1 (by omega) (by decide) (by decide)).1 (by omega)
      have r := refN_41 k h4
      have z1 : ¬ k % 8 = 0 := fun h => by have := (layerN_le k 4 0 (by omega) (by decide) (by decide)).2 h; omega
      simp only [Nat.reduceSub, Nat.reducePow] at z0
      rw [if_neg (by omega)] at r
      refine ⟨k - 4, by rw [r]; omega, by omega, ?_⟩
      have := (layerN_le (k - 4) 4 0 (by omega) (by decide) (by decide)).2 (by simp only [Nat.reduceSub, Nat.reducePow]; omega)
      omega
    · have z0 := (layerN_le k 4 2 (by omega) (by decide) (by decide)).1 (by omega)
      have r := refN_42 k h4
      have z1 : ¬ k % 4 = 0 := fun h => by have := (layerN_le k 4 1 (by omega) (by decide) (by decide)).2 h; omega
      simp only [Nat.reduceSub, Nat.reducePow] at z0
      rw [if_neg (by omega)] at r
      refine ⟨k - 2, by rw [r]; omega, by omega, ?_⟩
      have := (layerN_le (k - 2) 4 1 (by omega) (by decide) (by decide)).2 (by simp only [Nat.reduceSub, Nat.reducePow]; omega)
      omega
    · have z0 := (layerN_le k 4 3 (by omega) (by decide) (by decide)).1 (by omega)
      have r := refN_43 k h4
      have z1 : ¬ k % 2 = 0 := fun h => by have := (layerN_le k 4 2 (by omega) (by decide) (by decide)).2 h; omega
      simp only [Nat.reduceSub, Nat.reducePow] at z0
      rw [if_neg (by omega)] at r
      refine ⟨k - 1, by rw [r]; omega, by omega, ?_⟩
      have := (layerN_le (k - 1) 4 2 (by omega) (by decide) (by decide)).2 (by simp only [Nat.reduceSub, Nat.reducePow]; omega)
      omega
theorem law_FnLayerReference (a : Option Addr) (c n : Nat) (zs : List Int) (w : World) (hT : Tab w) (hn0 : n ≤ c ∧ c ≤ maxLen) (sl : Sl w a n (zs.map (Value.int .u8))) (wf : ∀ z ∈ zs, (Lit.int .u8 z).wf = true) :
    Calls Tryd.prog 3 #[.slice a n c] w fun e w' => e = .returned (.bool true) ∧ Ext w w' := by
  have hn : n ≤ c ∧ c ≤ 9223372036854775807 := ⟨hn0.1, hn0.2⟩
  clear hn0
  have hz := Lib.hid (byte_range wf)
  clear wf
  by_cases hbig : 1048576 < n
  · go_enter Tryd.func3, Tryd.ntmps3
    go_wp2
    go_ret
    refine ⟨rfl, ?_⟩
    (repeat (first | with_reducible exact Below.refl _ _ | assumption | with_reducible refine below_drewN ?_ _ | with_reducible refine Below.drew ?_ | with_reducible refine Below.setCell ?_ (by simp <;> omega) _ | with_reducible refine Ext.trans ?_ (Ext.alloc _ _)))
  go_enter Tryd.func3, Tryd.ntmps3
  go_wp2_with fail
  refine (DrawLayerReference_any a c n zs _ hn.1 hn.2 (sl.ext (by (repeat (first | with_reducible exact Below.refl _ _ | assumption | with_reducible refine below_drewN ?_ _ | with_reducible refine Below.drew ?_ | with_reducible refine Below.setCell ?_ (by simp <;> omega) _ | with_reducible refine Ext.trans ?_ (Ext.alloc _ _))))) hz.out).mono ?_
  rintro e w1 ⟨x, l, rfl, hx0, hx1, hl0, hl1, e1⟩
  have E1 : Ext w w1 := by refine Ext.trans ?_ e1; (repeat (first | with_reducible exact Below.refl _ _ | assumption | with_reducible refine below_drewN ?_ _ | with_reducible refine Below.drew ?_ | with_reducible refine Below.setCell ?_ (by simp <;> omega) _ | with_reducible refine Ext.trans ?_ (Ext.alloc _ _)))
  have T1 := hT.ext E1
  clear sl hz e1
  go_wp2_with fail
  refine (impl_LayerReference_any x l _ T1 (by omega)).mono ?_
  rintro e w2 ⟨rfl, rfl⟩
  obtain ⟨Y, hY⟩ : ∃ Y, Y = layerRef x l := ⟨_, rfl⟩
  rw [← hY]
  have HY := Lib.hid hY
  clear hY
  go_wp2_with fail
  refine (spec_LayerReference_any x l _ (by omega)).mono ?_
  rintro e w2 ⟨he, rfl⟩
  rw [← HY.out] at he
  subst he
  by_cases hv : 1 ≤ x ∧ 1 ≤ l ∧ l ≤ 4
  · obtain ⟨hv1, hv2, hv3⟩ := hv
    obtain ⟨k, rfl⟩ := Int.eq_ofNat_of_zero_le (show 0 ≤ x by omega)
    obtain ⟨q, rfl⟩ := Int.eq_ofNat_of_zero_le (show 0 ≤ l by omega)
    obtain ⟨m, f1, f2, f3⟩ := ref_spec k q (by omega) (by omega) (by omega) (by omega)
    have hy2 : Y = (m : Int) := by rw [HY.out, layerRef_yes k q (by omega) (by omega)]; exact f1
    have c1 := impl_LayerOf_yes k q w1 T1 (by omega) (by omega) (by omega)
    have c2 := impl_LayerOf_yes m q w1 T1 (by omega) (by omega) (by omega)
    clear HY f1
    subst hy2
    generalize layerN k q = A at *
    generalize layerN m q = B at *
    by_cases h : B < A
    · have g1 : decide (B < A) = true := by simp; omega
      clear f3
      go_wp2_with fail
      refine c1.mono ?_
      rintro e w3 ⟨rfl, rfl⟩
      go_wp2_with fail
      refine c2.mono ?_
      rintro e w3 ⟨rfl, rfl⟩
      go_wp2
      go_ret
      exact ⟨by simp; try omega, E1⟩
    · have g2 : A = 0 := by omega
      have g3 : B = 0 := by omega
      clear f3 h
      subst g2
      subst g3
      go_wp2_with fail
      refine c1.mono ?_
      rintro e w3 ⟨rfl, rfl⟩
      go_wp2_with fail
      refine c2.mono ?_
      rintro e w3 ⟨rfl, rfl⟩
      go_wp2
      go_ret
      exact ⟨by simp; try omega, E1⟩
  · have hy : Y = -1 := by
      rw [HY.out]
      by_cases h : x < 0 ∨ l < 1 ∨ 4 < l
      · exact layerRef_no x l h
      · obtain rfl : x = ((0 : Nat) : Int) := by omega
        obtain ⟨q, rfl⟩ := Int.eq_ofNat_of_zero_le (show 0 ≤ l by omega)
        rw [layerRef_yes 0 q (by omega) (by omega)]
        exact refN_zero q
    subst hy
    have hb : (decide (x < 1) || decide (l < 1) || decide (4 < l)) = true := by simp; omega
    go_wp2_with fail
    all_goals
      refine (alive_any _).mono ?_
      rintro e w5 ⟨rfl, e5⟩
      have E5 := E1.trans e5
      clear E1 e5
      go_wp2
      go_ret
      exact ⟨rfl, E5⟩
theorem law_FnLayersReferences (a : Option Addr) (c n : Nat) (zs : List Int) (w : World) (hT : Tab w) (hn0 : n ≤ c ∧ c ≤ maxLen) (sl : Sl w a n (zs.map (Value.int .u8))) (wf : ∀ z ∈ zs, (Lit.int .u8 z).wf = true) :
    Calls Tryd.prog 4 #[.slice a n c] w fun e w' => e = .returned (.bool true) ∧ Ext w w' := by
  have hn : n ≤ c ∧ c ≤ 9223372036854775807 := ⟨hn0.1, hn0.2⟩
  clear hn0
  have hz := Lib.hid (byte_range wf)
  clear wf
  by_cases hbig : 1048576 < n
  · go_enter Tryd.func4, Tryd.ntmps4
    go_wp2
    go_ret
    refine ⟨rfl, ?_⟩
    (repeat (first | with_reducible exact Below.refl _ _ | assumption | with_reducible refine below_drewN ?_ _ | with_reducible refine Below.drew ?_ | with_reducible refine Below.setCell ?_ (by simp <;> omega) _ | with_reducible refine Ext.trans ?_ (Ext.alloc _ _)))
  go_enter Tryd.func4, Tryd.ntmps4
  go_wp2_with fail
  refine (DrawLayerReference_any a c n zs _ hn.1 hn.2 (sl.ext (by (repeat (first | with_reducible exact Below.refl _ _ | assumption | with_reducible refine below_drewN ?_ _ | with_reducible refine Below.drew ?_ | with_reducible refine Below.setCell ?_ (by simp <;> omega) _ | with_reducible refine Ext.trans ?_ (Ext.alloc _ _))))) hz.out).mono ?_
  rintro e w1 ⟨x, l, rfl, hx0, hx1, hl0, hl1, e1⟩
  have E1 : Ext w w1 := by refine Ext.trans ?_ e1; (repeat (first | with_reducible exact Below.refl _ _ | assumption | with_reducible refine below_drewN ?_ _ | with_reducible refine Below.drew ?_ | with_reducible refine Below.setCell ?_ (by simp <;> omega) _ | with_reducible refine Ext.trans ?_ (Ext.alloc _ _)))
  have T1 := hT.ext E1
  clear sl hz e1
  go_wp2_with fail
  refine (impl_LayerReference_any x l _ T1 (by omega)).mono ?_
  rintro e w2 ⟨rfl, rfl⟩
  obtain ⟨Y, hY⟩ : ∃ Y, Y = layerRef x l := ⟨_, rfl⟩
  rw [← hY]
  have HY := Lib.hid hY
  clear hY
  go_wp2_with fail
  refine (spec_LayerReference_any x l _ (by omega)).mono ?_
  rintro e w2 ⟨he, rfl⟩
  rw [← HY.out] at he
  subst he
  by_cases hv : 0 ≤ x ∧ 1 ≤ l ∧ l ≤ 4
  · obtain ⟨hv1, hv2, hv3⟩ := hv
    obtain ⟨k, rfl⟩ := Int.eq_ofNat_of_zero_le hv1
    obtain ⟨q, rfl⟩ := Int.eq_ofNat_of_zero_le (show 0 ≤ l by omega)
    clear HY
    go_wp2_with fail
    go_loopw [3, 6] (fun i s wr => ∃ m t : Nat, i = .int .i64 m ∧ s = .int .i64 t ∧ m + t ≤ 28 ∧ wr = w1) (fun i _ _ => (intOf i).toNat)
    case atStart => exact ⟨k, 0, rfl, rfl, by omega, rfl⟩
    case round =>
      obtain ⟨m, t, rfl, rfl, hmt, rfl⟩ := hrel
      by_cases h : 0 < m
      · obtain ⟨m2, f1, f2, -⟩ := ref_spec m q (by omega) (by omega) (by omega) (by omega)
        have c1 := impl_LayerReference_yes m q wr T1 (by omega) (by omega) (by omega)
        rw [f1] at c1
        clear f1
        go_wp2_with fail
        refine c1.mono ?_
        rintro e w3 ⟨rfl, rfl⟩
        go_wp2
        exact ⟨⟨m2, t + 1, rfl, by go_num, by omega, trivial⟩, by simp [intOf]; omega⟩
      · obtain rfl : m = 0 := by omega
        go_wp2
        go_ret
        exact ⟨by simp, E1⟩
  · have hy : Y = -1 := by rw [HY.out]; exact layerRef_no x l (by omega)
    subst hy
    have hb : (decide (x < 0) || decide (l < 1) || decide (4 < l)) = true := by simp; omega
    go_wp2_with fail
    all_goals
      refine (alive_any _).mono ?_
      rintro e w5 ⟨rfl, e5⟩
      have E5 := E1.trans e5
      clear E1 e5
      go_wp2
      go_ret
      exact ⟨rfl, E5⟩
end Go.Proofs.YtmcdlkbofhdnlaaDoor
