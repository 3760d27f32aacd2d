/- FnLayerOf: the walk. -/
import Derived.Test.YtfcgnhgocdoimaaDoorC2
import Derived.Test.YtfcgnhgocdoimaaDoorD5
import Derived.Test.YtfcgnhgocdoimaaDoorV
namespace Go.Proofs.YtfcgnhgocdoimaaDoor
open Go.RowKit
set_option maxHeartbeats 1000000
theorem byte_range {zs : List Int} (h : ∀ z ∈ zs, (Lit.int .u8 z).wf = true) : ∀ z ∈ zs, 0 ≤ z ∧ z ≤ 255 := by
  intro z hz
  have := h z hz
  simp [Lit.wf, IntKind.min, IntKind.max, IntKind.signed, IntKind.bits] at this
  omega
theorem lay_1 (k : Nat) (hk : k ≤ 28) : layerN (k + 1) 1 = layerN k 1 ∧ layerN k 1 = 0 ∧ layerN k 1 < 1 ∧ (layerN k 1 = 0 ↔ k % 1 = 0) := by
  have a := layerN_le k 1 0 (by omega) (by decide) (by decide)
  have h1 := layerN_lt k 1
  have h2 := layerN_lt k 1
  refine ⟨?_, by omega, by omega, by simp at a; omega⟩
  have h3 := layerN_lt (k + 1) 1
  omega
theorem lay_2 (k : Nat) (hk : k ≤ 28) : layerN (k + 2) 2 = layerN k 2 ∧ layerN k 1 = 0 ∧ layerN k 2 < 2 ∧ (layerN k 2 = 0 ↔ k % 2 = 0) := by
  have a := layerN_le k 2 0 (by omega) (by decide) (by decide)
  have h1 := layerN_lt k 1
  have h2 := layerN_lt k 2
  refine ⟨?_, by omega, by omega, by simp at a; omega⟩
  have b0 := layerN_le (k + 2) 2 0 (by omega) (by decide) (by decide)
  have c0 := layerN_le k 2 0 (by omega) (by decide) (by decide)
  have h3 := layerN_lt (k + 2) 2
  simp only [Nat.reduceSub, Nat.reducePow] at b0 c0
  omega
theorem lay_3 (k : Nat) (hk : k ≤ 28) : layerN (k + 4) 3 = layerN k 3 ∧ layerN k 1 = 0 ∧ layerN k 3 < 3 ∧ (layerN k 3 = 0 ↔ k % 4 = 0) := by
  have a := layerN_le k 3 0 (by omega) (by decide) (by decide)
  have h1 := layerN_lt k 1
  have h2 := layerN_lt k 3
  refine ⟨?_, by omega, by omega, by simp at a; omega⟩
  have b0 := layerN_le (k + 4) 3 0 (by omega) (by decide) (by decide)
  have c0 := layerN_le k 3 0 (by omega) (by decide) (by decide)
  have b1 := layerN_le (k + 4) 3 1 (by omega) (by decide) (by decide)
  have c1 := layerN_le k 3 1 (by omega) (by decide) (by decide)
  have h3 := layerN_lt (k + 4) 3
  simp only [Nat.reduceSub, Nat.reducePow] at b0 c0 b1 c1
  omega
theorem lay_4 (k : Nat) (hk : k ≤ 28) : layerN (k + 8) 4 = layerN k 4 ∧ layerN k 1 = 0 ∧ layerN k 4 < 4 ∧ (layerN k 4 = 0 ↔ k % 8 = 0) := by
  have a := layerN_le k 4 0 (by omega) (by decide) (by decide)
  have h1 := layerN_lt k 1
  have h2 := layerN_lt k 4
  refine ⟨?_, by omega, by omega, by simp at a; omega⟩
  have b0 := layerN_le (k + 8) 4 0 (by omega) (by decide) (by decide)
  have c0 := layerN_le k 4 0 (by omega) (by decide) (by decide)
  have b1 := layerN_le (k + 8) 4 1 (by omega) (by decide) (by decide)
  have c1 := layerN_le k 4 1 (by omega) (by decide) (by decide)
  have b2 := layerN_le (k + 8) 4 2 (by omega) (by decide) (by decide)
  have c2 := layerN_le k 4 2 (by omega) (by decide) (by decide)
  have h3 := layerN_lt (k + 8) 4
  simp only [Nat.reduceSub, Nat.reducePow] at b0 c0 b1 c1 b2 c2
  omega
theorem law_FnLayerOf (a : Option Addr) (c n : Nat) (zs : List Int) (w : World) (hT : Tab w) (hn0 : n ≤ c ∧ c ≤ maxLen) (sl : Sl w a n (zs.map (Value.int .u8))) (wf : ∀ z ∈ zs, (Lit.int .u8 z).wf = true) :
    Calls Tryd.prog 5 #[.slice a n c] w fun e w' => e = .returned (.bool true) ∧ Ext w w' := by
  have hn : n ≤ c ∧ c ≤ 9223372036854775807 := ⟨hn0.1, hn0.2⟩
  clear hn0
  have hz := Lib.hid (byte_range wf)
  clear wf
  by_cases hbig : 1048576 < n
  · go_enter Tryd.func5, Tryd.ntmps5
    go_wp2
    go_ret
    refine ⟨rfl, ?_⟩
    (repeat (first | with_reducible exact Below.refl _ _ | assumption | with_reducible refine below_drewN ?_ _ | with_reducible refine Below.drew ?_ | with_reducible refine Below.setCell ?_ (by simp <;> omega) _ | with_reducible refine Ext.trans ?_ (Ext.alloc _ _)))
  go_enter Tryd.func5, Tryd.ntmps5
  go_wp2_with fail
  refine (DrawLayerOf_any a c n zs _ hn.1 hn.2 (sl.ext (by (repeat (first | with_reducible exact Below.refl _ _ | assumption | with_reducible refine below_drewN ?_ _ | with_reducible refine Below.drew ?_ | with_reducible refine Below.setCell ?_ (by simp <;> omega) _ | with_reducible refine Ext.trans ?_ (Ext.alloc _ _))))) hz.out).mono ?_
  rintro e w1 ⟨x, l, rfl, hx0, hx1, hl0, hl1, e1⟩
  have E1 : Ext w w1 := by refine Ext.trans ?_ e1; (repeat (first | with_reducible exact Below.refl _ _ | assumption | with_reducible refine below_drewN ?_ _ | with_reducible refine Below.drew ?_ | with_reducible refine Below.setCell ?_ (by simp <;> omega) _ | with_reducible refine Ext.trans ?_ (Ext.alloc _ _)))
  have T1 := hT.ext E1
  clear sl hz e1
  go_wp2_with fail
  refine (impl_LayerOf_any x l _ T1 (by omega)).mono ?_
  rintro e w2 ⟨rfl, rfl⟩
  obtain ⟨Y, hY⟩ : ∃ Y, Y = layerOf x l := ⟨_, rfl⟩
  rw [← hY]
  have HY := Lib.hid hY
  clear hY
  go_wp2_with fail
  refine (spec_LayerOf_any x l _ (by omega)).mono ?_
  rintro e w2 ⟨he, rfl⟩
  rw [← HY.out] at he
  subst he
  by_cases hv : 0 ≤ x ∧ 1 ≤ l ∧ l ≤ 4
  · obtain ⟨hv1, hv2, hv3⟩ := hv
    obtain ⟨k, rfl⟩ := Int.eq_ofNat_of_zero_le hv1
    have hl : l = 1 ∨ l = 2 ∨ l = 3 ∨ l = 4 := by omega
    have hY := HY.out
    clear HY
    rcases hl with rfl | rfl | rfl | rfl
    · have hy2 : Y = (layerN k 1 : Nat) := by rw [hY]; exact layerOf_yes k 1 (by decide) (by decide)
      obtain ⟨f1, f2, f3, f4⟩ := lay_1 k (by omega)
      have c1 := impl_LayerOf_yes k 1 w1 T1 (by omega) (by decide) (by decide)
      have c2 := impl_LayerOf_yes (k + 1) 1 w1 T1 (by omega) (by decide) (by decide)
      rw [f2] at c1
      rw [f1, ← hy2, show ((k + 1 : Nat) : Int) = (k : Int) + 1 by simp] at c2
      by_cases hz : k % 1 = 0
      · have hb : ((k : Int) % 1 == 0) = true := by simp <;> omega
        have hy3 : Y = 0 := by rw [hy2, f4.2 hz]; rfl
        clear hy2 hY f1 f2 f3 f4 hz
        subst hy3
        go_wp2_with fail
        refine c1.mono ?_
        rintro e w3 ⟨rfl, rfl⟩
        go_wp2_with fail
        refine c2.mono ?_
        rintro e w3 ⟨rfl, rfl⟩
        go_wp2
        go_ret
        exact ⟨by simp, E1⟩
      · omega
    · have hy2 : Y = (layerN k 2 : Nat) := by rw [hY]; exact layerOf_yes k 2 (by decide) (by decide)
      obtain ⟨f1, f2, f3, f4⟩ := lay_2 k (by omega)
      have c1 := impl_LayerOf_yes k 1 w1 T1 (by omega) (by decide) (by decide)
      have c2 := impl_LayerOf_yes (k + 2) 2 w1 T1 (by omega) (by decide) (by decide)
      rw [f2] at c1
      rw [f1, ← hy2, show ((k + 2 : Nat) : Int) = (k : Int) + 2 by simp] at c2
      by_cases hz : k % 2 = 0
      · have hb : ((k : Int) % 2 == 0) = true := by simp <;> omega
        have hy3 : Y = 0 := by rw [hy2, f4.2 hz]; rfl
        clear hy2 hY f1 f2 f3 f4 hz
        subst hy3
        go_wp2_with fail
        refine c1.mono ?_
        rintro e w3 ⟨rfl, rfl⟩
        go_wp2_with fail
        refine c2.mono ?_
        rintro e w3 ⟨rfl, rfl⟩
        go_wp2
        go_ret
        exact ⟨by simp, E1⟩
      · have hb : ((k : Int) % 2 == 0) = false := by simp <;> omega
        have hy3 : 1 ≤ Y := by
          have : layerN k 2 ≠ 0 := fun h => hz (f4.1 h)
          omega
        have hy4 : Y < 2 := by omega
        have hy5 : (Y == 0) = false := by simp <;> omega
        clear hy2 hY f1 f2 f3 f4 hz
        go_wp2_with fail
        refine c1.mono ?_
        rintro e w3 ⟨rfl, rfl⟩
        go_wp2_with fail
        refine c2.mono ?_
        rintro e w3 ⟨rfl, rfl⟩
        go_wp2
        go_ret
        exact ⟨by simp, E1⟩
    · have hy2 : Y = (layerN k 3 : Nat) := by rw [hY]; exact layerOf_yes k 3 (by decide) (by decide)
      obtain ⟨f1, f2, f3, f4⟩ := lay_3 k (by omega)
      have c1 := impl_LayerOf_yes k 1 w1 T1 (by omega) (by decide) (by decide)
      have c2 := impl_LayerOf_yes (k + 4) 3 w1 T1 (by omega) (by decide) (by decide)
      rw [f2] at c1
      rw [f1, ← hy2, show ((k + 4 : Nat) : Int) = (k : Int) + 4 by simp] at c2
      by_cases hz : k % 4 = 0
      · have hb : ((k : Int) % 4 == 0) = true := by simp <;> omega
        have hy3 : Y = 0 := by rw [hy2, f4.2 hz]; rfl
        clear hy2 hY f1 f2 f3 f4 hz
        subst hy3
        go_wp2_with fail
        refine c1.mono ?_
        rintro e w3 ⟨rfl, rfl⟩
        go_wp2_with fail
        refine c2.mono ?_
        rintro e w3 ⟨rfl, rfl⟩
        go_wp2
        go_ret
        exact ⟨by simp, E1⟩
      · have hb : ((k : Int) % 4 == 0) = false := by simp <;> omega
        have hy3 : 1 ≤ Y := by
          have : layerN k 3 ≠ 0 := fun h => hz (f4.1 h)
          omega
        have hy4 : Y < 3 := by omega
        have hy5 : (Y == 0) = false := by simp <;> omega
        clear hy2 hY f1 f2 f3 f4 hz
        go_wp2_with fail
        refine c1.mono ?_
        rintro e w3 ⟨rfl, rfl⟩
        go_wp2_with fail
        refine c2.mono ?_
        rintro e w3 ⟨rfl, rfl⟩
        go_wp2
        go_ret
        exact ⟨by simp, E1⟩
    · have hy2 : Y = (layerN k 4 : Nat) := by rw [hY]; exact layerOf_yes k 4 (by decide) (by decide)
      obtain ⟨f1, f2, f3, f4⟩ := lay_4 k (by omega)
      have c1 := impl_LayerOf_yes k 1 w1 T1 (by omega) (by decide) (by decide)
      have c2 := impl_LayerOf_yes (k + 8) 4 w1 T1 (by omega) (by decide) (by decide)
      rw [f2] at c1
      rw [f1, ← hy2, show ((k + 8 : Nat) : Int) = (k : Int) + 8 by simp] at c2
      by_cases hz : k % 8 = 0
      · have hb : ((k : Int) % 8 == 0) = true := by simp <;> omega
        have hy3 : Y = 0 := by rw [hy2, f4.2 hz]; rfl
        clear hy2 hY f1 f2 f3 f4 hz
        subst hy3
        go_wp2_with fail
        refine c1.mono ?_
        rintro e w3 ⟨rfl, rfl⟩
        go_wp2_with fail
        refine c2.mono ?_
        rintro e w3 ⟨rfl, rfl⟩
        go_wp2
        go_ret
        exact ⟨by simp, E1⟩
      · have hb : ((k : Int) % 8 == 0) = false := by simp <;> omega
        have hy3 : 1 ≤ Y := by
          have : layerN k 4 ≠ 0 := fun h => hz (f4.1 h)
          omega
        have hy4 : Y < 4 := by omega
        have hy5 : (Y == 0) = false := by simp <;> omega
        clear hy2 hY f1 f2 f3 f4 hz
        go_wp2_with fail
        refine c1.mono ?_
        rintro e w3 ⟨rfl, rfl⟩
        go_wp2_with fail
        refine c2.mono ?_
        rintro e w3 ⟨rfl, rfl⟩
        go_wp2
        go_ret
        exact ⟨by simp, E1⟩
  · have hy : Y = -1 := by rw [HY.out]; exact layerOf_no x l (by omega)
    subst hy
    have hb : (decide (x < 0) || decide (l < 1) || decide (4 < l)) = true := by simp; omega
    go_wp2_with fail
    all_goals
      refine (alive_any _).mono ?_
      rintro e w5 ⟨rfl, e5⟩
      have E5 := E1.trans e5
      clear E1 e5
      go_wp2
      go_ret
      exact ⟨rfl, E5⟩
end Go.Proofs.YtfcgnhgocdoimaaDoor
