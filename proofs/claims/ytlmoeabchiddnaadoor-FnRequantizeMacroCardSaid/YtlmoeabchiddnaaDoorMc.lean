/- MacroValid: the program's. -/
import Derived.Test.YtlmoeabchiddnaaDoorMb
namespace Go.Proofs.YtlmoeabchiddnaaDoor
open Go.RowKit
set_option maxHeartbeats 400000
set_option maxRecDepth 100000 in
theorem impl_kindOf_0 (m : Mac) (w : World) (h : m.ok) (hk : m.kind = 0) :
    Calls Tryd.prog 86 #[.agg (ic m.zs)] w fun e w' => e = .returned (.iface 133 (.agg (ic m.zs))) ∧ Ext w w' := by
  have H := IB.new w 33 m.zs
  have h0 := H.cell (i := 0) (by rw [Mac.zs_len h]; omega)
  rw [Mac.zs_kind, hk] at h0
  have Hl := Lib.hid (Mac.zs_len h)
  clear hk
  go_enter Tryd.func86, Tryd.ntmps86
  go_wp2_with (refine wpList_iload 33 _ rfl rfl H 0 71 rfl _ Tryd.underlying33 rfl size_Macro (by rw [Hl.out]; omega) _ (by rw [sub_all _ _ Hl.out]) ?_)
  go_ret
  exact ⟨rfl, Ext.alloc _ _⟩
set_option maxRecDepth 100000 in
theorem impl_kindOf_1 (m : Mac) (w : World) (h : m.ok) (hk : m.kind = 1) :
    Calls Tryd.prog 86 #[.agg (ic m.zs)] w fun e w' => e = .returned (.iface 134 (.agg (ic m.zs))) ∧ Ext w w' := by
  have H := IB.new w 33 m.zs
  have h0 := H.cell (i := 0) (by rw [Mac.zs_len h]; omega)
  rw [Mac.zs_kind, hk] at h0
  have Hl := Lib.hid (Mac.zs_len h)
  clear hk
  go_enter Tryd.func86, Tryd.ntmps86
  go_wp2_with (refine wpList_iload 33 _ rfl rfl H 0 71 rfl _ Tryd.underlying33 rfl size_Macro (by rw [Hl.out]; omega) _ (by rw [sub_all _ _ Hl.out]) ?_)
  go_ret
  exact ⟨rfl, Ext.alloc _ _⟩
set_option maxRecDepth 100000 in
theorem impl_kindOf_2 (m : Mac) (w : World) (h : m.ok) (hk : m.kind = 2) :
    Calls Tryd.prog 86 #[.agg (ic m.zs)] w fun e w' => e = .returned (.iface 135 (.agg (ic m.zs))) ∧ Ext w w' := by
  have H := IB.new w 33 m.zs
  have h0 := H.cell (i := 0) (by rw [Mac.zs_len h]; omega)
  rw [Mac.zs_kind, hk] at h0
  have Hl := Lib.hid (Mac.zs_len h)
  clear hk
  go_enter Tryd.func86, Tryd.ntmps86
  go_wp2_with (refine wpList_iload 33 _ rfl rfl H 0 71 rfl _ Tryd.underlying33 rfl size_Macro (by rw [Hl.out]; omega) _ (by rw [sub_all _ _ Hl.out]) ?_)
  go_ret
  exact ⟨rfl, Ext.alloc _ _⟩
set_option maxRecDepth 100000 in
theorem impl_kindOf_no (m : Mac) (w : World) (h : m.ok) (hk : m.kind < 0 ∨ 2 < m.kind) :
    Calls Tryd.prog 86 #[.agg (ic m.zs)] w fun e w' => e = .returned .nilIface ∧ Ext w w' := by
  have H := IB.new w 33 m.zs
  have h0 := H.cell (i := 0) (by rw [Mac.zs_len h]; omega)
  rw [Mac.zs_kind] at h0
  have d0 : (m.kind == 0) = false := by simp; omega
  have d1 : (m.kind == 1) = false := by simp; omega
  have d2 : (m.kind == 2) = false := by simp; omega
  clear hk
  go_enter Tryd.func86, Tryd.ntmps86
  go_wp2
  go_ret
  exact ⟨rfl, Ext.alloc _ _⟩
set_option maxRecDepth 100000 in
theorem skipped_fits_any (m : Mac) (w : World) (h : m.ok) (r : Bool) (hr : decide (m.x = 0 ∧ m.y = 0 ∧ m.modes = zero4 ∧ m.lv = zero64) = r) :
    Calls Tryd.prog 164 #[.agg (ic m.zs)] w fun e w' => e = .returned (.bool r) ∧ Ext w w' := by
  have H := IB.new w 133 m.zs
  have Hl := Lib.hid (Mac.zs_len h)
  have Hm := Lib.hid h
  clear h
  by_cases h1 : m.x = 0 ∧ m.y = 0
  · have Hv := Lib.hid (vec_eq m.x m.y true (by simpa using h1))
    by_cases h2 : m.modes = zero4
    · have Hd2 := Lib.hid (show decide (m.modes = List.replicate 4 0) = true by simpa [zero4] using h2)
      by_cases h3 : m.lv = zero64
      · have Hd3 := Lib.hid (show decide (m.lv = List.replicate 64 0) = true by simpa [zero64] using h3)
        have hr2 : r = true := by rw [← hr]; simp [h1, h2, h3]
        subst hr2
        clear hr h1 h2 h3
        go_enter Tryd.func164, Tryd.ntmps164
        go_wp2_with (first | (refine wpList_iload 31 _ rfl rfl H 1 2 rfl _ Tryd.underlying31 rfl size_Vector (by rw [Hl.out]; omega) _ Mac.zs_mv ?_) | (refine wpList_iload 24 _ rfl rfl H 3 4 rfl _ Tryd.underlying24 rfl size_A4 (by rw [Hl.out]; omega) _ (by rw [Mac.zs_modes Hm.out]) ?_) | (refine wpList_iload 26 _ rfl rfl H 7 64 rfl _ Tryd.underlying26 rfl size_A16A4 (by rw [Hl.out]; omega) _ (by rw [Mac.zs_lv Hm.out]) ?_) | (refine wpList_izero 24 rfl rfl Tryd.underlying24 size_int 4 zero_A4 ?_) | (refine wpList_izero 26 rfl rfl Tryd.underlying26 size_A16 64 zero_A16A4 ?_) | (refine wpList_veql 31 _ _ _ rfl rfl _ _ rfl rfl _ Hv.out guard_Vector ?_) | (refine wpList_ieql 24 _ _ _ rfl rfl _ _ rfl rfl _ _ rfl rfl Tryd.underlying24 size_int eqE_int Hm.out.modes (by simp) guard_A4 _ Hd2.out ?_) | (refine wpList_ieql 26 _ _ _ rfl rfl _ _ rfl rfl _ _ rfl rfl Tryd.underlying26 size_A16 eqE_A16 Hm.out.lv (by simp) guard_A16A4 _ Hd3.out ?_))
        go_ret
        exact ⟨rfl, Ext.alloc _ _⟩
      · have Hd3 := Lib.hid (show decide (m.lv = List.replicate 64 0) = false by simpa [zero64] using h3)
        have hr2 : r = false := by rw [← hr]; simp [h3]
        subst hr2
        clear hr h1 h2 h3
        go_enter Tryd.func164, Tryd.ntmps164
        go_wp2_with (first | (refine wpList_iload 31 _ rfl rfl H 1 2 rfl _ Tryd.underlying31 rfl size_Vector (by rw [Hl.out]; omega) _ Mac.zs_mv ?_) | (refine wpList_iload 24 _ rfl rfl H 3 4 rfl _ Tryd.underlying24 rfl size_A4 (by rw [Hl.out]; omega) _ (by rw [Mac.zs_modes Hm.out]) ?_) | (refine wpList_iload 26 _ rfl rfl H 7 64 rfl _ Tryd.underlying26 rfl size_A16A4 (by rw [Hl.out]; omega) _ (by rw [Mac.zs_lv Hm.out]) ?_) | (refine wpList_izero 24 rfl rfl Tryd.underlying24 size_int 4 zero_A4 ?_) | (refine wpList_izero 26 rfl rfl Tryd.underlying26 size_A16 64 zero_A16A4 ?_) | (refine wpList_veql 31 _ _ _ rfl rfl _ _ rfl rfl _ Hv.out guard_Vector ?_) | (refine wpList_ieql 24 _ _ _ rfl rfl _ _ rfl rfl _ _ rfl rfl Tryd.underlying24 size_int eqE_int Hm.out.modes (by simp) guard_A4 _ Hd2.out ?_) | (refine wpList_ieql 26 _ _ _ rfl rfl _ _ rfl rfl _ _ rfl rfl Tryd.underlying26 size_A16 eqE_A16 Hm.out.lv (by simp) guard_A16A4 _ Hd3.out ?_))
        go_ret
        exact ⟨rfl, Ext.alloc _ _⟩
    · have Hd2 := Lib.hid (show decide (m.modes = List.replicate 4 0) = false by simpa [zero4] using h2)
      have hr2 : r = false := by rw [← hr]; simp [h2]
      subst hr2
      clear hr h1 h2
      go_enter Tryd.func164, Tryd.ntmps164
      go_wp2_with (first | (refine wpList_iload 31 _ rfl rfl H 1 2 rfl _ Tryd.underlying31 rfl size_Vector (by rw [Hl.out]; omega) _ Mac.zs_mv ?_) | (refine wpList_iload 24 _ rfl rfl H 3 4 rfl _ Tryd.underlying24 rfl size_A4 (by rw [Hl.out]; omega) _ (by rw [Mac.zs_modes Hm.out]) ?_) | (refine wpList_iload 26 _ rfl rfl H 7 64 rfl _ Tryd.underlying26 rfl size_A16A4 (by rw [Hl.out]; omega) _ (by rw [Mac.zs_lv Hm.out]) ?_) | (refine wpList_izero 24 rfl rfl Tryd.underlying24 size_int 4 zero_A4 ?_) | (refine wpList_izero 26 rfl rfl Tryd.underlying26 size_A16 64 zero_A16A4 ?_) | (refine wpList_veql 31 _ _ _ rfl rfl _ _ rfl rfl _ Hv.out guard_Vector ?_) | (refine wpList_ieql 24 _ _ _ rfl rfl _ _ rfl rfl _ _ rfl rfl Tryd.underlying24 size_int eqE_int Hm.out.modes (by simp) guard_A4 _ Hd2.out ?_))
      go_ret
      exact ⟨rfl, Ext.alloc _ _⟩
  · have Hv := Lib.hid (vec_eq m.x m.y false (by simpa using h1))
    have hr2 : r = false := by rw [← hr]; simp; intro a b; exact absurd ⟨a, b⟩ h1
    subst hr2
    clear hr h1
    go_enter Tryd.func164, Tryd.ntmps164
    go_wp2_with (first | (refine wpList_iload 31 _ rfl rfl H 1 2 rfl _ Tryd.underlying31 rfl size_Vector (by rw [Hl.out]; omega) _ Mac.zs_mv ?_) | (refine wpList_veql 31 _ _ _ rfl rfl _ _ rfl rfl _ Hv.out guard_Vector ?_))
    go_ret
    exact ⟨rfl, Ext.alloc _ _⟩
set_option maxRecDepth 100000 in
theorem inter_fits_any (m : Mac) (w : World) (h : m.ok) (r : Bool) (hr : decide (m.modes = zero4) = r) :
    Calls Tryd.prog 165 #[.agg (ic m.zs)] w fun e w' => e = .returned (.bool r) ∧ Ext w w' := by
  have H := IB.new w 134 m.zs
  have Hl := Lib.hid (Mac.zs_len h)
  have Hm := Lib.hid h
  have Hd2 := Lib.hid (show decide (m.modes = List.replicate 4 0) = r from hr)
  clear h hr
  go_enter Tryd.func165, Tryd.ntmps165
  go_wp2_with (first | (refine wpList_iload 24 _ rfl rfl H 3 4 rfl _ Tryd.underlying24 rfl size_A4 (by rw [Hl.out]; omega) _ (by rw [Mac.zs_modes Hm.out]) ?_) | (refine wpList_izero 24 rfl rfl Tryd.underlying24 size_int 4 zero_A4 ?_) | (refine wpList_ieql 24 _ _ _ rfl rfl _ _ rfl rfl _ _ rfl rfl Tryd.underlying24 size_int eqE_int Hm.out.modes (by simp) guard_A4 _ Hd2.out ?_))
  go_ret
  exact ⟨rfl, Ext.alloc _ _⟩
set_option maxRecDepth 100000 in
theorem intra_fits_yes (m : Mac) (w : World) (h : m.ok) (hj : ∀ j, j < 4 → 0 ≤ nth m.modes j ∧ nth m.modes j ≤ 4) (r : Bool) (hr : decide (m.x = 0 ∧ m.y = 0) = r) :
    Calls Tryd.prog 166 #[.agg (ic m.zs)] w fun e w' => e = .returned (.bool r) ∧ Ext w w' := by
  have H := IB.new w 135 m.zs
  have Hl := Lib.hid (Mac.zs_len h)
  have Hm := Lib.hid h
  have Hv := Lib.hid (vec_eq m.x m.y r hr)
  have Hj := Lib.hid hj
  clear h hr hj
  go_enter Tryd.func166, Tryd.ntmps166
  go_wp2_with (refine wpList_iload 24 _ rfl rfl H 3 4 rfl _ Tryd.underlying24 rfl size_A4 (by rw [Hl.out]; omega) _ (by rw [Mac.zs_modes Hm.out]) ?_)
  go_loopw [7] (fun i wr => ∃ k : Nat, k ≤ 4 ∧ i = .int .i64 k ∧ wr = w.alloc (.cells (ic m.zs) 135)) (fun i _ => 4 - (intOf i).toNat)
  case atStart => exact ⟨0, by omega, rfl, rfl⟩
  case round =>
    obtain ⟨k, hk, rfl, rfl⟩ := hrel
    by_cases hlt : k < 4
    · obtain ⟨h1, h2⟩ := Hj.out k hlt
      go_wp2_with (refine wpList_iindex _ _ _ rfl rfl m.modes rfl k 4 _ rfl rfl _ Tryd.underlying24 Tryd.underlying3 size_int hlt Hm.out.modes ?_)
      go_roundw
      case rel => exact ⟨k + 1, by omega, by go_num, by first | trivial | rfl⟩
      case measure => simp [intOf]; omega
    · obtain rfl : k = 4 := by omega
      go_wp2_with (first | (refine wpList_iload 31 _ rfl rfl H 1 2 rfl _ Tryd.underlying31 rfl size_Vector (by rw [Hl.out]; omega) _ Mac.zs_mv ?_) | (refine wpList_veql 31 _ _ _ rfl rfl _ _ rfl rfl _ Hv.out guard_Vector ?_))
      go_ret
      exact ⟨rfl, Ext.alloc _ _⟩
set_option maxRecDepth 100000 in
theorem intra_fits_no (m : Mac) (w : World) (h : m.ok) (hj : ¬ ∀ j, j < 4 → 0 ≤ nth m.modes j ∧ nth m.modes j ≤ 4) :
    Calls Tryd.prog 166 #[.agg (ic m.zs)] w fun e w' => e = .returned (.bool false) ∧ Ext w w' := by
  have H := IB.new w 135 m.zs
  have Hl := Lib.hid (Mac.zs_len h)
  have Hm := Lib.hid h
  have Hj := Lib.hid hj
  clear h hj
  go_enter Tryd.func166, Tryd.ntmps166
  go_wp2_with (refine wpList_iload 24 _ rfl rfl H 3 4 rfl _ Tryd.underlying24 rfl size_A4 (by rw [Hl.out]; omega) _ (by rw [Mac.zs_modes Hm.out]) ?_)
  go_loopw [7] (fun i wr => ∃ k : Nat, k ≤ 4 ∧ i = .int .i64 k ∧ wr = w.alloc (.cells (ic m.zs) 135) ∧ Hid (∀ j, j < k → 0 ≤ nth m.modes j ∧ nth m.modes j ≤ 4)) (fun i _ => 4 - (intOf i).toNat)
  case atStart => exact ⟨0, by omega, rfl, rfl, Lib.hid (fun j hj => by omega)⟩
  case round =>
    obtain ⟨k, hk, rfl, rfl, hall⟩ := hrel
    by_cases hlt : k < 4
    · by_cases h1 : nth m.modes k < 0
      · go_wp2_with (refine wpList_iindex _ _ _ rfl rfl m.modes rfl k 4 _ rfl rfl _ Tryd.underlying24 Tryd.underlying3 size_int hlt Hm.out.modes ?_)
        go_ret
        exact ⟨rfl, Ext.alloc _ _⟩
      · have hd1 : decide (nth m.modes k < 0) = false := by simpa using h1
        by_cases h2 : 4 < nth m.modes k
        · go_wp2_with (refine wpList_iindex _ _ _ rfl rfl m.modes rfl k 4 _ rfl rfl _ Tryd.underlying24 Tryd.underlying3 size_int hlt Hm.out.modes ?_)
          go_ret
          exact ⟨rfl, Ext.alloc _ _⟩
        · have hd2 : decide (4 < nth m.modes k) = false := by simpa using h2
          have hall2 := Lib.hid (show ∀ j, j < k + 1 → 0 ≤ nth m.modes j ∧ nth m.modes j ≤ 4 from fun j hj => by
            by_cases hjk : j = k
            · subst hjk; omega
            · exact hall.out j (by omega))
          go_wp2_with (refine wpList_iindex _ _ _ rfl rfl m.modes rfl k 4 _ rfl rfl _ Tryd.underlying24 Tryd.underlying3 size_int hlt Hm.out.modes ?_)
          go_roundw
          case rel => exact ⟨k + 1, by omega, by go_num, by first | trivial | rfl, hall2⟩
          case measure => simp [intOf]; omega
    · obtain rfl : k = 4 := by omega
      exact absurd hall.out Hj.out
end Go.Proofs.YtlmoeabchiddnaaDoor
