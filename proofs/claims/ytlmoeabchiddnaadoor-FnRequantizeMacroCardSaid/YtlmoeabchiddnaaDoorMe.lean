/- MacroValid: the reference's. -/
import Derived.Test.YtlmoeabchiddnaaDoorMb
namespace Go.Proofs.YtlmoeabchiddnaaDoor
open Go.RowKit
set_option maxHeartbeats 400000
theorem spec_VectorValid_yes (x y : Int) (w : World) (h : vv x y) :
    Calls Tryd.prog 83 #[.agg #[.int .i64 x, .int .i64 y]] w fun e w' => e = .returned (.bool true) ∧ Ext w w' := by
  obtain ⟨h1, h2, h3, h4⟩ := h
  go_enter Tryd.func83, Tryd.ntmps83
  go_wp2_with fail
  refine (l1In_yes _ _ _ _ h1 h2).mono ?_
  rintro e w1 ⟨rfl, rfl⟩
  go_wp2_with fail
  refine (l1In_yes _ _ _ _ h3 h4).mono ?_
  rintro e w1 ⟨rfl, rfl⟩
  go_wp2
  go_ret
  exact ⟨rfl, Ext.alloc _ _⟩
theorem spec_VectorValid_no (x y : Int) (w : World) (h : ¬ vv x y) :
    Calls Tryd.prog 83 #[.agg #[.int .i64 x, .int .i64 y]] w fun e w' => e = .returned (.bool false) ∧ Ext w w' := by
  unfold vv at h
  by_cases h1 : -16 ≤ x ∧ x ≤ 16
  · have h2 := Lib.hid (show y < -16 ∨ 16 < y by omega)
    clear h
    go_enter Tryd.func83, Tryd.ntmps83
    go_wp2_with fail
    refine (l1In_yes _ _ _ _ h1.1 h1.2).mono ?_
    rintro e w1 ⟨rfl, rfl⟩
    go_wp2_with fail
    refine (l1In_no _ _ _ _ h2.out).mono ?_
    rintro e w1 ⟨rfl, rfl⟩
    go_wp2
    go_ret
    exact ⟨rfl, Ext.alloc _ _⟩
  · have h2 := Lib.hid (show x < -16 ∨ 16 < x by omega)
    clear h h1
    go_enter Tryd.func83, Tryd.ntmps83
    go_wp2_with fail
    refine (l1In_no _ _ _ _ h2.out).mono ?_
    rintro e w1 ⟨rfl, rfl⟩
    go_wp2
    go_ret
    exact ⟨rfl, Ext.alloc _ _⟩
set_option maxRecDepth 100000 in
theorem spec_l3Ok_any (zs : List Int) (B : Int) (w : World) (hl : zs.length = 16) (hB : 0 ≤ B) (hB2 : B ≤ 1099511627776) :
    Calls Tryd.prog 84 #[.agg (ic zs), .int .i64 B] w fun e w' => e = .returned (.bool (inB B zs)) ∧ Ext w w' := by
  have H := IB.new w 25 zs
  have Hl := Lib.hid hl
  clear hl
  go_enter Tryd.func84, Tryd.ntmps84
  go_wp2
  go_loopw [5] (fun i wr => ∃ k : Nat, k ≤ 16 ∧ i = .int .i64 k ∧ Ext w wr ∧ IB wr w.heap.size 25 zs ∧ Hid (∀ j, j < k → -B ≤ nth zs j ∧ nth zs j ≤ B)) (fun i _ => 16 - (intOf i).toNat)
  case atStart => exact ⟨0, by omega, rfl, Ext.alloc _ _, H, Lib.hid (fun j hj => by omega)⟩
  case round =>
    obtain ⟨k, hk, rfl, E2, H2, hall⟩ := hrel
    clear H
    by_cases hlt : k < 16
    · have hc := H2.cell (i := k) (by rw [Hl.out]; exact hlt)
      by_cases h1 : -B ≤ nth zs k ∧ nth zs k ≤ B
      · have hall2 := Lib.hid (show ∀ j, j < k + 1 → -B ≤ nth zs j ∧ nth zs j ≤ B from fun j hj => by
          by_cases hjk : j = k
          · subst hjk; exact h1
          · exact hall.out j (by omega))
        go_wp2_with fail
        refine (l1In_yes _ _ _ _ h1.1 h1.2).mono ?_
        rintro e w1 ⟨rfl, rfl⟩
        clear h1
        go_wp2
        go_roundw
        case rel => exact ⟨k + 1, by omega, by go_num, E2, H2, hall2⟩
        case measure => simp [intOf]; omega
      · have hno := Lib.hid (inB_no (B := B) (j := k) (by rw [Hl.out]; exact hlt) (by omega))
        have h2 := Lib.hid (show nth zs k < -B ∨ B < nth zs k by omega)
        clear h1
        go_wp2_with fail
        refine (l1In_no _ _ _ _ h2.out).mono ?_
        rintro e w1 ⟨rfl, rfl⟩
        go_wp2
        go_ret
        exact ⟨(ret_bool hno.out).symm, E2⟩
    · obtain rfl : k = 16 := by omega
      have hy := Lib.hid (inB_yes (B := B) (zs := zs) (by rw [Hl.out]; exact hall.out))
      go_wp2
      go_ret
      exact ⟨(ret_bool hy.out).symm, E2⟩
set_option maxRecDepth 100000 in
set_option maxHeartbeats 2000000 in
theorem spec_MacroValid_any (m : Mac) (w : World) (h : m.ok) :
    Calls Tryd.prog 36 #[.agg (ic m.zs)] w fun e w' => e = .returned (.bool (decide m.valid)) ∧ Ext w w' := by
  have H := IB.new w 33 m.zs
  have Hl := Lib.hid (Mac.zs_len h)
  have Hm := Lib.hid h
  have hkc := H.cell (i := 0) (by rw [Hl.out]; omega)
  rw [Mac.zs_kind] at hkc
  clear h
  by_cases hk : 0 ≤ m.kind ∧ m.kind ≤ 2
  · have Hk := Lib.hid hk
    by_cases hv : vv m.x m.y
    · have Hvv := Lib.hid hv
      clear hk hv
      go_enter Tryd.func36, Tryd.ntmps36
      go_wp2_with fail
      refine (l1In_yes _ _ _ _ Hk.out.1 Hk.out.2).mono ?_
      rintro e w1 ⟨rfl, rfl⟩
      go_wp2_with (refine wpList_iload 31 _ rfl rfl H 1 2 rfl _ Tryd.underlying31 rfl size_Vector (by rw [Hl.out]; omega) _ Mac.zs_mv ?_)
      refine (spec_VectorValid_yes m.x m.y _ Hvv.out).mono ?_
      rintro e w2 ⟨rfl, e2⟩
      have H2 := H.ext e2
      have E2 := (Ext.alloc w (.cells (ic m.zs) 33)).trans e2
      clear H e2 hkc
      go_wp2_with fail
      go_loopw [3] (fun i wr => ∃ k : Nat, k ≤ 4 ∧ i = .int .i64 k ∧ Ext w wr ∧ IB wr w.heap.size 33 m.zs ∧ Hid (∀ j, j < k → (0 ≤ nth m.modes j ∧ nth m.modes j ≤ 4) ∧ inB 4080 (sub m.lv (j * 16) 16) = true)) (fun i _ => 4 - (intOf i).toNat)
      case atStart => exact ⟨0, by omega, rfl, E2, H2, Lib.hid (fun j hj => by omega)⟩
      case round =>
        obtain ⟨k, hk, rfl, E4, H4, hall⟩ := hrel
        clear H2 E2
        by_cases hlt : k < 4
        · have hmc := H4.cell (i := 3 + k) (by rw [Hl.out]; omega)
          rw [Mac.nth_mode Hm.out k hlt] at hmc
          by_cases h1 : 0 ≤ nth m.modes k ∧ nth m.modes k ≤ 4
          · have hbl := sub_len m.lv (k * 16) 16 (by rw [Hm.out.lv]; omega)
            have Hbl := Lib.hid hbl
            have Hsb := Lib.hid (Mac.zs_blk Hm.out k hlt)
            clear hbl
            go_wp2_with fail
            refine (l1In_yes _ _ _ _ h1.1 h1.2).mono ?_
            rintro e w5 ⟨rfl, rfl⟩
            have H1 := Lib.hid h1
            clear h1 hmc
            go_wp2_with (refine wpList_iload 25 _ rfl rfl H4 (7 + k * 16) 16 rfl _ Tryd.underlying25 rfl size_A16 (by rw [Hl.out]; omega) _ (by rw [Hsb.out]) ?_)
            refine (spec_l3Ok_any _ 4080 _ Hbl.out (by omega) (by omega)).mono ?_
            rintro e w6 ⟨rfl, e6⟩
            have E6 := E4.trans e6
            have H6 := H4.ext e6
            clear E4 H4 e6
            cases hb : inB 4080 (sub m.lv (k * 16) 16)
            · have hr := Lib.hid (show decide m.valid = false from decide_eq_false (fun h => by
                have := (inB_blocks Hm.out.lv).1 h.2.2.2.2.2.2 k hlt
                rw [hb] at this; cases this))
              clear hb
              go_wp2
              go_ret
              exact ⟨(ret_bool hr.out).symm, E6⟩
            · have hall2 := Lib.hid (show ∀ j, j < k + 1 → (0 ≤ nth m.modes j ∧ nth m.modes j ≤ 4) ∧ inB 4080 (sub m.lv (j * 16) 16) = true from fun j hj => by
                by_cases hjk : j = k
                · subst hjk; exact ⟨H1.out, hb⟩
                · exact hall.out j (by omega))
              clear hb
              go_wp2
              go_roundw
              case rel => exact ⟨k + 1, by omega, by go_num, E6, H6, hall2⟩
              case measure => simp [intOf]; omega
          · have h2 := Lib.hid (show nth m.modes k < 0 ∨ 4 < nth m.modes k by omega)
            have hr := Lib.hid (show decide m.valid = false from decide_eq_false (fun h => h1 (by
              by_cases hk2 : m.kind = 2
              · exact h.2.2.2.2.1 hk2 k hlt
              · rw [h.2.2.2.1 hk2, nth_zero4 hlt]; omega)))
            clear h1
            go_wp2_with fail
            refine (l1In_no _ _ _ _ h2.out).mono ?_
            rintro e w5 ⟨rfl, rfl⟩
            go_wp2
            go_ret
            exact ⟨(ret_bool hr.out).symm, E4⟩
        · obtain rfl : k = 4 := by omega
          have hLv : inB 4080 m.lv = true := (inB_blocks Hm.out.lv).2 (fun k hk => (hall.out k hk).2)
          have hMo : ∀ j, j < 4 → 0 ≤ nth m.modes j ∧ nth m.modes j ≤ 4 := fun j hj => (hall.out j hj).1
          obtain hk0 | hk1 | hk2 : m.kind = 0 ∨ m.kind = 1 ∨ m.kind = 2 := by have := Hk.out; omega
          · have k0 := H4.cell (i := 0) (by rw [Hl.out]; omega)
            rw [Mac.zs_kind, hk0] at k0
            by_cases hxy : m.x = 0 ∧ m.y = 0
            · by_cases hmo : m.modes = zero4
              · by_cases hlz : m.lv = zero64
                · have Hv := Lib.hid (vec_eq m.x m.y true (by simpa using hxy))
                  have Hd2 := Lib.hid (show decide (m.modes = List.replicate 4 0) = true by simpa [zero4] using hmo)
                  have Hd3 := Lib.hid (show decide (m.lv = List.replicate 64 0) = true by simpa [zero64] using hlz)
                  have hr := Lib.hid (show decide m.valid = true from decide_eq_true ⟨Hk.out, Hvv.out, fun _ => hxy, fun _ => hmo, fun h => (by omega), fun _ => hlz, hLv⟩)
                  clear hxy hmo hlz hk0 hall hLv hMo
                  go_wp2_with (first | go_skip | (refine wpList_iload 31 _ rfl rfl H4 1 2 rfl _ Tryd.underlying31 rfl size_Vector (by rw [Hl.out]; omega) _ Mac.zs_mv ?_) | (refine wpList_iload 24 _ rfl rfl H4 3 4 rfl _ Tryd.underlying24 rfl size_A4 (by rw [Hl.out]; omega) _ (by rw [Mac.zs_modes Hm.out]) ?_) | (refine wpList_iload 26 _ rfl rfl H4 7 64 rfl _ Tryd.underlying26 rfl size_A16A4 (by rw [Hl.out]; omega) _ (by rw [Mac.zs_lv Hm.out]) ?_) | (refine wpList_izero 24 rfl rfl Tryd.underlying24 size_int 4 zero_A4 ?_) | (refine wpList_izero 26 rfl rfl Tryd.underlying26 size_A16 64 zero_A16A4 ?_) | (refine wpList_vneq 31 _ _ _ rfl rfl _ _ rfl rfl _ Hv.out guard_Vector ?_) | (refine wpList_ineq 24 _ _ _ rfl rfl _ _ rfl rfl _ _ rfl rfl Tryd.underlying24 size_int eqE_int Hm.out.modes (by simp) guard_A4 _ Hd2.out ?_) | (refine wpList_ieql 26 _ _ _ rfl rfl _ _ rfl rfl _ _ rfl rfl Tryd.underlying26 size_A16 eqE_A16 Hm.out.lv (by simp) guard_A16A4 _ Hd3.out ?_))
                  go_ret
                  exact ⟨(ret_bool hr.out).symm, E4⟩
                · have Hv := Lib.hid (vec_eq m.x m.y true (by simpa using hxy))
                  have Hd2 := Lib.hid (show decide (m.modes = List.replicate 4 0) = true by simpa [zero4] using hmo)
                  have Hd3 := Lib.hid (show decide (m.lv = List.replicate 64 0) = false by simpa [zero64] using hlz)
                  have hr := Lib.hid (show decide m.valid = false from decide_eq_false (fun h => hlz (h.2.2.2.2.2.1 hk0)))
                  clear hxy hmo hlz hk0 hall hLv hMo
                  go_wp2_with (first | go_skip | (refine wpList_iload 31 _ rfl rfl H4 1 2 rfl _ Tryd.underlying31 rfl size_Vector (by rw [Hl.out]; omega) _ Mac.zs_mv ?_) | (refine wpList_iload 24 _ rfl rfl H4 3 4 rfl _ Tryd.underlying24 rfl size_A4 (by rw [Hl.out]; omega) _ (by rw [Mac.zs_modes Hm.out]) ?_) | (refine wpList_iload 26 _ rfl rfl H4 7 64 rfl _ Tryd.underlying26 rfl size_A16A4 (by rw [Hl.out]; omega) _ (by rw [Mac.zs_lv Hm.out]) ?_) | (refine wpList_izero 24 rfl rfl Tryd.underlying24 size_int 4 zero_A4 ?_) | (refine wpList_izero 26 rfl rfl Tryd.underlying26 size_A16 64 zero_A16A4 ?_) | (refine wpList_vneq 31 _ _ _ rfl rfl _ _ rfl rfl _ Hv.out guard_Vector ?_) | (refine wpList_ineq 24 _ _ _ rfl rfl _ _ rfl rfl _ _ rfl rfl Tryd.underlying24 size_int eqE_int Hm.out.modes (by simp) guard_A4 _ Hd2.out ?_) | (refine wpList_ieql 26 _ _ _ rfl rfl _ _ rfl rfl _ _ rfl rfl Tryd.underlying26 size_A16 eqE_A16 Hm.out.lv (by simp) guard_A16A4 _ Hd3.out ?_))
                  go_ret
                  exact ⟨(ret_bool hr.out).symm, E4⟩
              · have Hv := Lib.hid (vec_eq m.x m.y true (by simpa using hxy))
                have Hd2 := Lib.hid (show decide (m.modes = List.replicate 4 0) = false by simpa [zero4] using hmo)
                have hr := Lib.hid (show decide m.valid = false from decide_eq_false (fun h => hmo (h.2.2.2.1 (by omega))))
                clear hxy hmo hk0 hall hLv hMo
                go_wp2_with (first | go_skip | (refine wpList_iload 31 _ rfl rfl H4 1 2 rfl _ Tryd.underlying31 rfl size_Vector (by rw [Hl.out]; omega) _ Mac.zs_mv ?_) | (refine wpList_iload 24 _ rfl rfl H4 3 4 rfl _ Tryd.underlying24 rfl size_A4 (by rw [Hl.out]; omega) _ (by rw [Mac.zs_modes Hm.out]) ?_) | (refine wpList_izero 24 rfl rfl Tryd.underlying24 size_int 4 zero_A4 ?_) | (refine wpList_vneq 31 _ _ _ rfl rfl _ _ rfl rfl _ Hv.out guard_Vector ?_) | (refine wpList_ineq 24 _ _ _ rfl rfl _ _ rfl rfl _ _ rfl rfl Tryd.underlying24 size_int eqE_int Hm.out.modes (by simp) guard_A4 _ Hd2.out ?_))
                go_ret
                exact ⟨(ret_bool hr.out).symm, E4⟩
            · have Hv := Lib.hid (vec_eq m.x m.y false (by simpa using hxy))
              have hr := Lib.hid (show decide m.valid = false from decide_eq_false (fun h => hxy (h.2.2.1 (by omega))))
              clear hxy hk0 hall hLv hMo
              go_wp2_with (first | go_skip | (refine wpList_iload 31 _ rfl rfl H4 1 2 rfl _ Tryd.underlying31 rfl size_Vector (by rw [Hl.out]; omega) _ Mac.zs_mv ?_) | (refine wpList_vneq 31 _ _ _ rfl rfl _ _ rfl rfl _ Hv.out guard_Vector ?_))
              go_ret
              exact ⟨(ret_bool hr.out).symm, E4⟩
          · have k0 := H4.cell (i := 0) (by rw [Hl.out]; omega)
            rw [Mac.zs_kind, hk1] at k0
            by_cases hmo : m.modes = zero4
            · have Hd2 := Lib.hid (show decide (m.modes = List.replicate 4 0) = true by simpa [zero4] using hmo)
              have hr := Lib.hid (show decide m.valid = true from decide_eq_true ⟨Hk.out, Hvv.out, fun h => absurd hk1 h, fun _ => hmo, fun h => (by omega), fun h => (by omega), hLv⟩)
              clear hmo hk1 hall hLv hMo
              go_wp2_with (first | go_skip | (refine wpList_iload 24 _ rfl rfl H4 3 4 rfl _ Tryd.underlying24 rfl size_A4 (by rw [Hl.out]; omega) _ (by rw [Mac.zs_modes Hm.out]) ?_) | (refine wpList_izero 24 rfl rfl Tryd.underlying24 size_int 4 zero_A4 ?_) | (refine wpList_ineq 24 _ _ _ rfl rfl _ _ rfl rfl _ _ rfl rfl Tryd.underlying24 size_int eqE_int Hm.out.modes (by simp) guard_A4 _ Hd2.out ?_))
              go_ret
              exact ⟨(ret_bool hr.out).symm, E4⟩
            · have Hd2 := Lib.hid (show decide (m.modes = List.replicate 4 0) = false by simpa [zero4] using hmo)
              have hr := Lib.hid (show decide m.valid = false from decide_eq_false (fun h => hmo (h.2.2.2.1 (by omega))))
              clear hmo hk1 hall hLv hMo
              go_wp2_with (first | go_skip | (refine wpList_iload 24 _ rfl rfl H4 3 4 rfl _ Tryd.underlying24 rfl size_A4 (by rw [Hl.out]; omega) _ (by rw [Mac.zs_modes Hm.out]) ?_) | (refine wpList_izero 24 rfl rfl Tryd.underlying24 size_int 4 zero_A4 ?_) | (refine wpList_ineq 24 _ _ _ rfl rfl _ _ rfl rfl _ _ rfl rfl Tryd.underlying24 size_int eqE_int Hm.out.modes (by simp) guard_A4 _ Hd2.out ?_))
              go_ret
              exact ⟨(ret_bool hr.out).symm, E4⟩
          · have k0 := H4.cell (i := 0) (by rw [Hl.out]; omega)
            rw [Mac.zs_kind, hk2] at k0
            by_cases hxy : m.x = 0 ∧ m.y = 0
            · have Hv := Lib.hid (vec_eq m.x m.y true (by simpa using hxy))
              have hr := Lib.hid (show decide m.valid = true from decide_eq_true ⟨Hk.out, Hvv.out, fun _ => hxy, fun h => absurd hk2 h, fun _ => hMo, fun h => (by omega), hLv⟩)
              clear hxy hk2 hall hLv hMo
              go_wp2_with (first | go_skip | (refine wpList_iload 31 _ rfl rfl H4 1 2 rfl _ Tryd.underlying31 rfl size_Vector (by rw [Hl.out]; omega) _ Mac.zs_mv ?_) | (refine wpList_vneq 31 _ _ _ rfl rfl _ _ rfl rfl _ Hv.out guard_Vector ?_))
              go_ret
              exact ⟨(ret_bool hr.out).symm, E4⟩
            · have Hv := Lib.hid (vec_eq m.x m.y false (by simpa using hxy))
              have hr := Lib.hid (show decide m.valid = false from decide_eq_false (fun h => hxy (h.2.2.1 (by omega))))
              clear hxy hk2 hall hLv hMo
              go_wp2_with (first | go_skip | (refine wpList_iload 31 _ rfl rfl H4 1 2 rfl _ Tryd.underlying31 rfl size_Vector (by rw [Hl.out]; omega) _ Mac.zs_mv ?_) | (refine wpList_vneq 31 _ _ _ rfl rfl _ _ rfl rfl _ Hv.out guard_Vector ?_))
              go_ret
              exact ⟨(ret_bool hr.out).symm, E4⟩
    · have hr := Lib.hid (show decide m.valid = false from decide_eq_false (fun h => hv h.2.1))
      clear hk
      go_enter Tryd.func36, Tryd.ntmps36
      go_wp2_with fail
      refine (l1In_yes _ _ _ _ Hk.out.1 Hk.out.2).mono ?_
      rintro e w1 ⟨rfl, rfl⟩
      go_wp2_with (refine wpList_iload 31 _ rfl rfl H 1 2 rfl _ Tryd.underlying31 rfl size_Vector (by rw [Hl.out]; omega) _ Mac.zs_mv ?_)
      refine (spec_VectorValid_no m.x m.y _ hv).mono ?_
      rintro e w2 ⟨rfl, e2⟩
      clear hv hkc H
      go_wp2
      go_ret
      exact ⟨(ret_bool hr.out).symm, (Ext.alloc _ _).trans e2⟩
  · have hr := Lib.hid (show decide m.valid = false from decide_eq_false (fun h => hk h.1))
    have h2 := Lib.hid (show m.kind < 0 ∨ 2 < m.kind by omega)
    clear hk
    go_enter Tryd.func36, Tryd.ntmps36
    go_wp2_with fail
    refine (l1In_no _ _ _ _ h2.out).mono ?_
    rintro e w1 ⟨rfl, rfl⟩
    go_wp2
    go_ret
    exact ⟨(ret_bool hr.out).symm, Ext.alloc _ _⟩
end Go.Proofs.YtlmoeabchiddnaaDoor
