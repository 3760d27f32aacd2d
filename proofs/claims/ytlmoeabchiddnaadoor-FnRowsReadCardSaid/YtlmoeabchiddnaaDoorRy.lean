/- RowsRead: both, for all arguments. -/
import Derived.Test.YtlmoeabchiddnaaDoorRx
namespace Go.Proofs.YtlmoeabchiddnaaDoor
open Go.RowKit
set_option maxHeartbeats 400000
theorem sideValid_t (n : Int) (w : World) (h1 : 8 ≤ n) (h2 : n ≤ 32) (h3 : n % 8 = 0) :
    Calls Tryd.prog 58 #[.int .i64 n] w fun e w' => e = .returned (.bool true) ∧ w = w' := by
  have hd : (n % 8 == 0) = true := by simpa using h3
  clear h3
  go_enter Tryd.func58, Tryd.ntmps58
  go_wp2
  go_ret
  exact ⟨rfl, rfl⟩
theorem sideValid_f (n : Int) (w : World) (h : ¬ (8 ≤ n ∧ n ≤ 32 ∧ n % 8 = 0)) :
    Calls Tryd.prog 58 #[.int .i64 n] w fun e w' => e = .returned (.bool false) ∧ w = w' := by
  by_cases h1 : 8 ≤ n
  · by_cases h2 : n ≤ 32
    · have hd : (n % 8 == 0) = false := by simp; omega
      clear h
      go_enter Tryd.func58, Tryd.ntmps58
      go_wp2
      go_ret
      exact ⟨by first | rfl | (simp; done) | (simp; omega), rfl⟩
    · clear h
      go_enter Tryd.func58, Tryd.ntmps58
      go_wp2
      go_ret
      exact ⟨by first | rfl | (simp; done) | (simp; omega), rfl⟩
  · clear h
    go_enter Tryd.func58, Tryd.ntmps58
    go_wp2
    go_ret
    exact ⟨by first | rfl | (simp; done) | (simp; omega), rfl⟩
set_option maxRecDepth 100000 in
theorem spec_RowsRead_noM (m : Mac) (y h : Int) (w : World) (hm : m.ok) (hv : ¬ m.valid) :
    Calls Tryd.prog 11 #[.agg (ic m.zs), .int .i64 y, .int .i64 h] w fun e w' => ∃ v, e = .returned v ∧ w'.ownsRow w.heap.size 3 1 v 0 [] ∧ Ext w w' := by
  have H := IB.new w 33 m.zs
  have Hl := Lib.hid (Mac.zs_len hm)
  have Hm := Lib.hid hm
  have Hv := Lib.hid (decide_eq_false hv)
  clear hm hv
  go_enter Tryd.func11, Tryd.ntmps11
  go_wp2_with (refine wpList_iload 33 _ rfl rfl (H.alloc _) 0 71 rfl _ Tryd.underlying33 rfl size_Macro (by rw [Hl.out]; omega) _ (by rw [sub_all _ _ Hl.out]) ?_)
  have hown := World.ownsRow_made (base := w.heap.size) (e := 3) (size := 1) (w.alloc (.cells (ic m.zs) 33)) #[] 0 (by simp) (by simp) rfl
  simp only [World.size_alloc] at hown
  refine (spec_MacroValid_any m _ Hm.out).mono ?_
  rw [Hv.out]
  rintro e w1 ⟨rfl, e1⟩
  have own1 := owns_ext hown e1
  have E1 := ((Ext.alloc w (.cells (ic m.zs) 33)).trans (Ext.alloc _ (.cells #[] 3))).trans e1
  have H1 := (H.alloc (.cells #[] 3)).ext e1
  have k0 := H1.cell (i := 0) (by rw [Hl.out]; omega)
  rw [Mac.zs_kind] at k0
  clear H hown e1
  go_wp2
  go_ret
  exact ⟨_, rfl, own1, E1⟩
set_option maxRecDepth 100000 in
theorem spec_RowsRead_noH (m : Mac) (y h : Int) (w : World) (hm : m.ok) (hv : m.valid) (hh : h < 8 ∨ 32 < h) :
    Calls Tryd.prog 11 #[.agg (ic m.zs), .int .i64 y, .int .i64 h] w fun e w' => ∃ v, e = .returned v ∧ w'.ownsRow w.heap.size 3 1 v 0 [] ∧ Ext w w' := by
  have H := IB.new w 33 m.zs
  have Hl := Lib.hid (Mac.zs_len hm)
  have Hm := Lib.hid hm
  have Hv := Lib.hid (decide_eq_true hv)
  have Hn := Lib.hid hh
  clear hm hv hh
  go_enter Tryd.func11, Tryd.ntmps11
  go_wp2_with (refine wpList_iload 33 _ rfl rfl (H.alloc _) 0 71 rfl _ Tryd.underlying33 rfl size_Macro (by rw [Hl.out]; omega) _ (by rw [sub_all _ _ Hl.out]) ?_)
  have hown := World.ownsRow_made (base := w.heap.size) (e := 3) (size := 1) (w.alloc (.cells (ic m.zs) 33)) #[] 0 (by simp) (by simp) rfl
  simp only [World.size_alloc] at hown
  refine (spec_MacroValid_any m _ Hm.out).mono ?_
  rw [Hv.out]
  rintro e w1 ⟨rfl, e1⟩
  have own1 := owns_ext hown e1
  have E1 := ((Ext.alloc w (.cells (ic m.zs) 33)).trans (Ext.alloc _ (.cells #[] 3))).trans e1
  have H1 := (H.alloc (.cells #[] 3)).ext e1
  have k0 := H1.cell (i := 0) (by rw [Hl.out]; omega)
  rw [Mac.zs_kind] at k0
  clear H hown e1
  go_wp2_with fail
  refine (l1In_no _ _ _ _ Hn.out).mono ?_
  rintro e w2 ⟨rfl, rfl⟩
  go_wp2
  go_ret
  exact ⟨_, rfl, own1, E1⟩
set_option maxRecDepth 100000 in
theorem spec_RowsRead_noH8 (m : Mac) (y h : Int) (w : World) (hm : m.ok) (hv : m.valid) (h1 : 8 ≤ h) (h2 : h ≤ 32) (h3 : ¬ h % 8 = 0) :
    Calls Tryd.prog 11 #[.agg (ic m.zs), .int .i64 y, .int .i64 h] w fun e w' => ∃ v, e = .returned v ∧ w'.ownsRow w.heap.size 3 1 v 0 [] ∧ Ext w w' := by
  have H := IB.new w 33 m.zs
  have Hl := Lib.hid (Mac.zs_len hm)
  have Hm := Lib.hid hm
  have Hv := Lib.hid (decide_eq_true hv)
  have hd : (h % 8 != 0) = true := by simpa using h3
  clear hm hv h3
  go_enter Tryd.func11, Tryd.ntmps11
  go_wp2_with (refine wpList_iload 33 _ rfl rfl (H.alloc _) 0 71 rfl _ Tryd.underlying33 rfl size_Macro (by rw [Hl.out]; omega) _ (by rw [sub_all _ _ Hl.out]) ?_)
  have hown := World.ownsRow_made (base := w.heap.size) (e := 3) (size := 1) (w.alloc (.cells (ic m.zs) 33)) #[] 0 (by simp) (by simp) rfl
  simp only [World.size_alloc] at hown
  refine (spec_MacroValid_any m _ Hm.out).mono ?_
  rw [Hv.out]
  rintro e w1 ⟨rfl, e1⟩
  have own1 := owns_ext hown e1
  have E1 := ((Ext.alloc w (.cells (ic m.zs) 33)).trans (Ext.alloc _ (.cells #[] 3))).trans e1
  have H1 := (H.alloc (.cells #[] 3)).ext e1
  have k0 := H1.cell (i := 0) (by rw [Hl.out]; omega)
  rw [Mac.zs_kind] at k0
  clear H hown e1
  go_wp2_with fail
  refine (l1In_yes _ _ _ _ (by omega) (by omega)).mono ?_
  rintro e w2 ⟨rfl, rfl⟩
  go_wp2
  go_ret
  exact ⟨_, rfl, own1, E1⟩
set_option maxRecDepth 100000 in
theorem spec_RowsRead_noY (m : Mac) (y h : Int) (w : World) (hm : m.ok) (hv : m.valid) (h1 : 8 ≤ h) (h2 : h ≤ 32) (h3 : h % 8 = 0) (hh : y < 0 ∨ h - 8 < y) :
    Calls Tryd.prog 11 #[.agg (ic m.zs), .int .i64 y, .int .i64 h] w fun e w' => ∃ v, e = .returned v ∧ w'.ownsRow w.heap.size 3 1 v 0 [] ∧ Ext w w' := by
  have H := IB.new w 33 m.zs
  have Hl := Lib.hid (Mac.zs_len hm)
  have Hm := Lib.hid hm
  have Hv := Lib.hid (decide_eq_true hv)
  have hd : (h % 8 != 0) = false := by simpa using h3
  have Hn := Lib.hid hh
  clear hm hv h3 hh
  go_enter Tryd.func11, Tryd.ntmps11
  go_wp2_with (refine wpList_iload 33 _ rfl rfl (H.alloc _) 0 71 rfl _ Tryd.underlying33 rfl size_Macro (by rw [Hl.out]; omega) _ (by rw [sub_all _ _ Hl.out]) ?_)
  have hown := World.ownsRow_made (base := w.heap.size) (e := 3) (size := 1) (w.alloc (.cells (ic m.zs) 33)) #[] 0 (by simp) (by simp) rfl
  simp only [World.size_alloc] at hown
  refine (spec_MacroValid_any m _ Hm.out).mono ?_
  rw [Hv.out]
  rintro e w1 ⟨rfl, e1⟩
  have own1 := owns_ext hown e1
  have E1 := ((Ext.alloc w (.cells (ic m.zs) 33)).trans (Ext.alloc _ (.cells #[] 3))).trans e1
  have H1 := (H.alloc (.cells #[] 3)).ext e1
  have k0 := H1.cell (i := 0) (by rw [Hl.out]; omega)
  rw [Mac.zs_kind] at k0
  clear H hown e1
  go_wp2_with fail
  refine (l1In_yes _ _ _ _ (by omega) (by omega)).mono ?_
  rintro e w2 ⟨rfl, rfl⟩
  go_wp2_with fail
  refine (l1In_no _ _ _ _ Hn.out).mono ?_
  rintro e w2 ⟨rfl, rfl⟩
  go_wp2
  go_ret
  exact ⟨_, rfl, own1, E1⟩
set_option maxRecDepth 100000 in
theorem spec_RowsRead_noY8 (m : Mac) (y h : Int) (w : World) (hm : m.ok) (hv : m.valid) (h1 : 8 ≤ h) (h2 : h ≤ 32) (h3 : h % 8 = 0) (h4 : 0 ≤ y) (h5 : y ≤ h - 8) (h6 : ¬ y % 8 = 0) :
    Calls Tryd.prog 11 #[.agg (ic m.zs), .int .i64 y, .int .i64 h] w fun e w' => ∃ v, e = .returned v ∧ w'.ownsRow w.heap.size 3 1 v 0 [] ∧ Ext w w' := by
  have H := IB.new w 33 m.zs
  have Hl := Lib.hid (Mac.zs_len hm)
  have Hm := Lib.hid hm
  have Hv := Lib.hid (decide_eq_true hv)
  have hd : (h % 8 != 0) = false := by simpa using h3
  have hd2 : (y % 8 != 0) = true := by simpa using h6
  clear hm hv h3 h6
  go_enter Tryd.func11, Tryd.ntmps11
  go_wp2_with (refine wpList_iload 33 _ rfl rfl (H.alloc _) 0 71 rfl _ Tryd.underlying33 rfl size_Macro (by rw [Hl.out]; omega) _ (by rw [sub_all _ _ Hl.out]) ?_)
  have hown := World.ownsRow_made (base := w.heap.size) (e := 3) (size := 1) (w.alloc (.cells (ic m.zs) 33)) #[] 0 (by simp) (by simp) rfl
  simp only [World.size_alloc] at hown
  refine (spec_MacroValid_any m _ Hm.out).mono ?_
  rw [Hv.out]
  rintro e w1 ⟨rfl, e1⟩
  have own1 := owns_ext hown e1
  have E1 := ((Ext.alloc w (.cells (ic m.zs) 33)).trans (Ext.alloc _ (.cells #[] 3))).trans e1
  have H1 := (H.alloc (.cells #[] 3)).ext e1
  have k0 := H1.cell (i := 0) (by rw [Hl.out]; omega)
  rw [Mac.zs_kind] at k0
  clear H hown e1
  go_wp2_with fail
  refine (l1In_yes _ _ _ _ (by omega) (by omega)).mono ?_
  rintro e w2 ⟨rfl, rfl⟩
  go_wp2_with fail
  refine (l1In_yes _ _ _ _ (by omega) (by omega)).mono ?_
  rintro e w2 ⟨rfl, rfl⟩
  go_wp2
  go_ret
  exact ⟨_, rfl, own1, E1⟩
set_option maxRecDepth 100000 in
theorem spec_RowsRead_noK (m : Mac) (y h : Int) (w : World) (hm : m.ok) (hv : m.valid) (h1 : 8 ≤ h) (h2 : h ≤ 32) (h3 : h % 8 = 0) (h4 : 0 ≤ y) (h5 : y ≤ h - 8) (h6 : y % 8 = 0) (h7 : m.kind = 2) :
    Calls Tryd.prog 11 #[.agg (ic m.zs), .int .i64 y, .int .i64 h] w fun e w' => ∃ v, e = .returned v ∧ w'.ownsRow w.heap.size 3 1 v 0 [] ∧ Ext w w' := by
  have H := IB.new w 33 m.zs
  have Hl := Lib.hid (Mac.zs_len hm)
  have Hm := Lib.hid hm
  have Hv := Lib.hid (decide_eq_true hv)
  have hd : (h % 8 != 0) = false := by simpa using h3
  have hd2 : (y % 8 != 0) = false := by simpa using h6
  have hd3 : (m.kind == 2) = true := by simpa using h7
  clear hm hv h3 h6 h7
  go_enter Tryd.func11, Tryd.ntmps11
  go_wp2_with (refine wpList_iload 33 _ rfl rfl (H.alloc _) 0 71 rfl _ Tryd.underlying33 rfl size_Macro (by rw [Hl.out]; omega) _ (by rw [sub_all _ _ Hl.out]) ?_)
  have hown := World.ownsRow_made (base := w.heap.size) (e := 3) (size := 1) (w.alloc (.cells (ic m.zs) 33)) #[] 0 (by simp) (by simp) rfl
  simp only [World.size_alloc] at hown
  refine (spec_MacroValid_any m _ Hm.out).mono ?_
  rw [Hv.out]
  rintro e w1 ⟨rfl, e1⟩
  have own1 := owns_ext hown e1
  have E1 := ((Ext.alloc w (.cells (ic m.zs) 33)).trans (Ext.alloc _ (.cells #[] 3))).trans e1
  have H1 := (H.alloc (.cells #[] 3)).ext e1
  have k0 := H1.cell (i := 0) (by rw [Hl.out]; omega)
  rw [Mac.zs_kind] at k0
  clear H hown e1
  go_wp2_with fail
  refine (l1In_yes _ _ _ _ (by omega) (by omega)).mono ?_
  rintro e w2 ⟨rfl, rfl⟩
  go_wp2_with fail
  refine (l1In_yes _ _ _ _ (by omega) (by omega)).mono ?_
  rintro e w2 ⟨rfl, rfl⟩
  go_wp2
  go_ret
  exact ⟨_, rfl, own1, E1⟩
theorem spec_RowsRead_any (m : Mac) (y h : Int) (w : World) (hm : m.ok) :
    Calls Tryd.prog 11 #[.agg (ic m.zs), .int .i64 y, .int .i64 h] w fun e w' => ∃ v, e = .returned v ∧ w'.ownsRow w.heap.size 3 1 v (rowsL m y h).length ((rowsL m y h).map (Value.int .i64)) ∧ Ext w w' := by
  by_cases hc : m.valid ∧ placed y h ∧ m.kind ≠ 2
  · rw [show rowsL m y h = _ from if_pos hc]
    exact spec_RowsRead_yes m y h w hm hc.1 hc.2.1 hc.2.2
  · rw [show rowsL m y h = [] from if_neg hc]
    by_cases hv : m.valid
    · by_cases h1 : h < 8 ∨ 32 < h
      · exact spec_RowsRead_noH m y h w hm hv h1
      · by_cases h3 : h % 8 = 0
        · by_cases h4 : y < 0 ∨ h - 8 < y
          · exact spec_RowsRead_noY m y h w hm hv (by omega) (by omega) h3 h4
          · by_cases h6 : y % 8 = 0
            · have h7 : m.kind = 2 := Classical.byContradiction fun h7 => hc ⟨hv, ⟨by omega, h6, h3, by omega, by omega⟩, h7⟩
              exact spec_RowsRead_noK m y h w hm hv (by omega) (by omega) h3 (by omega) (by omega) h6 h7
            · exact spec_RowsRead_noY8 m y h w hm hv (by omega) (by omega) h3 (by omega) (by omega) h6
        · exact spec_RowsRead_noH8 m y h w hm hv (by omega) (by omega) h3
    · exact spec_RowsRead_noM m y h w hm hv
set_option maxRecDepth 100000 in
theorem impl_rowsRead_intra (m : Mac) (y h : Int) (w : World) (hm : m.ok) (hk : m.kind = 2) :
    Calls Tryd.prog 59 #[.agg (ic m.zs), .int .i64 y, .int .i64 h] w fun e w' => e = .returned (.int .u64 0) ∧ Ext w w' := by
  have H := IB.new w 33 m.zs
  have k0 := H.cell (i := 0) (by rw [Mac.zs_len hm]; omega)
  rw [Mac.zs_kind, hk] at k0
  clear hk
  go_enter Tryd.func59, Tryd.ntmps59
  go_wp2
  go_ret
  exact ⟨rfl, Ext.alloc _ _⟩
set_option maxRecDepth 100000 in
theorem list_none (w : World) : Calls Tryd.prog 60 #[.int .u64 0] w fun e w' => e = .returned (.slice none 0 0) ∧ w = w' := by
  go_enter Tryd.func60, Tryd.ntmps60
  go_wp2
  refine wp_loop_rounds 1 ?_
  rw [rounds_succ]
  go_wp2
  go_ret
  exact ⟨rfl, rfl⟩
set_option maxRecDepth 100000 in
theorem impl_RowsRead_noM (m : Mac) (y h : Int) (w : World) (hT : Tab w) (hm : m.ok) (hv : ¬ m.valid) :
    Calls Tryd.prog 13 #[.agg (ic m.zs), .int .i64 y, .int .i64 h] w fun e w' => ∃ v, e = .returned v ∧ w'.ownsRow w.heap.size 3 1 v (rowsL m y h).length ((rowsL m y h).map (Value.int .i64)) ∧ Ext w w' := by
  have H := IB.new w 33 m.zs
  have Hl := Lib.hid (Mac.zs_len hm)
  have Hm := Lib.hid hm
  have Hr := Lib.hid (show rowsL m y h = [] from if_neg (fun hc => hv hc.1))
  have Hv := Lib.hid (decide_eq_false hv)
  clear hm hv
  go_enter Tryd.func13, Tryd.ntmps13
  go_wp2_with (refine wpList_iload 33 _ rfl rfl H 0 71 rfl _ Tryd.underlying33 rfl size_Macro (by rw [Hl.out]; omega) _ (by rw [sub_all _ _ Hl.out]) ?_)
  refine (impl_MacroValid_any m _ Hm.out).mono ?_
  rw [Hv.out]
  rintro e w1 ⟨rfl, e1⟩
  have E1 := (Ext.alloc w (.cells (ic m.zs) 33)).trans e1
  have H1 := H.ext e1
  clear H e1
  go_wp2
  go_ret
  rw [Hr.out]
  exact ⟨_, rfl, World.ownsRow_nil _ _ _ _, E1⟩
set_option maxRecDepth 100000 in
theorem impl_RowsRead_noH (m : Mac) (y h : Int) (w : World) (hT : Tab w) (hm : m.ok) (hv : m.valid) (hh : ¬ (8 ≤ h ∧ h ≤ 32 ∧ h % 8 = 0)) :
    Calls Tryd.prog 13 #[.agg (ic m.zs), .int .i64 y, .int .i64 h] w fun e w' => ∃ v, e = .returned v ∧ w'.ownsRow w.heap.size 3 1 v (rowsL m y h).length ((rowsL m y h).map (Value.int .i64)) ∧ Ext w w' := by
  have H := IB.new w 33 m.zs
  have Hl := Lib.hid (Mac.zs_len hm)
  have Hm := Lib.hid hm
  have Hr := Lib.hid (show rowsL m y h = [] from if_neg (fun hc => hh ⟨by have := hc.2.1; unfold placed at this; omega, hc.2.1.2.2.2.1, hc.2.1.2.2.1⟩))
  have Hv := Lib.hid (decide_eq_true hv)
  have Hn := Lib.hid hh
  clear hm hv hh
  go_enter Tryd.func13, Tryd.ntmps13
  go_wp2_with (refine wpList_iload 33 _ rfl rfl H 0 71 rfl _ Tryd.underlying33 rfl size_Macro (by rw [Hl.out]; omega) _ (by rw [sub_all _ _ Hl.out]) ?_)
  refine (impl_MacroValid_any m _ Hm.out).mono ?_
  rw [Hv.out]
  rintro e w1 ⟨rfl, e1⟩
  have E1 := (Ext.alloc w (.cells (ic m.zs) 33)).trans e1
  have H1 := H.ext e1
  clear H e1
  go_wp2_with fail
  refine (sideValid_f _ _ Hn.out).mono ?_
  rintro e w2 ⟨rfl, rfl⟩
  go_wp2
  go_ret
  rw [Hr.out]
  exact ⟨_, rfl, World.ownsRow_nil _ _ _ _, E1⟩
set_option maxRecDepth 100000 in
theorem impl_RowsRead_noY0 (m : Mac) (y h : Int) (w : World) (hT : Tab w) (hm : m.ok) (hv : m.valid) (h1 : 8 ≤ h) (h2 : h ≤ 32) (h3 : h % 8 = 0) (hh : y < 0) :
    Calls Tryd.prog 13 #[.agg (ic m.zs), .int .i64 y, .int .i64 h] w fun e w' => ∃ v, e = .returned v ∧ w'.ownsRow w.heap.size 3 1 v (rowsL m y h).length ((rowsL m y h).map (Value.int .i64)) ∧ Ext w w' := by
  have H := IB.new w 33 m.zs
  have Hl := Lib.hid (Mac.zs_len hm)
  have Hm := Lib.hid hm
  have Hr := Lib.hid (show rowsL m y h = [] from if_neg (fun hc => by have := hc.2.1.1; omega))
  have Hv := Lib.hid (decide_eq_true hv)
  have H3 := Lib.hid h3
  clear hm hv h3
  go_enter Tryd.func13, Tryd.ntmps13
  go_wp2_with (refine wpList_iload 33 _ rfl rfl H 0 71 rfl _ Tryd.underlying33 rfl size_Macro (by rw [Hl.out]; omega) _ (by rw [sub_all _ _ Hl.out]) ?_)
  refine (impl_MacroValid_any m _ Hm.out).mono ?_
  rw [Hv.out]
  rintro e w1 ⟨rfl, e1⟩
  have E1 := (Ext.alloc w (.cells (ic m.zs) 33)).trans e1
  have H1 := H.ext e1
  clear H e1
  go_wp2_with fail
  refine (sideValid_t _ _ h1 h2 H3.out).mono ?_
  rintro e w2 ⟨rfl, rfl⟩
  go_wp2
  go_ret
  rw [Hr.out]
  exact ⟨_, rfl, World.ownsRow_nil _ _ _ _, E1⟩
set_option maxRecDepth 100000 in
theorem impl_RowsRead_noY1 (m : Mac) (y h : Int) (w : World) (hT : Tab w) (hm : m.ok) (hv : m.valid) (h1 : 8 ≤ h) (h2 : h ≤ 32) (h3 : h % 8 = 0) (h4 : 0 ≤ y) (hh : h ≤ y) :
    Calls Tryd.prog 13 #[.agg (ic m.zs), .int .i64 y, .int .i64 h] w fun e w' => ∃ v, e = .returned v ∧ w'.ownsRow w.heap.size 3 1 v (rowsL m y h).length ((rowsL m y h).map (Value.int .i64)) ∧ Ext w w' := by
  have H := IB.new w 33 m.zs
  have Hl := Lib.hid (Mac.zs_len hm)
  have Hm := Lib.hid hm
  have Hr := Lib.hid (show rowsL m y h = [] from if_neg (fun hc => by have := hc.2.1.2.2.2.2; omega))
  have Hv := Lib.hid (decide_eq_true hv)
  have H3 := Lib.hid h3
  clear hm hv h3
  go_enter Tryd.func13, Tryd.ntmps13
  go_wp2_with (refine wpList_iload 33 _ rfl rfl H 0 71 rfl _ Tryd.underlying33 rfl size_Macro (by rw [Hl.out]; omega) _ (by rw [sub_all _ _ Hl.out]) ?_)
  refine (impl_MacroValid_any m _ Hm.out).mono ?_
  rw [Hv.out]
  rintro e w1 ⟨rfl, e1⟩
  have E1 := (Ext.alloc w (.cells (ic m.zs) 33)).trans e1
  have H1 := H.ext e1
  clear H e1
  go_wp2_with fail
  refine (sideValid_t _ _ h1 h2 H3.out).mono ?_
  rintro e w2 ⟨rfl, rfl⟩
  go_wp2
  go_ret
  rw [Hr.out]
  exact ⟨_, rfl, World.ownsRow_nil _ _ _ _, E1⟩
set_option maxRecDepth 100000 in
theorem impl_RowsRead_noY8 (m : Mac) (y h : Int) (w : World) (hT : Tab w) (hm : m.ok) (hv : m.valid) (h1 : 8 ≤ h) (h2 : h ≤ 32) (h3 : h % 8 = 0) (h4 : 0 ≤ y) (h5 : y < h) (h6 : ¬ y % 8 = 0) :
    Calls Tryd.prog 13 #[.agg (ic m.zs), .int .i64 y, .int .i64 h] w fun e w' => ∃ v, e = .returned v ∧ w'.ownsRow w.heap.size 3 1 v (rowsL m y h).length ((rowsL m y h).map (Value.int .i64)) ∧ Ext w w' := by
  have H := IB.new w 33 m.zs
  have Hl := Lib.hid (Mac.zs_len hm)
  have Hm := Lib.hid hm
  have Hr := Lib.hid (show rowsL m y h = [] from if_neg (fun hc => h6 hc.2.1.2.1))
  have Hv := Lib.hid (decide_eq_true hv)
  have H3 := Lib.hid h3
  have hd2 : (y % 8 != 0) = true := by simpa using h6
  clear hm hv h3 h6
  go_enter Tryd.func13, Tryd.ntmps13
  go_wp2_with (refine wpList_iload 33 _ rfl rfl H 0 71 rfl _ Tryd.underlying33 rfl size_Macro (by rw [Hl.out]; omega) _ (by rw [sub_all _ _ Hl.out]) ?_)
  refine (impl_MacroValid_any m _ Hm.out).mono ?_
  rw [Hv.out]
  rintro e w1 ⟨rfl, e1⟩
  have E1 := (Ext.alloc w (.cells (ic m.zs) 33)).trans e1
  have H1 := H.ext e1
  clear H e1
  go_wp2_with fail
  refine (sideValid_t _ _ h1 h2 H3.out).mono ?_
  rintro e w2 ⟨rfl, rfl⟩
  go_wp2
  go_ret
  rw [Hr.out]
  exact ⟨_, rfl, World.ownsRow_nil _ _ _ _, E1⟩
set_option maxRecDepth 100000 in
theorem impl_RowsRead_noK (m : Mac) (y h : Int) (w : World) (hT : Tab w) (hm : m.ok) (hv : m.valid) (h1 : 8 ≤ h) (h2 : h ≤ 32) (h3 : h % 8 = 0) (h4 : 0 ≤ y) (h5 : y < h) (h6 : y % 8 = 0) (h7 : m.kind = 2) :
    Calls Tryd.prog 13 #[.agg (ic m.zs), .int .i64 y, .int .i64 h] w fun e w' => ∃ v, e = .returned v ∧ w'.ownsRow w.heap.size 3 1 v (rowsL m y h).length ((rowsL m y h).map (Value.int .i64)) ∧ Ext w w' := by
  have H := IB.new w 33 m.zs
  have Hl := Lib.hid (Mac.zs_len hm)
  have Hm := Lib.hid hm
  have Hr := Lib.hid (show rowsL m y h = [] from if_neg (fun hc => hc.2.2 h7))
  have Hv := Lib.hid (decide_eq_true hv)
  have H3 := Lib.hid h3
  have hd2 : (y % 8 != 0) = false := by simpa using h6
  have H7 := Lib.hid h7
  clear hm hv h3 h6 h7
  go_enter Tryd.func13, Tryd.ntmps13
  go_wp2_with (refine wpList_iload 33 _ rfl rfl H 0 71 rfl _ Tryd.underlying33 rfl size_Macro (by rw [Hl.out]; omega) _ (by rw [sub_all _ _ Hl.out]) ?_)
  refine (impl_MacroValid_any m _ Hm.out).mono ?_
  rw [Hv.out]
  rintro e w1 ⟨rfl, e1⟩
  have E1 := (Ext.alloc w (.cells (ic m.zs) 33)).trans e1
  have H1 := H.ext e1
  clear H e1
  go_wp2_with fail
  refine (sideValid_t _ _ h1 h2 H3.out).mono ?_
  rintro e w2 ⟨rfl, rfl⟩
  go_wp2_with (refine wpList_iload 33 _ rfl rfl H1 0 71 rfl _ Tryd.underlying33 rfl size_Macro (by rw [Hl.out]; omega) _ (by rw [sub_all _ _ Hl.out]) ?_)
  refine (impl_rowsRead_intra m y h _ Hm.out H7.out).mono ?_
  rintro e w3 ⟨rfl, e3⟩
  have E3 := E1.trans e3
  go_wp2_with fail
  refine (list_none _).mono ?_
  rintro e w4 ⟨rfl, rfl⟩
  go_wp2
  go_ret
  rw [Hr.out]
  exact ⟨_, rfl, World.ownsRow_nil _ _ _ _, E3⟩
set_option maxRecDepth 100000 in
theorem impl_RowsRead_yes (m : Mac) (y h : Int) (w : World) (hT : Tab w) (hm : m.ok) (hv : m.valid) (h1 : 8 ≤ h) (h2 : h ≤ 32) (h3 : h % 8 = 0) (h4 : 0 ≤ y) (h5 : y < h) (h6 : y % 8 = 0) (h7 : m.kind ≠ 2) :
    Calls Tryd.prog 13 #[.agg (ic m.zs), .int .i64 y, .int .i64 h] w fun e w' => ∃ v, e = .returned v ∧ w'.ownsRow w.heap.size 3 1 v (rowsL m y h).length ((rowsL m y h).map (Value.int .i64)) ∧ Ext w w' := by
  have H := IB.new w 33 m.zs
  have Hl := Lib.hid (Mac.zs_len hm)
  have Hm := Lib.hid hm
  have hp : placed y h := ⟨h4, h6, h3, h2, by omega⟩
  have Hp := Lib.hid hp
  have Hr := Lib.hid (show rowsL m y h = _ from if_pos ⟨hv, hp, h7⟩)
  have Hvv := Lib.hid hv
  have Hv := Lib.hid (decide_eq_true hv)
  have H3 := Lib.hid h3
  have hd2 : (y % 8 != 0) = false := by simpa using h6
  have H7 := Lib.hid h7
  clear hm hv h3 h6 h7 hp
  go_enter Tryd.func13, Tryd.ntmps13
  go_wp2_with (refine wpList_iload 33 _ rfl rfl H 0 71 rfl _ Tryd.underlying33 rfl size_Macro (by rw [Hl.out]; omega) _ (by rw [sub_all _ _ Hl.out]) ?_)
  refine (impl_MacroValid_any m _ Hm.out).mono ?_
  rw [Hv.out]
  rintro e w1 ⟨rfl, e1⟩
  have E1 := (Ext.alloc w (.cells (ic m.zs) 33)).trans e1
  have H1 := H.ext e1
  clear H e1
  go_wp2_with fail
  refine (sideValid_t _ _ h1 h2 H3.out).mono ?_
  rintro e w2 ⟨rfl, rfl⟩
  go_wp2_with (refine wpList_iload 33 _ rfl rfl H1 0 71 rfl _ Tryd.underlying33 rfl size_Macro (by rw [Hl.out]; omega) _ (by rw [sub_all _ _ Hl.out]) ?_)
  refine (impl_rowsRead_any m y h _ Hm.out Hvv.out Hp.out H7.out).mono ?_
  rintro e w3 ⟨rfl, e3⟩
  have E3 := E1.trans e3
  go_wp2_with fail
  refine (list_any _ _ _ (hT.ext E3) (rowAt_mono (by omega)) (rowAt_le h1 h2)).mono ?_
  rintro e w4 ⟨v, rfl, own, e4⟩
  go_wp2
  go_ret
  rw [Hr.out]
  exact ⟨_, rfl, owns_mono own E3.size, E3.trans e4⟩
theorem impl_RowsRead_any (m : Mac) (y h : Int) (w : World) (hT : Tab w) (hm : m.ok) :
    Calls Tryd.prog 13 #[.agg (ic m.zs), .int .i64 y, .int .i64 h] w fun e w' => ∃ v, e = .returned v ∧ w'.ownsRow w.heap.size 3 1 v (rowsL m y h).length ((rowsL m y h).map (Value.int .i64)) ∧ Ext w w' := by
  by_cases hv : m.valid
  · by_cases h1 : 8 ≤ h ∧ h ≤ 32 ∧ h % 8 = 0
    · by_cases h4 : y < 0
      · exact impl_RowsRead_noY0 m y h w hT hm hv h1.1 h1.2.1 h1.2.2 h4
      · by_cases h5 : h ≤ y
        · exact impl_RowsRead_noY1 m y h w hT hm hv h1.1 h1.2.1 h1.2.2 (by omega) h5
        · by_cases h6 : y % 8 = 0
          · by_cases h7 : m.kind = 2
            · exact impl_RowsRead_noK m y h w hT hm hv h1.1 h1.2.1 h1.2.2 (by omega) (by omega) h6 h7
            · exact impl_RowsRead_yes m y h w hT hm hv h1.1 h1.2.1 h1.2.2 (by omega) (by omega) h6 h7
          · exact impl_RowsRead_noY8 m y h w hT hm hv h1.1 h1.2.1 h1.2.2 (by omega) (by omega) h6
    · exact impl_RowsRead_noH m y h w hT hm hv h1
  · exact impl_RowsRead_noM m y h w hT hm hv
end Go.Proofs.YtlmoeabchiddnaaDoor
