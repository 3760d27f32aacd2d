/- MacroValid: the program's. | MacroValid: the program's answer. -/
import Derived.Test.YtbnhaegidfbgbaaDoorQd14
namespace Go.Proofs.YtbnhaegidfbgbaaDoor
open Go.RowKit
set_option maxHeartbeats 400000
set_option maxRecDepth 100000 in
theorem impl_kindOf_0 (m : Mac) (w : World) (h : m.ok) (hk : m.kind = 0) :
 Calls Tryd.prog 57 #[.agg (ic m.zs)] w fun e w' => e = .returned (.iface 115 (.agg (ic m.zs))) ∧ Ext w w' := by
 have H := IB.new w 34 m.zs
 have h0 := H.cell (i := 0) (by rw [Mac.zs_len h]; omega)
 rw [Mac.zs_kind, hk] at h0
 have Hl := Lib.hid (Mac.zs_len h)
 clear hk
 go_enter Tryd.func57, Tryd.ntmps57
 go_wp2_with (refine wpList_iload 34 _ rfl rfl H 0 71 rfl _ Tryd.underlying34 rfl size_Macro (by rw [Hl.out]; omega) _ (by rw [sub_all _ _ Hl.out]) ?_)
 go_ret
 exact ⟨rfl, Ext.alloc _ _⟩
set_option maxRecDepth 100000 in
theorem impl_kindOf_1 (m : Mac) (w : World) (h : m.ok) (hk : m.kind = 1) :
 Calls Tryd.prog 57 #[.agg (ic m.zs)] w fun e w' => e = .returned (.iface 116 (.agg (ic m.zs))) ∧ Ext w w' := by
 have H := IB.new w 34 m.zs
 have h0 := H.cell (i := 0) (by rw [Mac.zs_len h]; omega)
 rw [Mac.zs_kind, hk] at h0
 have Hl := Lib.hid (Mac.zs_len h)
 clear hk
 go_enter Tryd.func57, Tryd.ntmps57
 go_wp2_with (refine wpList_iload 34 _ rfl rfl H 0 71 rfl _ Tryd.underlying34 rfl size_Macro (by rw [Hl.out]; omega) _ (by rw [sub_all _ _ Hl.out]) ?_)
 go_ret
 exact ⟨rfl, Ext.alloc _ _⟩
set_option maxRecDepth 100000 in
theorem impl_kindOf_2 (m : Mac) (w : World) (h : m.ok) (hk : m.kind = 2) :
 Calls Tryd.prog 57 #[.agg (ic m.zs)] w fun e w' => e = .returned (.iface 117 (.agg (ic m.zs))) ∧ Ext w w' := by
 have H := IB.new w 34 m.zs
 have h0 := H.cell (i := 0) (by rw [Mac.zs_len h]; omega)
 rw [Mac.zs_kind, hk] at h0
 have Hl := Lib.hid (Mac.zs_len h)
 clear hk
 go_enter Tryd.func57, Tryd.ntmps57
 go_wp2_with (refine wpList_iload 34 _ rfl rfl H 0 71 rfl _ Tryd.underlying34 rfl size_Macro (by rw [Hl.out]; omega) _ (by rw [sub_all _ _ Hl.out]) ?_)
 go_ret
 exact ⟨rfl, Ext.alloc _ _⟩
set_option maxRecDepth 100000 in
theorem impl_kindOf_no (m : Mac) (w : World) (h : m.ok) (hk : m.kind < 0 ∨ 2 < m.kind) :
 Calls Tryd.prog 57 #[.agg (ic m.zs)] w fun e w' => e = .returned .nilIface ∧ Ext w w' := by
 have H := IB.new w 34 m.zs
 have h0 := H.cell (i := 0) (by rw [Mac.zs_len h]; omega)
 rw [Mac.zs_kind] at h0
 have d0 : (m.kind == 0) = false := by simp; omega
 have d1 : (m.kind == 1) = false := by simp; omega
 have d2 : (m.kind == 2) = false := by simp; omega
 clear hk
 go_enter Tryd.func57, Tryd.ntmps57
 go_wp2
 go_ret
 exact ⟨rfl, Ext.alloc _ _⟩
set_option maxRecDepth 100000 in
theorem skipped_fits_any (m : Mac) (w : World) (h : m.ok) (r : Bool) (hr : decide (m.x = 0 ∧ m.y = 0 ∧ m.modes = zero4 ∧ m.lv = zero64) = r) :
 Calls Tryd.prog 172 #[.agg (ic m.zs)] w fun e w' => e = .returned (.bool r) ∧ Ext w w' := by
 have H := IB.new w 115 m.zs
 have Hl := Lib.hid (Mac.zs_len h)
 have Hm := Lib.hid h
 clear h
 by_cases h1 : m.x = 0 ∧ m.y = 0
 ·have Hv := Lib.hid (vec_eq m.x m.y true (by simpa using h1))
  by_cases h2 : m.modes = zero4
  ·have Hd2 := Lib.hid (show decide (m.modes = List.replicate 4 0) = true by simpa [zero4] using h2)
   by_cases h3 : m.lv = zero64
   ·have Hd3 := Lib.hid (show decide (m.lv = List.replicate 64 0) = true by simpa [zero64] using h3)
    have hr2 : r = true := by rw [← hr]; simp [h1, h2, h3]
    subst hr2
    clear hr h1 h2 h3
    go_enter Tryd.func172, Tryd.ntmps172
    go_wp2_with (first | (refine wpList_iload 27 _ rfl rfl H 1 2 rfl _ Tryd.underlying27 rfl size_Vector (by rw [Hl.out]; omega) _ Mac.zs_mv ?_) | (refine wpList_iload 30 _ rfl rfl H 3 4 rfl _ Tryd.underlying30 rfl size_A4 (by rw [Hl.out]; omega) _ (by rw [Mac.zs_modes Hm.out]) ?_) | (refine wpList_iload 32 _ rfl rfl H 7 64 rfl _ Tryd.underlying32 rfl size_A16A4 (by rw [Hl.out]; omega) _ (by rw [Mac.zs_lv Hm.out]) ?_) | (refine wpList_izero 30 rfl rfl Tryd.underlying30 size_int 4 zero_A4 ?_) | (refine wpList_izero 32 rfl rfl Tryd.underlying32 size_A16 64 zero_A16A4 ?_) | (refine wpList_veql 27 _ _ _ rfl rfl _ _ rfl rfl _ Hv.out guard_Vector ?_) | (refine wpList_ieql 30 _ _ _ rfl rfl _ _ rfl rfl _ _ rfl rfl Tryd.underlying30 size_int eqE_int Hm.out.modes (by simp) guard_A4 _ Hd2.out ?_) | (refine wpList_ieql 32 _ _ _ rfl rfl _ _ rfl rfl _ _ rfl rfl Tryd.underlying32 size_A16 eqE_A16 Hm.out.lv (by simp) guard_A16A4 _ Hd3.out ?_))
    go_ret
    exact ⟨rfl, Ext.alloc _ _⟩
   ·have Hd3 := Lib.hid (show decide (m.lv = List.replicate 64 0) = false by simpa [zero64] using h3)
    have hr2 : r = false := by rw [← hr]; simp [h3]
    subst hr2
    clear hr h1 h2 h3
    go_enter Tryd.func172, Tryd.ntmps172
    go_wp2_with (first | (refine wpList_iload 27 _ rfl rfl H 1 2 rfl _ Tryd.underlying27 rfl size_Vector (by rw [Hl.out]; omega) _ Mac.zs_mv ?_) | (refine wpList_iload 30 _ rfl rfl H 3 4 rfl _ Tryd.underlying30 rfl size_A4 (by rw [Hl.out]; omega) _ (by rw [Mac.zs_modes Hm.out]) ?_) | (refine wpList_iload 32 _ rfl rfl H 7 64 rfl _ Tryd.underlying32 rfl size_A16A4 (by rw [Hl.out]; omega) _ (by rw [Mac.zs_lv Hm.out]) ?_) | (refine wpList_izero 30 rfl rfl Tryd.underlying30 size_int 4 zero_A4 ?_) | (refine wpList_izero 32 rfl rfl Tryd.underlying32 size_A16 64 zero_A16A4 ?_) | (refine wpList_veql 27 _ _ _ rfl rfl _ _ rfl rfl _ Hv.out guard_Vector ?_) | (refine wpList_ieql 30 _ _ _ rfl rfl _ _ rfl rfl _ _ rfl rfl Tryd.underlying30 size_int eqE_int Hm.out.modes (by simp) guard_A4 _ Hd2.out ?_) | (refine wpList_ieql 32 _ _ _ rfl rfl _ _ rfl rfl _ _ rfl rfl Tryd.underlying32 size_A16 eqE_A16 Hm.out.lv (by simp) guard_A16A4 _ Hd3.out ?_))
    go_ret
    exact ⟨rfl, Ext.alloc _ _⟩
  ·have Hd2 := Lib.hid (show decide (m.modes = List.replicate 4 0) = false by simpa [zero4] using h2)
   have hr2 : r = false := by rw [← hr]; simp [h2]
   subst hr2
   clear hr h1 h2
   go_enter Tryd.func172, Tryd.ntmps172
   go_wp2_with (first | (refine wpList_iload 27 _ rfl rfl H 1 2 rfl _ Tryd.underlying27 rfl size_Vector (by rw [Hl.out]; omega) _ Mac.zs_mv ?_) | (refine wpList_iload 30 _ rfl rfl H 3 4 rfl _ Tryd.underlying30 rfl size_A4 (by rw [Hl.out]; omega) _ (by rw [Mac.zs_modes Hm.out]) ?_) | (refine wpList_iload 32 _ rfl rfl H 7 64 rfl _ Tryd.underlying32 rfl size_A16A4 (by rw [Hl.out]; omega) _ (by rw [Mac.zs_lv Hm.out]) ?_) | (refine wpList_izero 30 rfl rfl Tryd.underlying30 size_int 4 zero_A4 ?_) | (refine wpList_izero 32 rfl rfl Tryd.underlying32 size_A16 64 zero_A16A4 ?_) | (refine wpList_veql 27 _ _ _ rfl rfl _ _ rfl rfl _ Hv.out guard_Vector ?_) | (refine wpList_ieql 30 _ _ _ rfl rfl _ _ rfl rfl _ _ rfl rfl Tryd.underlying30 size_int eqE_int Hm.out.modes (by simp) guard_A4 _ Hd2.out ?_))
   go_ret
   exact ⟨rfl, Ext.alloc _ _⟩
 ·have Hv := Lib.hid (vec_eq m.x m.y false (by simpa using h1))
  have hr2 : r = false := by rw [← hr]; simp; intro a b; exact absurd ⟨a, b⟩ h1
  subst hr2
  clear hr h1
  go_enter Tryd.func172, Tryd.ntmps172
  go_wp2_with (first | (refine wpList_iload 27 _ rfl rfl H 1 2 rfl _ Tryd.underlying27 rfl size_Vector (by rw [Hl.out]; omega) _ Mac.zs_mv ?_) | (refine wpList_veql 27 _ _ _ rfl rfl _ _ rfl rfl _ Hv.out guard_Vector ?_))
  go_ret
  exact ⟨rfl, Ext.alloc _ _⟩
set_option maxRecDepth 100000 in
theorem inter_fits_any (m : Mac) (w : World) (h : m.ok) (r : Bool) (hr : decide (m.modes = zero4) = r) :
 Calls Tryd.prog 173 #[.agg (ic m.zs)] w fun e w' => e = .returned (.bool r) ∧ Ext w w' := by
 have H := IB.new w 116 m.zs
 have Hl := Lib.hid (Mac.zs_len h)
 have Hm := Lib.hid h
 have Hd2 := Lib.hid (show decide (m.modes = List.replicate 4 0) = r from hr)
 clear h hr
 go_enter Tryd.func173, Tryd.ntmps173
 go_wp2_with (first | (refine wpList_iload 30 _ rfl rfl H 3 4 rfl _ Tryd.underlying30 rfl size_A4 (by rw [Hl.out]; omega) _ (by rw [Mac.zs_modes Hm.out]) ?_) | (refine wpList_izero 30 rfl rfl Tryd.underlying30 size_int 4 zero_A4 ?_) | (refine wpList_ieql 30 _ _ _ rfl rfl _ _ rfl rfl _ _ rfl rfl Tryd.underlying30 size_int eqE_int Hm.out.modes (by simp) guard_A4 _ Hd2.out ?_))
 go_ret
 exact ⟨rfl, Ext.alloc _ _⟩
set_option maxRecDepth 100000 in
theorem intra_fits_yes (m : Mac) (w : World) (h : m.ok) (hj : ∀ j, j < 4 → 0 ≤ nth m.modes j ∧ nth m.modes j ≤ 4) (r : Bool) (hr : decide (m.x = 0 ∧ m.y = 0) = r) :
 Calls Tryd.prog 174 #[.agg (ic m.zs)] w fun e w' => e = .returned (.bool r) ∧ Ext w w' := by
 have H := IB.new w 117 m.zs
 have Hl := Lib.hid (Mac.zs_len h)
 have Hm := Lib.hid h
 have Hv := Lib.hid (vec_eq m.x m.y r hr)
 have Hj := Lib.hid hj
 clear h hr hj
 go_enter Tryd.func174, Tryd.ntmps174
 go_wp2_with (refine wpList_iload 30 _ rfl rfl H 3 4 rfl _ Tryd.underlying30 rfl size_A4 (by rw [Hl.out]; omega) _ (by rw [Mac.zs_modes Hm.out]) ?_)
 go_loopw [7] (fun i wr => ∃ k : Nat, k ≤ 4 ∧ i = .int .i64 k ∧ wr = w.alloc (.cells (ic m.zs) 117)) (fun i _ => 4 - (intOf i).toNat)
 case atStart => exact ⟨0, by omega, rfl, rfl⟩
 case round =>
  obtain ⟨k, hk, rfl, rfl⟩ := hrel
  by_cases hlt : k < 4
  ·obtain ⟨h1, h2⟩ := Hj.out k hlt
   go_wp2_with (refine wpList_iindex _ _ _ rfl rfl m.modes rfl k 4 _ rfl rfl _ Tryd.underlying30 Tryd.underlying3 size_int hlt Hm.out.modes ?_)
   go_roundw
   case rel => exact ⟨k + 1, by omega, by go_num, by first | trivial | rfl⟩
   case measure => simp [intOf]; omega
  ·obtain rfl : k = 4 := by omega
   go_wp2_with (first | (refine wpList_iload 27 _ rfl rfl H 1 2 rfl _ Tryd.underlying27 rfl size_Vector (by rw [Hl.out]; omega) _ Mac.zs_mv ?_) | (refine wpList_veql 27 _ _ _ rfl rfl _ _ rfl rfl _ Hv.out guard_Vector ?_))
   go_ret
   exact ⟨rfl, Ext.alloc _ _⟩
set_option maxRecDepth 100000 in
theorem intra_fits_no (m : Mac) (w : World) (h : m.ok) (hj : ¬ ∀ j, j < 4 → 0 ≤ nth m.modes j ∧ nth m.modes j ≤ 4) :
 Calls Tryd.prog 174 #[.agg (ic m.zs)] w fun e w' => e = .returned (.bool false) ∧ Ext w w' := by
 have H := IB.new w 117 m.zs
 have Hl := Lib.hid (Mac.zs_len h)
 have Hm := Lib.hid h
 have Hj := Lib.hid hj
 clear h hj
 go_enter Tryd.func174, Tryd.ntmps174
 go_wp2_with (refine wpList_iload 30 _ rfl rfl H 3 4 rfl _ Tryd.underlying30 rfl size_A4 (by rw [Hl.out]; omega) _ (by rw [Mac.zs_modes Hm.out]) ?_)
 go_loopw [7] (fun i wr => ∃ k : Nat, k ≤ 4 ∧ i = .int .i64 k ∧ wr = w.alloc (.cells (ic m.zs) 117) ∧ Hid (∀ j, j < k → 0 ≤ nth m.modes j ∧ nth m.modes j ≤ 4)) (fun i _ => 4 - (intOf i).toNat)
 case atStart => exact ⟨0, by omega, rfl, rfl, Lib.hid (fun j hj => by omega)⟩
 case round =>
  obtain ⟨k, hk, rfl, rfl, hall⟩ := hrel
  by_cases hlt : k < 4
  ·by_cases h1 : nth m.modes k < 0
   ·go_wp2_with (refine wpList_iindex _ _ _ rfl rfl m.modes rfl k 4 _ rfl rfl _ Tryd.underlying30 Tryd.underlying3 size_int hlt Hm.out.modes ?_)
    go_ret
    exact ⟨rfl, Ext.alloc _ _⟩
   ·have hd1 : decide (nth m.modes k < 0) = false := by simpa using h1
    by_cases h2 : 4 < nth m.modes k
    ·go_wp2_with (refine wpList_iindex _ _ _ rfl rfl m.modes rfl k 4 _ rfl rfl _ Tryd.underlying30 Tryd.underlying3 size_int hlt Hm.out.modes ?_)
     go_ret
     exact ⟨rfl, Ext.alloc _ _⟩
    ·have hd2 : decide (4 < nth m.modes k) = false := by simpa using h2
     have hall2 := Lib.hid (show ∀ j, j < k + 1 → 0 ≤ nth m.modes j ∧ nth m.modes j ≤ 4 from fun j hj => by
      by_cases hjk : j = k
      ·subst hjk; omega
      ·exact hall.out j (by omega))
     go_wp2_with (refine wpList_iindex _ _ _ rfl rfl m.modes rfl k 4 _ rfl rfl _ Tryd.underlying30 Tryd.underlying3 size_int hlt Hm.out.modes ?_)
     go_roundw
     case rel => exact ⟨k + 1, by omega, by go_num, by first | trivial | rfl, hall2⟩
     case measure => simp [intOf]; omega
  ·obtain rfl : k = 4 := by omega
   exact absurd hall.out Hj.out
end Go.Proofs.YtbnhaegidfbgbaaDoor
namespace Go.Proofs.YtbnhaegidfbgbaaDoor
open Go.RowKit
set_option maxHeartbeats 400000
theorem fits_0 (cs : Array Value) (w : World) : (method 279 115 (.agg cs) "loop.example/videocodec/impl.fits").run Tryd.prog w = .ok (172, .agg cs) w := by kernel_rfl
theorem fits_1 (cs : Array Value) (w : World) : (method 279 116 (.agg cs) "loop.example/videocodec/impl.fits").run Tryd.prog w = .ok (173, .agg cs) w := by kernel_rfl
theorem fits_2 (cs : Array Value) (w : World) : (method 279 117 (.agg cs) "loop.example/videocodec/impl.fits").run Tryd.prog w = .ok (174, .agg cs) w := by kernel_rfl
set_option maxRecDepth 100000 in
set_option maxHeartbeats 1000000 in
theorem impl_MacroValid_lv0 (m : Mac) (w : World) (h : m.ok) (hk : m.kind = 0) (hv : vv m.x m.y) (hf : m.modes = zero4 ∧ m.lv = zero64) (hxy : m.x = 0 ∧ m.y = 0) (r : Bool) (hno : ∀ k, k < 4 → inB 4080 (sub m.lv (k * 16) 16) = false → r = false) (hyes : (∀ k, k < 4 → inB 4080 (sub m.lv (k * 16) 16) = true) → r = true) :
 Calls Tryd.prog 14 #[.agg (ic m.zs)] w fun e w' => e = .returned (.bool r) ∧ Ext w w' := by
 have H := IB.new w 34 m.zs
 have Hl := Lib.hid (Mac.zs_len h)
 have Hm := Lib.hid h
 have Hk := Lib.hid hk
 have HNO := Lib.hid hno
 have HYES := Lib.hid hyes
 have Hfit := Lib.hid (show decide (m.x = 0 ∧ m.y = 0 ∧ m.modes = zero4 ∧ m.lv = zero64) = true by simp [hf, hxy])
 have hmf := fits_0
 clear h hk hno hyes hf hxy
 go_enter Tryd.func14, Tryd.ntmps14
 go_wp2_with (refine wpList_iload 34 _ rfl rfl H 0 71 rfl _ Tryd.underlying34 rfl size_Macro (by rw [Hl.out]; omega) _ (by rw [sub_all _ _ Hl.out]) ?_)
 refine (impl_kindOf_0 m _ Hm.out Hk.out).mono ?_
 rintro e w1 ⟨rfl, e1⟩
 have H1 := H.ext e1
 have E1 := (Ext.alloc w (.cells (ic m.zs) 34)).trans e1
 clear H e1
 go_wp2_with (first | (refine wpList_iload 27 _ rfl rfl H1 1 2 rfl _ Tryd.underlying27 rfl size_Vector (by rw [Hl.out]; omega) _ Mac.zs_mv ?_))
 refine (impl_VectorValid_yes m.x m.y _ hv).mono ?_
 rintro e w2 ⟨rfl, e2⟩
 have H2 := H1.ext e2
 have E2 := E1.trans e2
 clear H1 E1 e2 hv
 go_wp2_with fail
 refine (skipped_fits_any m _ Hm.out true Hfit.out).mono ?_
 rintro e w3 ⟨rfl, e3⟩
 have H3 := H2.ext e3
 have E3 := E2.trans e3
 clear H2 E2 e3 hmf
 go_wp2_with (refine wpList_iload 32 _ rfl rfl H3 7 64 rfl _ Tryd.underlying32 rfl size_A16A4 (by rw [Hl.out]; omega) _ (by rw [Mac.zs_lv Hm.out]) ?_)
 go_loopw [23] (fun i wr => ∃ k : Nat, k ≤ 4 ∧ i = .int .i64 k ∧ Ext w wr ∧ Hid (∀ j, j < k → inB 4080 (sub m.lv (j * 16) 16) = true)) (fun i _ => 4 - (intOf i).toNat)
 case atStart => exact ⟨0, by omega, rfl, E3, Lib.hid (fun j hj => by omega)⟩
 case round =>
  obtain ⟨k, hk, rfl, E4, hall⟩ := hrel
  clear H3 E3
  by_cases hlt : k < 4
  ·have hbl := sub_len m.lv (k * 16) 16 (by rw [Hm.out.lv]; omega)
   have Hbl := Lib.hid hbl
   have p0 := IB.new wr 31 (List.replicate 16 0)
   have Hsa := Lib.hid (sub_all _ 16 hbl)
   clear hbl
   go_wp2_with (first | (refine wpList_iindexa _ _ _ rfl rfl m.lv rfl k 4 16 _ rfl rfl _ _ Tryd.underlying32 Tryd.underlying31 rfl size_A16 hlt ?_) | (refine wpList_istore _ _ _ rfl rfl p0 0 16 rfl _ rfl _ rfl size_A16 Hbl.out (by simp) ?_; intro w6 p6 g6; refine Hid.out ?_))
   rw [spl_all (by rw [Hbl.out]; rfl)] at p6
   have E6 : Ext w w6 := Ext.grown (E4.trans (Ext.alloc _ _)) g6 (fun q hq => by cases hq; exact E4.size)
   clear g6 p0 E4
   refine Lib.hid ?_
   go_wp2_with (refine wpList_iload 31 _ rfl rfl p6 0 16 rfl _ Tryd.underlying31 rfl size_A16 (by rw [Hbl.out]; omega) _ (by rw [Hsa.out]) ?_)
   refine (impl_blockWithin_any _ 4080 _ Hbl.out (by omega) (by omega)).mono ?_
   rintro e w5 ⟨rfl, e5⟩
   have E5 := E6.trans e5
   clear E6 e5 p6
   cases hb : inB 4080 (sub m.lv (k * 16) 16)
   ·have hres := Lib.hid (HNO.out k hlt hb)
    clear hb
    go_wp2
    go_ret
    exact ⟨(ret_bool hres.out).symm, E5⟩
   ·have hall2 := Lib.hid (show ∀ j, j < k + 1 → inB 4080 (sub m.lv (j * 16) 16) = true from fun j hj => by
     by_cases hjk : j = k
     ·subst hjk; exact hb
     ·exact hall.out j (by omega))
    clear hb
    go_wp2
    go_roundw
    case rel => exact ⟨k + 1, by omega, by go_num, E5, hall2⟩
    case measure => simp [intOf]; omega
  ·obtain rfl : k = 4 := by omega
   have hres := Lib.hid (HYES.out hall.out)
   go_wp2
   go_ret
   exact ⟨(ret_bool hres.out).symm, E4⟩
set_option maxRecDepth 100000 in
theorem impl_MacroValid_nofit0 (m : Mac) (w : World) (h : m.ok) (hk : m.kind = 0) (hv : vv m.x m.y) (hf : ¬ (m.x = 0 ∧ m.y = 0 ∧ m.modes = zero4 ∧ m.lv = zero64)) :
 Calls Tryd.prog 14 #[.agg (ic m.zs)] w fun e w' => e = .returned (.bool false) ∧ Ext w w' := by
 have H := IB.new w 34 m.zs
 have Hl := Lib.hid (Mac.zs_len h)
 have Hm := Lib.hid h
 have Hk := Lib.hid hk
 have Hfit := Lib.hid (show decide (m.x = 0 ∧ m.y = 0 ∧ m.modes = zero4 ∧ m.lv = zero64) = false by simpa using hf)
 have hmf := fits_0
 clear h hk hf
 go_enter Tryd.func14, Tryd.ntmps14
 go_wp2_with (refine wpList_iload 34 _ rfl rfl H 0 71 rfl _ Tryd.underlying34 rfl size_Macro (by rw [Hl.out]; omega) _ (by rw [sub_all _ _ Hl.out]) ?_)
 refine (impl_kindOf_0 m _ Hm.out Hk.out).mono ?_
 rintro e w1 ⟨rfl, e1⟩
 have H1 := H.ext e1
 have E1 := (Ext.alloc w (.cells (ic m.zs) 34)).trans e1
 clear H e1
 go_wp2_with (first | (refine wpList_iload 27 _ rfl rfl H1 1 2 rfl _ Tryd.underlying27 rfl size_Vector (by rw [Hl.out]; omega) _ Mac.zs_mv ?_))
 refine (impl_VectorValid_yes m.x m.y _ hv).mono ?_
 rintro e w2 ⟨rfl, e2⟩
 have H2 := H1.ext e2
 have E2 := E1.trans e2
 clear H1 E1 e2 hv
 go_wp2_with fail
 refine (skipped_fits_any m _ Hm.out false Hfit.out).mono ?_
 rintro e w3 ⟨rfl, e3⟩
 go_wp2
 go_ret
 exact ⟨rfl, E2.trans e3⟩
set_option maxRecDepth 100000 in
theorem impl_MacroValid_novec0 (m : Mac) (w : World) (h : m.ok) (hk : m.kind = 0) (hv : ¬ vv m.x m.y) :
 Calls Tryd.prog 14 #[.agg (ic m.zs)] w fun e w' => e = .returned (.bool false) ∧ Ext w w' := by
 have H := IB.new w 34 m.zs
 have Hl := Lib.hid (Mac.zs_len h)
 have Hm := Lib.hid h
 have Hk := Lib.hid hk
 clear h hk
 go_enter Tryd.func14, Tryd.ntmps14
 go_wp2_with (refine wpList_iload 34 _ rfl rfl H 0 71 rfl _ Tryd.underlying34 rfl size_Macro (by rw [Hl.out]; omega) _ (by rw [sub_all _ _ Hl.out]) ?_)
 refine (impl_kindOf_0 m _ Hm.out Hk.out).mono ?_
 rintro e w1 ⟨rfl, e1⟩
 have H1 := H.ext e1
 have E1 := (Ext.alloc w (.cells (ic m.zs) 34)).trans e1
 clear H e1
 go_wp2_with (first | (refine wpList_iload 27 _ rfl rfl H1 1 2 rfl _ Tryd.underlying27 rfl size_Vector (by rw [Hl.out]; omega) _ Mac.zs_mv ?_))
 refine (impl_VectorValid_no m.x m.y _ hv).mono ?_
 rintro e w2 ⟨rfl, e2⟩
 clear hv H1
 go_wp2
 go_ret
 exact ⟨rfl, E1.trans e2⟩
set_option maxRecDepth 100000 in
set_option maxHeartbeats 1000000 in
theorem impl_MacroValid_lv1 (m : Mac) (w : World) (h : m.ok) (hk : m.kind = 1) (hv : vv m.x m.y) (hf : m.modes = zero4) (r : Bool) (hno : ∀ k, k < 4 → inB 4080 (sub m.lv (k * 16) 16) = false → r = false) (hyes : (∀ k, k < 4 → inB 4080 (sub m.lv (k * 16) 16) = true) → r = true) :
 Calls Tryd.prog 14 #[.agg (ic m.zs)] w fun e w' => e = .returned (.bool r) ∧ Ext w w' := by
 have H := IB.new w 34 m.zs
 have Hl := Lib.hid (Mac.zs_len h)
 have Hm := Lib.hid h
 have Hk := Lib.hid hk
 have HNO := Lib.hid hno
 have HYES := Lib.hid hyes
 have Hfit := Lib.hid (show decide (m.modes = zero4) = true by simp [hf])
 have hmf := fits_1
 clear h hk hno hyes hf
 go_enter Tryd.func14, Tryd.ntmps14
 go_wp2_with (refine wpList_iload 34 _ rfl rfl H 0 71 rfl _ Tryd.underlying34 rfl size_Macro (by rw [Hl.out]; omega) _ (by rw [sub_all _ _ Hl.out]) ?_)
 refine (impl_kindOf_1 m _ Hm.out Hk.out).mono ?_
 rintro e w1 ⟨rfl, e1⟩
 have H1 := H.ext e1
 have E1 := (Ext.alloc w (.cells (ic m.zs) 34)).trans e1
 clear H e1
 go_wp2_with (first | (refine wpList_iload 27 _ rfl rfl H1 1 2 rfl _ Tryd.underlying27 rfl size_Vector (by rw [Hl.out]; omega) _ Mac.zs_mv ?_))
 refine (impl_VectorValid_yes m.x m.y _ hv).mono ?_
 rintro e w2 ⟨rfl, e2⟩
 have H2 := H1.ext e2
 have E2 := E1.trans e2
 clear H1 E1 e2 hv
 go_wp2_with fail
 refine (inter_fits_any m _ Hm.out true Hfit.out).mono ?_
 rintro e w3 ⟨rfl, e3⟩
 have H3 := H2.ext e3
 have E3 := E2.trans e3
 clear H2 E2 e3 hmf
 go_wp2_with (refine wpList_iload 32 _ rfl rfl H3 7 64 rfl _ Tryd.underlying32 rfl size_A16A4 (by rw [Hl.out]; omega) _ (by rw [Mac.zs_lv Hm.out]) ?_)
 go_loopw [23] (fun i wr => ∃ k : Nat, k ≤ 4 ∧ i = .int .i64 k ∧ Ext w wr ∧ Hid (∀ j, j < k → inB 4080 (sub m.lv (j * 16) 16) = true)) (fun i _ => 4 - (intOf i).toNat)
 case atStart => exact ⟨0, by omega, rfl, E3, Lib.hid (fun j hj => by omega)⟩
 case round =>
  obtain ⟨k, hk, rfl, E4, hall⟩ := hrel
  clear H3 E3
  by_cases hlt : k < 4
  ·have hbl := sub_len m.lv (k * 16) 16 (by rw [Hm.out.lv]; omega)
   have Hbl := Lib.hid hbl
   have p0 := IB.new wr 31 (List.replicate 16 0)
   have Hsa := Lib.hid (sub_all _ 16 hbl)
   clear hbl
   go_wp2_with (first | (refine wpList_iindexa _ _ _ rfl rfl m.lv rfl k 4 16 _ rfl rfl _ _ Tryd.underlying32 Tryd.underlying31 rfl size_A16 hlt ?_) | (refine wpList_istore _ _ _ rfl rfl p0 0 16 rfl _ rfl _ rfl size_A16 Hbl.out (by simp) ?_; intro w6 p6 g6; refine Hid.out ?_))
   rw [spl_all (by rw [Hbl.out]; rfl)] at p6
   have E6 : Ext w w6 := Ext.grown (E4.trans (Ext.alloc _ _)) g6 (fun q hq => by cases hq; exact E4.size)
   clear g6 p0 E4
   refine Lib.hid ?_
   go_wp2_with (refine wpList_iload 31 _ rfl rfl p6 0 16 rfl _ Tryd.underlying31 rfl size_A16 (by rw [Hbl.out]; omega) _ (by rw [Hsa.out]) ?_)
   refine (impl_blockWithin_any _ 4080 _ Hbl.out (by omega) (by omega)).mono ?_
   rintro e w5 ⟨rfl, e5⟩
   have E5 := E6.trans e5
   clear E6 e5 p6
   cases hb : inB 4080 (sub m.lv (k * 16) 16)
   ·have hres := Lib.hid (HNO.out k hlt hb)
    clear hb
    go_wp2
    go_ret
    exact ⟨(ret_bool hres.out).symm, E5⟩
   ·have hall2 := Lib.hid (show ∀ j, j < k + 1 → inB 4080 (sub m.lv (j * 16) 16) = true from fun j hj => by
     by_cases hjk : j = k
     ·subst hjk; exact hb
     ·exact hall.out j (by omega))
    clear hb
    go_wp2
    go_roundw
    case rel => exact ⟨k + 1, by omega, by go_num, E5, hall2⟩
    case measure => simp [intOf]; omega
  ·obtain rfl : k = 4 := by omega
   have hres := Lib.hid (HYES.out hall.out)
   go_wp2
   go_ret
   exact ⟨(ret_bool hres.out).symm, E4⟩
set_option maxRecDepth 100000 in
theorem impl_MacroValid_nofit1 (m : Mac) (w : World) (h : m.ok) (hk : m.kind = 1) (hv : vv m.x m.y) (hf : ¬ m.modes = zero4) :
 Calls Tryd.prog 14 #[.agg (ic m.zs)] w fun e w' => e = .returned (.bool false) ∧ Ext w w' := by
 have H := IB.new w 34 m.zs
 have Hl := Lib.hid (Mac.zs_len h)
 have Hm := Lib.hid h
 have Hk := Lib.hid hk
 have Hfit := Lib.hid (show decide (m.modes = zero4) = false by simpa using hf)
 have hmf := fits_1
 clear h hk hf
 go_enter Tryd.func14, Tryd.ntmps14
 go_wp2_with (refine wpList_iload 34 _ rfl rfl H 0 71 rfl _ Tryd.underlying34 rfl size_Macro (by rw [Hl.out]; omega) _ (by rw [sub_all _ _ Hl.out]) ?_)
 refine (impl_kindOf_1 m _ Hm.out Hk.out).mono ?_
 rintro e w1 ⟨rfl, e1⟩
 have H1 := H.ext e1
 have E1 := (Ext.alloc w (.cells (ic m.zs) 34)).trans e1
 clear H e1
 go_wp2_with (first | (refine wpList_iload 27 _ rfl rfl H1 1 2 rfl _ Tryd.underlying27 rfl size_Vector (by rw [Hl.out]; omega) _ Mac.zs_mv ?_))
 refine (impl_VectorValid_yes m.x m.y _ hv).mono ?_
 rintro e w2 ⟨rfl, e2⟩
 have H2 := H1.ext e2
 have E2 := E1.trans e2
 clear H1 E1 e2 hv
 go_wp2_with fail
 refine (inter_fits_any m _ Hm.out false Hfit.out).mono ?_
 rintro e w3 ⟨rfl, e3⟩
 go_wp2
 go_ret
 exact ⟨rfl, E2.trans e3⟩
set_option maxRecDepth 100000 in
theorem impl_MacroValid_novec1 (m : Mac) (w : World) (h : m.ok) (hk : m.kind = 1) (hv : ¬ vv m.x m.y) :
 Calls Tryd.prog 14 #[.agg (ic m.zs)] w fun e w' => e = .returned (.bool false) ∧ Ext w w' := by
 have H := IB.new w 34 m.zs
 have Hl := Lib.hid (Mac.zs_len h)
 have Hm := Lib.hid h
 have Hk := Lib.hid hk
 clear h hk
 go_enter Tryd.func14, Tryd.ntmps14
 go_wp2_with (refine wpList_iload 34 _ rfl rfl H 0 71 rfl _ Tryd.underlying34 rfl size_Macro (by rw [Hl.out]; omega) _ (by rw [sub_all _ _ Hl.out]) ?_)
 refine (impl_kindOf_1 m _ Hm.out Hk.out).mono ?_
 rintro e w1 ⟨rfl, e1⟩
 have H1 := H.ext e1
 have E1 := (Ext.alloc w (.cells (ic m.zs) 34)).trans e1
 clear H e1
 go_wp2_with (first | (refine wpList_iload 27 _ rfl rfl H1 1 2 rfl _ Tryd.underlying27 rfl size_Vector (by rw [Hl.out]; omega) _ Mac.zs_mv ?_))
 refine (impl_VectorValid_no m.x m.y _ hv).mono ?_
 rintro e w2 ⟨rfl, e2⟩
 clear hv H1
 go_wp2
 go_ret
 exact ⟨rfl, E1.trans e2⟩
set_option maxRecDepth 100000 in
set_option maxHeartbeats 1000000 in
theorem impl_MacroValid_lv2 (m : Mac) (w : World) (h : m.ok) (hk : m.kind = 2) (hv : vv m.x m.y) (hf : ∀ j, j < 4 → 0 ≤ nth m.modes j ∧ nth m.modes j ≤ 4) (hxy : m.x = 0 ∧ m.y = 0) (r : Bool) (hno : ∀ k, k < 4 → inB 4080 (sub m.lv (k * 16) 16) = false → r = false) (hyes : (∀ k, k < 4 → inB 4080 (sub m.lv (k * 16) 16) = true) → r = true) :
 Calls Tryd.prog 14 #[.agg (ic m.zs)] w fun e w' => e = .returned (.bool r) ∧ Ext w w' := by
 have H := IB.new w 34 m.zs
 have Hl := Lib.hid (Mac.zs_len h)
 have Hm := Lib.hid h
 have Hk := Lib.hid hk
 have HNO := Lib.hid hno
 have HYES := Lib.hid hyes
 have Hfit := Lib.hid (⟨hf, by simp [hxy]⟩ : (∀ j, j < 4 → 0 ≤ nth m.modes j ∧ nth m.modes j ≤ 4) ∧ decide (m.x = 0 ∧ m.y = 0) = true)
 have hmf := fits_2
 clear h hk hno hyes hf hxy
 go_enter Tryd.func14, Tryd.ntmps14
 go_wp2_with (refine wpList_iload 34 _ rfl rfl H 0 71 rfl _ Tryd.underlying34 rfl size_Macro (by rw [Hl.out]; omega) _ (by rw [sub_all _ _ Hl.out]) ?_)
 refine (impl_kindOf_2 m _ Hm.out Hk.out).mono ?_
 rintro e w1 ⟨rfl, e1⟩
 have H1 := H.ext e1
 have E1 := (Ext.alloc w (.cells (ic m.zs) 34)).trans e1
 clear H e1
 go_wp2_with (first | (refine wpList_iload 27 _ rfl rfl H1 1 2 rfl _ Tryd.underlying27 rfl size_Vector (by rw [Hl.out]; omega) _ Mac.zs_mv ?_))
 refine (impl_VectorValid_yes m.x m.y _ hv).mono ?_
 rintro e w2 ⟨rfl, e2⟩
 have H2 := H1.ext e2
 have E2 := E1.trans e2
 clear H1 E1 e2 hv
 go_wp2_with fail
 refine (intra_fits_yes m _ Hm.out Hfit.out.1 true Hfit.out.2).mono ?_
 rintro e w3 ⟨rfl, e3⟩
 have H3 := H2.ext e3
 have E3 := E2.trans e3
 clear H2 E2 e3 hmf
 go_wp2_with (refine wpList_iload 32 _ rfl rfl H3 7 64 rfl _ Tryd.underlying32 rfl size_A16A4 (by rw [Hl.out]; omega) _ (by rw [Mac.zs_lv Hm.out]) ?_)
 go_loopw [23] (fun i wr => ∃ k : Nat, k ≤ 4 ∧ i = .int .i64 k ∧ Ext w wr ∧ Hid (∀ j, j < k → inB 4080 (sub m.lv (j * 16) 16) = true)) (fun i _ => 4 - (intOf i).toNat)
 case atStart => exact ⟨0, by omega, rfl, E3, Lib.hid (fun j hj => by omega)⟩
 case round =>
  obtain ⟨k, hk, rfl, E4, hall⟩ := hrel
  clear H3 E3
  by_cases hlt : k < 4
  ·have hbl := sub_len m.lv (k * 16) 16 (by rw [Hm.out.lv]; omega)
   have Hbl := Lib.hid hbl
   have p0 := IB.new wr 31 (List.replicate 16 0)
   have Hsa := Lib.hid (sub_all _ 16 hbl)
   clear hbl
   go_wp2_with (first | (refine wpList_iindexa _ _ _ rfl rfl m.lv rfl k 4 16 _ rfl rfl _ _ Tryd.underlying32 Tryd.underlying31 rfl size_A16 hlt ?_) | (refine wpList_istore _ _ _ rfl rfl p0 0 16 rfl _ rfl _ rfl size_A16 Hbl.out (by simp) ?_; intro w6 p6 g6; refine Hid.out ?_))
   rw [spl_all (by rw [Hbl.out]; rfl)] at p6
   have E6 : Ext w w6 := Ext.grown (E4.trans (Ext.alloc _ _)) g6 (fun q hq => by cases hq; exact E4.size)
   clear g6 p0 E4
   refine Lib.hid ?_
   go_wp2_with (refine wpList_iload 31 _ rfl rfl p6 0 16 rfl _ Tryd.underlying31 rfl size_A16 (by rw [Hbl.out]; omega) _ (by rw [Hsa.out]) ?_)
   refine (impl_blockWithin_any _ 4080 _ Hbl.out (by omega) (by omega)).mono ?_
   rintro e w5 ⟨rfl, e5⟩
   have E5 := E6.trans e5
   clear E6 e5 p6
   cases hb : inB 4080 (sub m.lv (k * 16) 16)
   ·have hres := Lib.hid (HNO.out k hlt hb)
    clear hb
    go_wp2
    go_ret
    exact ⟨(ret_bool hres.out).symm, E5⟩
   ·have hall2 := Lib.hid (show ∀ j, j < k + 1 → inB 4080 (sub m.lv (j * 16) 16) = true from fun j hj => by
     by_cases hjk : j = k
     ·subst hjk; exact hb
     ·exact hall.out j (by omega))
    clear hb
    go_wp2
    go_roundw
    case rel => exact ⟨k + 1, by omega, by go_num, E5, hall2⟩
    case measure => simp [intOf]; omega
  ·obtain rfl : k = 4 := by omega
   have hres := Lib.hid (HYES.out hall.out)
   go_wp2
   go_ret
   exact ⟨(ret_bool hres.out).symm, E4⟩
set_option maxRecDepth 100000 in
theorem impl_MacroValid_nofit2 (m : Mac) (w : World) (h : m.ok) (hk : m.kind = 2) (hv : vv m.x m.y) (hf : ¬ ∀ j, j < 4 → 0 ≤ nth m.modes j ∧ nth m.modes j ≤ 4) :
 Calls Tryd.prog 14 #[.agg (ic m.zs)] w fun e w' => e = .returned (.bool false) ∧ Ext w w' := by
 have H := IB.new w 34 m.zs
 have Hl := Lib.hid (Mac.zs_len h)
 have Hm := Lib.hid h
 have Hk := Lib.hid hk
 have Hfit := Lib.hid hf
 have hmf := fits_2
 clear h hk hf
 go_enter Tryd.func14, Tryd.ntmps14
 go_wp2_with (refine wpList_iload 34 _ rfl rfl H 0 71 rfl _ Tryd.underlying34 rfl size_Macro (by rw [Hl.out]; omega) _ (by rw [sub_all _ _ Hl.out]) ?_)
 refine (impl_kindOf_2 m _ Hm.out Hk.out).mono ?_
 rintro e w1 ⟨rfl, e1⟩
 have H1 := H.ext e1
 have E1 := (Ext.alloc w (.cells (ic m.zs) 34)).trans e1
 clear H e1
 go_wp2_with (first | (refine wpList_iload 27 _ rfl rfl H1 1 2 rfl _ Tryd.underlying27 rfl size_Vector (by rw [Hl.out]; omega) _ Mac.zs_mv ?_))
 refine (impl_VectorValid_yes m.x m.y _ hv).mono ?_
 rintro e w2 ⟨rfl, e2⟩
 have H2 := H1.ext e2
 have E2 := E1.trans e2
 clear H1 E1 e2 hv
 go_wp2_with fail
 refine (intra_fits_no m _ Hm.out Hfit.out).mono ?_
 rintro e w3 ⟨rfl, e3⟩
 go_wp2
 go_ret
 exact ⟨rfl, E2.trans e3⟩
set_option maxRecDepth 100000 in
theorem impl_MacroValid_nofit2b (m : Mac) (w : World) (h : m.ok) (hk : m.kind = 2) (hv : vv m.x m.y) (hf : (∀ j, j < 4 → 0 ≤ nth m.modes j ∧ nth m.modes j ≤ 4) ∧ ¬ (m.x = 0 ∧ m.y = 0)) :
 Calls Tryd.prog 14 #[.agg (ic m.zs)] w fun e w' => e = .returned (.bool false) ∧ Ext w w' := by
 have H := IB.new w 34 m.zs
 have Hl := Lib.hid (Mac.zs_len h)
 have Hm := Lib.hid h
 have Hk := Lib.hid hk
 have Hfit := Lib.hid hf
 have hmf := fits_2
 clear h hk hf
 go_enter Tryd.func14, Tryd.ntmps14
 go_wp2_with (refine wpList_iload 34 _ rfl rfl H 0 71 rfl _ Tryd.underlying34 rfl size_Macro (by rw [Hl.out]; omega) _ (by rw [sub_all _ _ Hl.out]) ?_)
 refine (impl_kindOf_2 m _ Hm.out Hk.out).mono ?_
 rintro e w1 ⟨rfl, e1⟩
 have H1 := H.ext e1
 have E1 := (Ext.alloc w (.cells (ic m.zs) 34)).trans e1
 clear H e1
 go_wp2_with (first | (refine wpList_iload 27 _ rfl rfl H1 1 2 rfl _ Tryd.underlying27 rfl size_Vector (by rw [Hl.out]; omega) _ Mac.zs_mv ?_))
 refine (impl_VectorValid_yes m.x m.y _ hv).mono ?_
 rintro e w2 ⟨rfl, e2⟩
 have H2 := H1.ext e2
 have E2 := E1.trans e2
 clear H1 E1 e2 hv
 go_wp2_with fail
 refine (intra_fits_yes m _ Hm.out Hfit.out.1 false (by simpa using Hfit.out.2)).mono ?_
 rintro e w3 ⟨rfl, e3⟩
 go_wp2
 go_ret
 exact ⟨rfl, E2.trans e3⟩
set_option maxRecDepth 100000 in
theorem impl_MacroValid_novec2 (m : Mac) (w : World) (h : m.ok) (hk : m.kind = 2) (hv : ¬ vv m.x m.y) :
 Calls Tryd.prog 14 #[.agg (ic m.zs)] w fun e w' => e = .returned (.bool false) ∧ Ext w w' := by
 have H := IB.new w 34 m.zs
 have Hl := Lib.hid (Mac.zs_len h)
 have Hm := Lib.hid h
 have Hk := Lib.hid hk
 clear h hk
 go_enter Tryd.func14, Tryd.ntmps14
 go_wp2_with (refine wpList_iload 34 _ rfl rfl H 0 71 rfl _ Tryd.underlying34 rfl size_Macro (by rw [Hl.out]; omega) _ (by rw [sub_all _ _ Hl.out]) ?_)
 refine (impl_kindOf_2 m _ Hm.out Hk.out).mono ?_
 rintro e w1 ⟨rfl, e1⟩
 have H1 := H.ext e1
 have E1 := (Ext.alloc w (.cells (ic m.zs) 34)).trans e1
 clear H e1
 go_wp2_with (first | (refine wpList_iload 27 _ rfl rfl H1 1 2 rfl _ Tryd.underlying27 rfl size_Vector (by rw [Hl.out]; omega) _ Mac.zs_mv ?_))
 refine (impl_VectorValid_no m.x m.y _ hv).mono ?_
 rintro e w2 ⟨rfl, e2⟩
 clear hv H1
 go_wp2
 go_ret
 exact ⟨rfl, E1.trans e2⟩
set_option maxRecDepth 100000 in
theorem impl_MacroValid_nokind (m : Mac) (w : World) (h : m.ok) (hk : m.kind < 0 ∨ 2 < m.kind) :
 Calls Tryd.prog 14 #[.agg (ic m.zs)] w fun e w' => e = .returned (.bool false) ∧ Ext w w' := by
 have H := IB.new w 34 m.zs
 have Hl := Lib.hid (Mac.zs_len h)
 have Hm := Lib.hid h
 have Hk := Lib.hid hk
 clear h hk
 go_enter Tryd.func14, Tryd.ntmps14
 go_wp2_with (refine wpList_iload 34 _ rfl rfl H 0 71 rfl _ Tryd.underlying34 rfl size_Macro (by rw [Hl.out]; omega) _ (by rw [sub_all _ _ Hl.out]) ?_)
 refine (impl_kindOf_no m _ Hm.out Hk.out).mono ?_
 rintro e w1 ⟨rfl, e1⟩
 have H1 := H.ext e1
 have E1 := (Ext.alloc w (.cells (ic m.zs) 34)).trans e1
 clear H e1
 go_wp2
 go_ret
 exact ⟨rfl, E1⟩
theorem impl_MacroValid_any (m : Mac) (w : World) (h : m.ok) :
 Calls Tryd.prog 14 #[.agg (ic m.zs)] w fun e w' => e = .returned (.bool (decide m.valid)) ∧ Ext w w' := by
 by_cases hk : 0 ≤ m.kind ∧ m.kind ≤ 2
 ·have hlv := inB_blocks (B := 4080) h.lv
  by_cases hv : vv m.x m.y
  ·have step : ∀ r : Bool, (r = true ↔ m.valid) → decide m.valid = r := fun r hr => by
    cases r
    ·exact decide_eq_false (fun h => by have := hr.2 h; cases this)
    ·exact decide_eq_true (hr.1 rfl)
   obtain hk0 | hk1 | hk2 : m.kind = 0 ∨ m.kind = 1 ∨ m.kind = 2 := by omega
   ·by_cases hf : m.x = 0 ∧ m.y = 0 ∧ m.modes = zero4 ∧ m.lv = zero64
    ·rw [step (inB 4080 m.lv) ⟨fun hb => ⟨hk, hv, fun _ => ⟨hf.1, hf.2.1⟩, fun _ => hf.2.2.1, fun h => by omega, fun _ => hf.2.2.2, hb⟩, fun h => h.2.2.2.2.2.2⟩]
     refine impl_MacroValid_lv0 m w h hk0 hv hf.2.2 ⟨hf.1, hf.2.1⟩ _ (fun k hk hb => ?_) (fun hb => hlv.2 hb)
     cases hc : inB 4080 m.lv
     ·rfl
     ·have := hlv.1 hc k hk; rw [hb] at this; cases this
    ·rw [step false ⟨fun h => (by cases h), fun h => absurd ⟨(h.2.2.1 (by omega)).1, (h.2.2.1 (by omega)).2, h.2.2.2.1 (by omega), h.2.2.2.2.2.1 hk0⟩ hf⟩]
     exact impl_MacroValid_nofit0 m w h hk0 hv hf
   ·by_cases hf : m.modes = zero4
    ·rw [step (inB 4080 m.lv) ⟨fun hb => ⟨hk, hv, fun h => absurd hk1 h, fun _ => hf, fun h => by omega, fun h => by omega, hb⟩, fun h => h.2.2.2.2.2.2⟩]
     refine impl_MacroValid_lv1 m w h hk1 hv hf _ (fun k hk hb => ?_) (fun hb => hlv.2 hb)
     cases hc : inB 4080 m.lv
     ·rfl
     ·have := hlv.1 hc k hk; rw [hb] at this; cases this
    ·rw [step false ⟨fun h => (by cases h), fun h => absurd (h.2.2.2.1 (by omega)) hf⟩]
     exact impl_MacroValid_nofit1 m w h hk1 hv hf
   ·by_cases hf : ∀ j, j < 4 → 0 ≤ nth m.modes j ∧ nth m.modes j ≤ 4
    ·by_cases hxy : m.x = 0 ∧ m.y = 0
     ·rw [step (inB 4080 m.lv) ⟨fun hb => ⟨hk, hv, fun _ => hxy, fun h => absurd hk2 h, fun _ => hf, fun h => by omega, hb⟩, fun h => h.2.2.2.2.2.2⟩]
      refine impl_MacroValid_lv2 m w h hk2 hv hf hxy _ (fun k hk hb => ?_) (fun hb => hlv.2 hb)
      cases hc : inB 4080 m.lv
      ·rfl
      ·have := hlv.1 hc k hk; rw [hb] at this; cases this
     ·rw [step false ⟨fun h => (by cases h), fun h => absurd (h.2.2.1 (by omega)) hxy⟩]
      exact impl_MacroValid_nofit2b m w h hk2 hv ⟨hf, hxy⟩
    ·rw [step false ⟨fun h => (by cases h), fun h => absurd (h.2.2.2.2.1 hk2) hf⟩]
     exact impl_MacroValid_nofit2 m w h hk2 hv hf
  ·rw [show decide m.valid = false from decide_eq_false (fun h => hv h.2.1)]
   obtain hk0 | hk1 | hk2 : m.kind = 0 ∨ m.kind = 1 ∨ m.kind = 2 := by omega
   ·exact impl_MacroValid_novec0 m w h hk0 hv
   ·exact impl_MacroValid_novec1 m w h hk1 hv
   ·exact impl_MacroValid_novec2 m w h hk2 hv
 ·rw [show decide m.valid = false from decide_eq_false (fun h => hk h.1)]
  exact impl_MacroValid_nokind m w h (by omega)
end Go.Proofs.YtbnhaegidfbgbaaDoor
