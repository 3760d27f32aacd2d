/- MacroValid: the program's answer. | impl.MacroBins: the decisions for a macroblock. | Small helpers: clip, floor, sides. | The transform of a block of 4 by 4 numbers, plain. | Pictures: plain words; the helpers of their exact laws. | Quantization: both sides, for arguments in range. | Pictures: samples, half samples, blocks, edges, predictions: plain. | A sample of a picture, a half sample, the samples that predict a macroblock: both sides. -/
import Derived.Test.YtbnhaegidfbgbaaDoorQg4
import Derived.Deep.Cut
namespace Go.Proofs.YtbnhaegidfbgbaaDoor
open Go.RowKit
set_option maxHeartbeats 400000
theorem fits_0 (cs : Array Value) (w : World) : (method 279 115 (.agg cs) "loop.example/videocodec/impl.fits").run Tryd.prog w = .ok (172, .agg cs) w := by kernel_rfl
theorem fits_1 (cs : Array Value) (w : World) : (method 279 116 (.agg cs) "loop.example/videocodec/impl.fits").run Tryd.prog w = .ok (173, .agg cs) w := by kernel_rfl
theorem fits_2 (cs : Array Value) (w : World) : (method 279 117 (.agg cs) "loop.example/videocodec/impl.fits").run Tryd.prog w = .ok (174, .agg cs) w := by kernel_rfl
set_option maxRecDepth 100000 in
set_option maxHeartbeats 1000000 in
theorem impl_MacroValid_lv0 (m : Mac) (w : World) (h : m.ok) (hk : m.kind = 0) (hv : vv m.x m.y) (hf : m.modes = zero4 ∧ m.lv = zero64) (hxy : m.x = 0 ∧ m.y = 0) (r : Bool) (hno : ∀ k, k < 4 → inB 4080 (sub m.lv (k * 16) 16) = false → r = false) (hyes : (∀ k, k < 4 → inB 4080 (sub m.lv (k * 16) 16) = true) → r = true) :
 Calls Tryd.prog 14 #[.agg (ic m.zs)] w fun e w' => e = .returned (.bool r) ∧ Ext w w' := by
 have H := IB.new w 34 m.zs
 have Hl := Lib.hid (Mac.zs_len h)
 have Hm := Lib.hid h
 have Hk := Lib.hid hk
 have HNO := Lib.hid hno
 have HYES := Lib.hid hyes
 have Hfit := Lib.hid (show decide (m.x = 0 ∧ m.y = 0 ∧ m.modes = zero4 ∧ m.lv = zero64) = true by simp [hf, hxy])
 have hmf := fits_0
 clear h hk hno hyes hf hxy
 go_enter Tryd.func14, Tryd.ntmps14
 go_wp2_with (refine wpList_iload 34 _ rfl rfl H 0 71 rfl _ Tryd.underlying34 rfl size_Macro (by rw [Hl.out]; omega) _ (by rw [sub_all _ _ Hl.out]) ?_)
 refine (impl_kindOf_0 m _ Hm.out Hk.out).mono ?_
 rintro e w1 ⟨rfl, e1⟩
 have H1 := H.ext e1
 have E1 := (Ext.alloc w (.cells (ic m.zs) 34)).trans e1
 clear H e1
 go_wp2_with (first | (refine wpList_iload 27 _ rfl rfl H1 1 2 rfl _ Tryd.underlying27 rfl size_Vector (by rw [Hl.out]; omega) _ Mac.zs_mv ?_))
 refine (impl_VectorValid_yes m.x m.y _ hv).mono ?_
 rintro e w2 ⟨rfl, e2⟩
 have H2 := H1.ext e2
 have E2 := E1.trans e2
 clear H1 E1 e2 hv
 go_wp2_with fail
 refine (skipped_fits_any m _ Hm.out true Hfit.out).mono ?_
 rintro e w3 ⟨rfl, e3⟩
 have H3 := H2.ext e3
 have E3 := E2.trans e3
 clear H2 E2 e3 hmf
 go_wp2_with (refine wpList_iload 32 _ rfl rfl H3 7 64 rfl _ Tryd.underlying32 rfl size_A16A4 (by rw [Hl.out]; omega) _ (by rw [Mac.zs_lv Hm.out]) ?_)
 go_loopw [23] (fun i wr => ∃ k : Nat, k ≤ 4 ∧ i = .int .i64 k ∧ Ext w wr ∧ Hid (∀ j, j < k → inB 4080 (sub m.lv (j * 16) 16) = true)) (fun i _ => 4 - (intOf i).toNat)
 case atStart => exact ⟨0, by omega, rfl, E3, Lib.hid (fun j hj => by omega)⟩
 case round =>
  obtain ⟨k, hk, rfl, E4, hall⟩ := hrel
  clear H3 E3
  by_cases hlt : k < 4
  ·have hbl := sub_len m.lv (k * 16) 16 (by rw [Hm.out.lv]; omega)
   have Hbl := Lib.hid hbl
   have p0 := IB.new wr 31 (List.replicate 16 0)
   have Hsa := Lib.hid (sub_all _ 16 hbl)
   clear hbl
   go_wp2_with (first | (refine wpList_iindexa _ _ _ rfl rfl m.lv rfl k 4 16 _ rfl rfl _ _ Tryd.underlying32 Tryd.underlying31 rfl size_A16 hlt ?_) | (refine wpList_istore _ _ _ rfl rfl p0 0 16 rfl _ rfl _ rfl size_A16 Hbl.out (by simp) ?_; intro w6 p6 g6; refine Hid.out ?_))
   rw [spl_all (by rw [Hbl.out]; rfl)] at p6
   have E6 : Ext w w6 := Ext.grown (E4.trans (Ext.alloc _ _)) g6 (fun q hq => by cases hq; exact E4.size)
   clear g6 p0 E4
   refine Lib.hid ?_
   go_wp2_with (refine wpList_iload 31 _ rfl rfl p6 0 16 rfl _ Tryd.underlying31 rfl size_A16 (by rw [Hbl.out]; omega) _ (by rw [Hsa.out]) ?_)
   refine (impl_blockWithin_any _ 4080 _ Hbl.out (by omega) (by omega)).mono ?_
   rintro e w5 ⟨rfl, e5⟩
   have E5 := E6.trans e5
   clear E6 e5 p6
   cases hb : inB 4080 (sub m.lv (k * 16) 16)
   ·have hres := Lib.hid (HNO.out k hlt hb)
    clear hb
    go_wp2
    go_ret
    exact ⟨(ret_bool hres.out).symm, E5⟩
   ·have hall2 := Lib.hid (show ∀ j, j < k + 1 → inB 4080 (sub m.lv (j * 16) 16) = true from fun j hj => by
     by_cases hjk : j = k
     ·subst hjk; exact hb
     ·exact hall.out j (by omega))
    clear hb
    go_wp2
    go_roundw
    case rel => exact ⟨k + 1, by omega, by go_num, E5, hall2⟩
    case measure => simp [intOf]; omega
  ·obtain rfl : k = 4 := by omega
   have hres := Lib.hid (HYES.out hall.out)
   go_wp2
   go_ret
   exact ⟨(ret_bool hres.out).symm, E4⟩
set_option maxRecDepth 100000 in
theorem impl_MacroValid_nofit0 (m : Mac) (w : World) (h : m.ok) (hk : m.kind = 0) (hv : vv m.x m.y) (hf : ¬ (m.x = 0 ∧ m.y = 0 ∧ m.modes = zero4 ∧ m.lv = zero64)) :
 Calls Tryd.prog 14 #[.agg (ic m.zs)] w fun e w' => e = .returned (.bool false) ∧ Ext w w' := by
 have H := IB.new w 34 m.zs
 have Hl := Lib.hid (Mac.zs_len h)
 have Hm := Lib.hid h
 have Hk := Lib.hid hk
 have Hfit := Lib.hid (show decide (m.x = 0 ∧ m.y = 0 ∧ m.modes = zero4 ∧ m.lv = zero64) = false by simpa using hf)
 have hmf := fits_0
 clear h hk hf
 go_enter Tryd.func14, Tryd.ntmps14
 go_wp2_with (refine wpList_iload 34 _ rfl rfl H 0 71 rfl _ Tryd.underlying34 rfl size_Macro (by rw [Hl.out]; omega) _ (by rw [sub_all _ _ Hl.out]) ?_)
 refine (impl_kindOf_0 m _ Hm.out Hk.out).mono ?_
 rintro e w1 ⟨rfl, e1⟩
 have H1 := H.ext e1
 have E1 := (Ext.alloc w (.cells (ic m.zs) 34)).trans e1
 clear H e1
 go_wp2_with (first | (refine wpList_iload 27 _ rfl rfl H1 1 2 rfl _ Tryd.underlying27 rfl size_Vector (by rw [Hl.out]; omega) _ Mac.zs_mv ?_))
 refine (impl_VectorValid_yes m.x m.y _ hv).mono ?_
 rintro e w2 ⟨rfl, e2⟩
 have H2 := H1.ext e2
 have E2 := E1.trans e2
 clear H1 E1 e2 hv
 go_wp2_with fail
 refine (skipped_fits_any m _ Hm.out false Hfit.out).mono ?_
 rintro e w3 ⟨rfl, e3⟩
 go_wp2
 go_ret
 exact ⟨rfl, E2.trans e3⟩
set_option maxRecDepth 100000 in
theorem impl_MacroValid_novec0 (m : Mac) (w : World) (h : m.ok) (hk : m.kind = 0) (hv : ¬ vv m.x m.y) :
 Calls Tryd.prog 14 #[.agg (ic m.zs)] w fun e w' => e = .returned (.bool false) ∧ Ext w w' := by
 have H := IB.new w 34 m.zs
 have Hl := Lib.hid (Mac.zs_len h)
 have Hm := Lib.hid h
 have Hk := Lib.hid hk
 clear h hk
 go_enter Tryd.func14, Tryd.ntmps14
 go_wp2_with (refine wpList_iload 34 _ rfl rfl H 0 71 rfl _ Tryd.underlying34 rfl size_Macro (by rw [Hl.out]; omega) _ (by rw [sub_all _ _ Hl.out]) ?_)
 refine (impl_kindOf_0 m _ Hm.out Hk.out).mono ?_
 rintro e w1 ⟨rfl, e1⟩
 have H1 := H.ext e1
 have E1 := (Ext.alloc w (.cells (ic m.zs) 34)).trans e1
 clear H e1
 go_wp2_with (first | (refine wpList_iload 27 _ rfl rfl H1 1 2 rfl _ Tryd.underlying27 rfl size_Vector (by rw [Hl.out]; omega) _ Mac.zs_mv ?_))
 refine (impl_VectorValid_no m.x m.y _ hv).mono ?_
 rintro e w2 ⟨rfl, e2⟩
 clear hv H1
 go_wp2
 go_ret
 exact ⟨rfl, E1.trans e2⟩
set_option maxRecDepth 100000 in
set_option maxHeartbeats 1000000 in
theorem impl_MacroValid_lv1 (m : Mac) (w : World) (h : m.ok) (hk : m.kind = 1) (hv : vv m.x m.y) (hf : m.modes = zero4) (r : Bool) (hno : ∀ k, k < 4 → inB 4080 (sub m.lv (k * 16) 16) = false → r = false) (hyes : (∀ k, k < 4 → inB 4080 (sub m.lv (k * 16) 16) = true) → r = true) :
 Calls Tryd.prog 14 #[.agg (ic m.zs)] w fun e w' => e = .returned (.bool r) ∧ Ext w w' := by
 have H := IB.new w 34 m.zs
 have Hl := Lib.hid (Mac.zs_len h)
 have Hm := Lib.hid h
 have Hk := Lib.hid hk
 have HNO := Lib.hid hno
 have HYES := Lib.hid hyes
 have Hfit := Lib.hid (show decide (m.modes = zero4) = true by simp [hf])
 have hmf := fits_1
 clear h hk hno hyes hf
 go_enter Tryd.func14, Tryd.ntmps14
 go_wp2_with (refine wpList_iload 34 _ rfl rfl H 0 71 rfl _ Tryd.underlying34 rfl size_Macro (by rw [Hl.out]; omega) _ (by rw [sub_all _ _ Hl.out]) ?_)
 refine (impl_kindOf_1 m _ Hm.out Hk.out).mono ?_
 rintro e w1 ⟨rfl, e1⟩
 have H1 := H.ext e1
 have E1 := (Ext.alloc w (.cells (ic m.zs) 34)).trans e1
 clear H e1
 go_wp2_with (first | (refine wpList_iload 27 _ rfl rfl H1 1 2 rfl _ Tryd.underlying27 rfl size_Vector (by rw [Hl.out]; omega) _ Mac.zs_mv ?_))
 refine (impl_VectorValid_yes m.x m.y _ hv).mono ?_
 rintro e w2 ⟨rfl, e2⟩
 have H2 := H1.ext e2
 have E2 := E1.trans e2
 clear H1 E1 e2 hv
 go_wp2_with fail
 refine (inter_fits_any m _ Hm.out true Hfit.out).mono ?_
 rintro e w3 ⟨rfl, e3⟩
 have H3 := H2.ext e3
 have E3 := E2.trans e3
 clear H2 E2 e3 hmf
 go_wp2_with (refine wpList_iload 32 _ rfl rfl H3 7 64 rfl _ Tryd.underlying32 rfl size_A16A4 (by rw [Hl.out]; omega) _ (by rw [Mac.zs_lv Hm.out]) ?_)
 go_loopw [23] (fun i wr => ∃ k : Nat, k ≤ 4 ∧ i = .int .i64 k ∧ Ext w wr ∧ Hid (∀ j, j < k → inB 4080 (sub m.lv (j * 16) 16) = true)) (fun i _ => 4 - (intOf i).toNat)
 case atStart => exact ⟨0, by omega, rfl, E3, Lib.hid (fun j hj => by omega)⟩
 case round =>
  obtain ⟨k, hk, rfl, E4, hall⟩ := hrel
  clear H3 E3
  by_cases hlt : k < 4
  ·have hbl := sub_len m.lv (k * 16) 16 (by rw [Hm.out.lv]; omega)
   have Hbl := Lib.hid hbl
   have p0 := IB.new wr 31 (List.replicate 16 0)
   have Hsa := Lib.hid (sub_all _ 16 hbl)
   clear hbl
   go_wp2_with (first | (refine wpList_iindexa _ _ _ rfl rfl m.lv rfl k 4 16 _ rfl rfl _ _ Tryd.underlying32 Tryd.underlying31 rfl size_A16 hlt ?_) | (refine wpList_istore _ _ _ rfl rfl p0 0 16 rfl _ rfl _ rfl size_A16 Hbl.out (by simp) ?_; intro w6 p6 g6; refine Hid.out ?_))
   rw [spl_all (by rw [Hbl.out]; rfl)] at p6
   have E6 : Ext w w6 := Ext.grown (E4.trans (Ext.alloc _ _)) g6 (fun q hq => by cases hq; exact E4.size)
   clear g6 p0 E4
   refine Lib.hid ?_
   go_wp2_with (refine wpList_iload 31 _ rfl rfl p6 0 16 rfl _ Tryd.underlying31 rfl size_A16 (by rw [Hbl.out]; omega) _ (by rw [Hsa.out]) ?_)
   refine (impl_blockWithin_any _ 4080 _ Hbl.out (by omega) (by omega)).mono ?_
   rintro e w5 ⟨rfl, e5⟩
   have E5 := E6.trans e5
   clear E6 e5 p6
   cases hb : inB 4080 (sub m.lv (k * 16) 16)
   ·have hres := Lib.hid (HNO.out k hlt hb)
    clear hb
    go_wp2
    go_ret
    exact ⟨(ret_bool hres.out).symm, E5⟩
   ·have hall2 := Lib.hid (show ∀ j, j < k + 1 → inB 4080 (sub m.lv (j * 16) 16) = true from fun j hj => by
     by_cases hjk : j = k
     ·subst hjk; exact hb
     ·exact hall.out j (by omega))
    clear hb
    go_wp2
    go_roundw
    case rel => exact ⟨k + 1, by omega, by go_num, E5, hall2⟩
    case measure => simp [intOf]; omega
  ·obtain rfl : k = 4 := by omega
   have hres := Lib.hid (HYES.out hall.out)
   go_wp2
   go_ret
   exact ⟨(ret_bool hres.out).symm, E4⟩
set_option maxRecDepth 100000 in
theorem impl_MacroValid_nofit1 (m : Mac) (w : World) (h : m.ok) (hk : m.kind = 1) (hv : vv m.x m.y) (hf : ¬ m.modes = zero4) :
 Calls Tryd.prog 14 #[.agg (ic m.zs)] w fun e w' => e = .returned (.bool false) ∧ Ext w w' := by
 have H := IB.new w 34 m.zs
 have Hl := Lib.hid (Mac.zs_len h)
 have Hm := Lib.hid h
 have Hk := Lib.hid hk
 have Hfit := Lib.hid (show decide (m.modes = zero4) = false by simpa using hf)
 have hmf := fits_1
 clear h hk hf
 go_enter Tryd.func14, Tryd.ntmps14
 go_wp2_with (refine wpList_iload 34 _ rfl rfl H 0 71 rfl _ Tryd.underlying34 rfl size_Macro (by rw [Hl.out]; omega) _ (by rw [sub_all _ _ Hl.out]) ?_)
 refine (impl_kindOf_1 m _ Hm.out Hk.out).mono ?_
 rintro e w1 ⟨rfl, e1⟩
 have H1 := H.ext e1
 have E1 := (Ext.alloc w (.cells (ic m.zs) 34)).trans e1
 clear H e1
 go_wp2_with (first | (refine wpList_iload 27 _ rfl rfl H1 1 2 rfl _ Tryd.underlying27 rfl size_Vector (by rw [Hl.out]; omega) _ Mac.zs_mv ?_))
 refine (impl_VectorValid_yes m.x m.y _ hv).mono ?_
 rintro e w2 ⟨rfl, e2⟩
 have H2 := H1.ext e2
 have E2 := E1.trans e2
 clear H1 E1 e2 hv
 go_wp2_with fail
 refine (inter_fits_any m _ Hm.out false Hfit.out).mono ?_
 rintro e w3 ⟨rfl, e3⟩
 go_wp2
 go_ret
 exact ⟨rfl, E2.trans e3⟩
set_option maxRecDepth 100000 in
theorem impl_MacroValid_novec1 (m : Mac) (w : World) (h : m.ok) (hk : m.kind = 1) (hv : ¬ vv m.x m.y) :
 Calls Tryd.prog 14 #[.agg (ic m.zs)] w fun e w' => e = .returned (.bool false) ∧ Ext w w' := by
 have H := IB.new w 34 m.zs
 have Hl := Lib.hid (Mac.zs_len h)
 have Hm := Lib.hid h
 have Hk := Lib.hid hk
 clear h hk
 go_enter Tryd.func14, Tryd.ntmps14
 go_wp2_with (refine wpList_iload 34 _ rfl rfl H 0 71 rfl _ Tryd.underlying34 rfl size_Macro (by rw [Hl.out]; omega) _ (by rw [sub_all _ _ Hl.out]) ?_)
 refine (impl_kindOf_1 m _ Hm.out Hk.out).mono ?_
 rintro e w1 ⟨rfl, e1⟩
 have H1 := H.ext e1
 have E1 := (Ext.alloc w (.cells (ic m.zs) 34)).trans e1
 clear H e1
 go_wp2_with (first | (refine wpList_iload 27 _ rfl rfl H1 1 2 rfl _ Tryd.underlying27 rfl size_Vector (by rw [Hl.out]; omega) _ Mac.zs_mv ?_))
 refine (impl_VectorValid_no m.x m.y _ hv).mono ?_
 rintro e w2 ⟨rfl, e2⟩
 clear hv H1
 go_wp2
 go_ret
 exact ⟨rfl, E1.trans e2⟩
set_option maxRecDepth 100000 in
set_option maxHeartbeats 1000000 in
theorem impl_MacroValid_lv2 (m : Mac) (w : World) (h : m.ok) (hk : m.kind = 2) (hv : vv m.x m.y) (hf : ∀ j, j < 4 → 0 ≤ nth m.modes j ∧ nth m.modes j ≤ 4) (hxy : m.x = 0 ∧ m.y = 0) (r : Bool) (hno : ∀ k, k < 4 → inB 4080 (sub m.lv (k * 16) 16) = false → r = false) (hyes : (∀ k, k < 4 → inB 4080 (sub m.lv (k * 16) 16) = true) → r = true) :
 Calls Tryd.prog 14 #[.agg (ic m.zs)] w fun e w' => e = .returned (.bool r) ∧ Ext w w' := by
 have H := IB.new w 34 m.zs
 have Hl := Lib.hid (Mac.zs_len h)
 have Hm := Lib.hid h
 have Hk := Lib.hid hk
 have HNO := Lib.hid hno
 have HYES := Lib.hid hyes
 have Hfit := Lib.hid (⟨hf, by simp [hxy]⟩ : (∀ j, j < 4 → 0 ≤ nth m.modes j ∧ nth m.modes j ≤ 4) ∧ decide (m.x = 0 ∧ m.y = 0) = true)
 have hmf := fits_2
 clear h hk hno hyes hf hxy
 go_enter Tryd.func14, Tryd.ntmps14
 go_wp2_with (refine wpList_iload 34 _ rfl rfl H 0 71 rfl _ Tryd.underlying34 rfl size_Macro (by rw [Hl.out]; omega) _ (by rw [sub_all _ _ Hl.out]) ?_)
 refine (impl_kindOf_2 m _ Hm.out Hk.out).mono ?_
 rintro e w1 ⟨rfl, e1⟩
 have H1 := H.ext e1
 have E1 := (Ext.alloc w (.cells (ic m.zs) 34)).trans e1
 clear H e1
 go_wp2_with (first | (refine wpList_iload 27 _ rfl rfl H1 1 2 rfl _ Tryd.underlying27 rfl size_Vector (by rw [Hl.out]; omega) _ Mac.zs_mv ?_))
 refine (impl_VectorValid_yes m.x m.y _ hv).mono ?_
 rintro e w2 ⟨rfl, e2⟩
 have H2 := H1.ext e2
 have E2 := E1.trans e2
 clear H1 E1 e2 hv
 go_wp2_with fail
 refine (intra_fits_yes m _ Hm.out Hfit.out.1 true Hfit.out.2).mono ?_
 rintro e w3 ⟨rfl, e3⟩
 have H3 := H2.ext e3
 have E3 := E2.trans e3
 clear H2 E2 e3 hmf
 go_wp2_with (refine wpList_iload 32 _ rfl rfl H3 7 64 rfl _ Tryd.underlying32 rfl size_A16A4 (by rw [Hl.out]; omega) _ (by rw [Mac.zs_lv Hm.out]) ?_)
 go_loopw [23] (fun i wr => ∃ k : Nat, k ≤ 4 ∧ i = .int .i64 k ∧ Ext w wr ∧ Hid (∀ j, j < k → inB 4080 (sub m.lv (j * 16) 16) = true)) (fun i _ => 4 - (intOf i).toNat)
 case atStart => exact ⟨0, by omega, rfl, E3, Lib.hid (fun j hj => by omega)⟩
 case round =>
  obtain ⟨k, hk, rfl, E4, hall⟩ := hrel
  clear H3 E3
  by_cases hlt : k < 4
  ·have hbl := sub_len m.lv (k * 16) 16 (by rw [Hm.out.lv]; omega)
   have Hbl := Lib.hid hbl
   have p0 := IB.new wr 31 (List.replicate 16 0)
   have Hsa := Lib.hid (sub_all _ 16 hbl)
   clear hbl
   go_wp2_with (first | (refine wpList_iindexa _ _ _ rfl rfl m.lv rfl k 4 16 _ rfl rfl _ _ Tryd.underlying32 Tryd.underlying31 rfl size_A16 hlt ?_) | (refine wpList_istore _ _ _ rfl rfl p0 0 16 rfl _ rfl _ rfl size_A16 Hbl.out (by simp) ?_; intro w6 p6 g6; refine Hid.out ?_))
   rw [spl_all (by rw [Hbl.out]; rfl)] at p6
   have E6 : Ext w w6 := Ext.grown (E4.trans (Ext.alloc _ _)) g6 (fun q hq => by cases hq; exact E4.size)
   clear g6 p0 E4
   refine Lib.hid ?_
   go_wp2_with (refine wpList_iload 31 _ rfl rfl p6 0 16 rfl _ Tryd.underlying31 rfl size_A16 (by rw [Hbl.out]; omega) _ (by rw [Hsa.out]) ?_)
   refine (impl_blockWithin_any _ 4080 _ Hbl.out (by omega) (by omega)).mono ?_
   rintro e w5 ⟨rfl, e5⟩
   have E5 := E6.trans e5
   clear E6 e5 p6
   cases hb : inB 4080 (sub m.lv (k * 16) 16)
   ·have hres := Lib.hid (HNO.out k hlt hb)
    clear hb
    go_wp2
    go_ret
    exact ⟨(ret_bool hres.out).symm, E5⟩
   ·have hall2 := Lib.hid (show ∀ j, j < k + 1 → inB 4080 (sub m.lv (j * 16) 16) = true from fun j hj => by
     by_cases hjk : j = k
     ·subst hjk; exact hb
     ·exact hall.out j (by omega))
    clear hb
    go_wp2
    go_roundw
    case rel => exact ⟨k + 1, by omega, by go_num, E5, hall2⟩
    case measure => simp [intOf]; omega
  ·obtain rfl : k = 4 := by omega
   have hres := Lib.hid (HYES.out hall.out)
   go_wp2
   go_ret
   exact ⟨(ret_bool hres.out).symm, E4⟩
set_option maxRecDepth 100000 in
theorem impl_MacroValid_nofit2 (m : Mac) (w : World) (h : m.ok) (hk : m.kind = 2) (hv : vv m.x m.y) (hf : ¬ ∀ j, j < 4 → 0 ≤ nth m.modes j ∧ nth m.modes j ≤ 4) :
 Calls Tryd.prog 14 #[.agg (ic m.zs)] w fun e w' => e = .returned (.bool false) ∧ Ext w w' := by
 have H := IB.new w 34 m.zs
 have Hl := Lib.hid (Mac.zs_len h)
 have Hm := Lib.hid h
 have Hk := Lib.hid hk
 have Hfit := Lib.hid hf
 have hmf := fits_2
 clear h hk hf
 go_enter Tryd.func14, Tryd.ntmps14
 go_wp2_with (refine wpList_iload 34 _ rfl rfl H 0 71 rfl _ Tryd.underlying34 rfl size_Macro (by rw [Hl.out]; omega) _ (by rw [sub_all _ _ Hl.out]) ?_)
 refine (impl_kindOf_2 m _ Hm.out Hk.out).mono ?_
 rintro e w1 ⟨rfl, e1⟩
 have H1 := H.ext e1
 have E1 := (Ext.alloc w (.cells (ic m.zs) 34)).trans e1
 clear H e1
 go_wp2_with (first | (refine wpList_iload 27 _ rfl rfl H1 1 2 rfl _ Tryd.underlying27 rfl size_Vector (by rw [Hl.out]; omega) _ Mac.zs_mv ?_))
 refine (impl_VectorValid_yes m.x m.y _ hv).mono ?_
 rintro e w2 ⟨rfl, e2⟩
 have H2 := H1.ext e2
 have E2 := E1.trans e2
 clear H1 E1 e2 hv
 go_wp2_with fail
 refine (intra_fits_no m _ Hm.out Hfit.out).mono ?_
 rintro e w3 ⟨rfl, e3⟩
 go_wp2
 go_ret
 exact ⟨rfl, E2.trans e3⟩
set_option maxRecDepth 100000 in
theorem impl_MacroValid_nofit2b (m : Mac) (w : World) (h : m.ok) (hk : m.kind = 2) (hv : vv m.x m.y) (hf : (∀ j, j < 4 → 0 ≤ nth m.modes j ∧ nth m.modes j ≤ 4) ∧ ¬ (m.x = 0 ∧ m.y = 0)) :
 Calls Tryd.prog 14 #[.agg (ic m.zs)] w fun e w' => e = .returned (.bool false) ∧ Ext w w' := by
 have H := IB.new w 34 m.zs
 have Hl := Lib.hid (Mac.zs_len h)
 have Hm := Lib.hid h
 have Hk := Lib.hid hk
 have Hfit := Lib.hid hf
 have hmf := fits_2
 clear h hk hf
 go_enter Tryd.func14, Tryd.ntmps14
 go_wp2_with (refine wpList_iload 34 _ rfl rfl H 0 71 rfl _ Tryd.underlying34 rfl size_Macro (by rw [Hl.out]; omega) _ (by rw [sub_all _ _ Hl.out]) ?_)
 refine (impl_kindOf_2 m _ Hm.out Hk.out).mono ?_
 rintro e w1 ⟨rfl, e1⟩
 have H1 := H.ext e1
 have E1 := (Ext.alloc w (.cells (ic m.zs) 34)).trans e1
 clear H e1
 go_wp2_with (first | (refine wpList_iload 27 _ rfl rfl H1 1 2 rfl _ Tryd.underlying27 rfl size_Vector (by rw [Hl.out]; omega) _ Mac.zs_mv ?_))
 refine (impl_VectorValid_yes m.x m.y _ hv).mono ?_
 rintro e w2 ⟨rfl, e2⟩
 have H2 := H1.ext e2
 have E2 := E1.trans e2
 clear H1 E1 e2 hv
 go_wp2_with fail
 refine (intra_fits_yes m _ Hm.out Hfit.out.1 false (by simpa using Hfit.out.2)).mono ?_
 rintro e w3 ⟨rfl, e3⟩
 go_wp2
 go_ret
 exact ⟨rfl, E2.trans e3⟩
set_option maxRecDepth 100000 in
theorem impl_MacroValid_novec2 (m : Mac) (w : World) (h : m.ok) (hk : m.kind = 2) (hv : ¬ vv m.x m.y) :
 Calls Tryd.prog 14 #[.agg (ic m.zs)] w fun e w' => e = .returned (.bool false) ∧ Ext w w' := by
 have H := IB.new w 34 m.zs
 have Hl := Lib.hid (Mac.zs_len h)
 have Hm := Lib.hid h
 have Hk := Lib.hid hk
 clear h hk
 go_enter Tryd.func14, Tryd.ntmps14
 go_wp2_with (refine wpList_iload 34 _ rfl rfl H 0 71 rfl _ Tryd.underlying34 rfl size_Macro (by rw [Hl.out]; omega) _ (by rw [sub_all _ _ Hl.out]) ?_)
 refine (impl_kindOf_2 m _ Hm.out Hk.out).mono ?_
 rintro e w1 ⟨rfl, e1⟩
 have H1 := H.ext e1
 have E1 := (Ext.alloc w (.cells (ic m.zs) 34)).trans e1
 clear H e1
 go_wp2_with (first | (refine wpList_iload 27 _ rfl rfl H1 1 2 rfl _ Tryd.underlying27 rfl size_Vector (by rw [Hl.out]; omega) _ Mac.zs_mv ?_))
 refine (impl_VectorValid_no m.x m.y _ hv).mono ?_
 rintro e w2 ⟨rfl, e2⟩
 clear hv H1
 go_wp2
 go_ret
 exact ⟨rfl, E1.trans e2⟩
set_option maxRecDepth 100000 in
theorem impl_MacroValid_nokind (m : Mac) (w : World) (h : m.ok) (hk : m.kind < 0 ∨ 2 < m.kind) :
 Calls Tryd.prog 14 #[.agg (ic m.zs)] w fun e w' => e = .returned (.bool false) ∧ Ext w w' := by
 have H := IB.new w 34 m.zs
 have Hl := Lib.hid (Mac.zs_len h)
 have Hm := Lib.hid h
 have Hk := Lib.hid hk
 clear h hk
 go_enter Tryd.func14, Tryd.ntmps14
 go_wp2_with (refine wpList_iload 34 _ rfl rfl H 0 71 rfl _ Tryd.underlying34 rfl size_Macro (by rw [Hl.out]; omega) _ (by rw [sub_all _ _ Hl.out]) ?_)
 refine (impl_kindOf_no m _ Hm.out Hk.out).mono ?_
 rintro e w1 ⟨rfl, e1⟩
 have H1 := H.ext e1
 have E1 := (Ext.alloc w (.cells (ic m.zs) 34)).trans e1
 clear H e1
 go_wp2
 go_ret
 exact ⟨rfl, E1⟩
theorem impl_MacroValid_any (m : Mac) (w : World) (h : m.ok) :
 Calls Tryd.prog 14 #[.agg (ic m.zs)] w fun e w' => e = .returned (.bool (decide m.valid)) ∧ Ext w w' := by
 by_cases hk : 0 ≤ m.kind ∧ m.kind ≤ 2
 ·have hlv := inB_blocks (B := 4080) h.lv
  by_cases hv : vv m.x m.y
  ·have step : ∀ r : Bool, (r = true ↔ m.valid) → decide m.valid = r := fun r hr => by
    cases r
    ·exact decide_eq_false (fun h => by have := hr.2 h; cases this)
    ·exact decide_eq_true (hr.1 rfl)
   obtain hk0 | hk1 | hk2 : m.kind = 0 ∨ m.kind = 1 ∨ m.kind = 2 := by omega
   ·by_cases hf : m.x = 0 ∧ m.y = 0 ∧ m.modes = zero4 ∧ m.lv = zero64
    ·rw [step (inB 4080 m.lv) ⟨fun hb => ⟨hk, hv, fun _ => ⟨hf.1, hf.2.1⟩, fun _ => hf.2.2.1, fun h => by omega, fun _ => hf.2.2.2, hb⟩, fun h => h.2.2.2.2.2.2⟩]
     refine impl_MacroValid_lv0 m w h hk0 hv hf.2.2 ⟨hf.1, hf.2.1⟩ _ (fun k hk hb => ?_) (fun hb => hlv.2 hb)
     cases hc : inB 4080 m.lv
     ·rfl
     ·have := hlv.1 hc k hk; rw [hb] at this; cases this
    ·rw [step false ⟨fun h => (by cases h), fun h => absurd ⟨(h.2.2.1 (by omega)).1, (h.2.2.1 (by omega)).2, h.2.2.2.1 (by omega), h.2.2.2.2.2.1 hk0⟩ hf⟩]
     exact impl_MacroValid_nofit0 m w h hk0 hv hf
   ·by_cases hf : m.modes = zero4
    ·rw [step (inB 4080 m.lv) ⟨fun hb => ⟨hk, hv, fun h => absurd hk1 h, fun _ => hf, fun h => by omega, fun h => by omega, hb⟩, fun h => h.2.2.2.2.2.2⟩]
     refine impl_MacroValid_lv1 m w h hk1 hv hf _ (fun k hk hb => ?_) (fun hb => hlv.2 hb)
     cases hc : inB 4080 m.lv
     ·rfl
     ·have := hlv.1 hc k hk; rw [hb] at this; cases this
    ·rw [step false ⟨fun h => (by cases h), fun h => absurd (h.2.2.2.1 (by omega)) hf⟩]
     exact impl_MacroValid_nofit1 m w h hk1 hv hf
   ·by_cases hf : ∀ j, j < 4 → 0 ≤ nth m.modes j ∧ nth m.modes j ≤ 4
    ·by_cases hxy : m.x = 0 ∧ m.y = 0
     ·rw [step (inB 4080 m.lv) ⟨fun hb => ⟨hk, hv, fun _ => hxy, fun h => absurd hk2 h, fun _ => hf, fun h => by omega, hb⟩, fun h => h.2.2.2.2.2.2⟩]
      refine impl_MacroValid_lv2 m w h hk2 hv hf hxy _ (fun k hk hb => ?_) (fun hb => hlv.2 hb)
      cases hc : inB 4080 m.lv
      ·rfl
      ·have := hlv.1 hc k hk; rw [hb] at this; cases this
     ·rw [step false ⟨fun h => (by cases h), fun h => absurd (h.2.2.1 (by omega)) hxy⟩]
      exact impl_MacroValid_nofit2b m w h hk2 hv ⟨hf, hxy⟩
    ·rw [step false ⟨fun h => (by cases h), fun h => absurd (h.2.2.2.2.1 hk2) hf⟩]
     exact impl_MacroValid_nofit2 m w h hk2 hv hf
  ·rw [show decide m.valid = false from decide_eq_false (fun h => hv h.2.1)]
   obtain hk0 | hk1 | hk2 : m.kind = 0 ∨ m.kind = 1 ∨ m.kind = 2 := by omega
   ·exact impl_MacroValid_novec0 m w h hk0 hv
   ·exact impl_MacroValid_novec1 m w h hk1 hv
   ·exact impl_MacroValid_novec2 m w h hk2 hv
 ·rw [show decide m.valid = false from decide_eq_false (fun h => hk h.1)]
  exact impl_MacroValid_nokind m w h (by omega)
end Go.Proofs.YtbnhaegidfbgbaaDoor
namespace Go.Proofs.YtbnhaegidfbgbaaDoor
open Go.RowKit
set_option maxHeartbeats 1000000
set_option maxRecDepth 100000 in
theorem appendMacro_skip (v0 : Value) (N0 : Nat) (xs0 : List Int) (m : Mac) (B0 : Nat) (w : World) (own : w.ownsRow B0 141 2 v0 N0 (xs0.map (Value.int .i64))) (hB : B0 ≤ w.heap.size) (hN : N0 ≤ 100000) (hm : m.ok) (h0 : m.kind = 0) :
 Calls Tryd.prog 141 #[v0, .agg (ic m.zs), .bool false] w fun e w' => ∃ a c, e = .returned (.slice a (N0 + macN m) c) ∧ w'.ownsRow B0 141 2 (.slice a (N0 + macN m) c) (N0 + macN m) ((xs0 ++ macL m).map (Value.int .i64)) ∧ FR B0 141 w w' := by
 have Hl := Lib.hid (Mac.zs_len hm)
 obtain ⟨a0, c0, rfl⟩ := owns_form own
 obtain ⟨Bx, hBx⟩ : ∃ Bx, Bx = w.heap.size := ⟨_, rfl⟩
 have E1 := (Ext.alloc w (.cells #[.slice a0 N0 c0] 129)).trans (Ext.alloc _ (.cells (ic m.zs) 34))
 have b0 : BB ((w.alloc (.cells #[.slice a0 N0 c0] 129)).alloc (.cells (ic m.zs) 34)) Bx (.slice a0 N0 c0) := by rw [hBx]; exact (Ext.alloc _ _).blk (blk_new w _)
 have I1 := IB.new (w.alloc (.cells #[.slice a0 N0 c0] 129)) 34 m.zs
 rw [World.size_alloc, ← hBx] at I1
 have o0 := owns_ext own E1
 have hs1 : ((w.alloc (.cells #[.slice a0 N0 c0] 129)).alloc (.cells (ic m.zs) 34)).heap.size = Bx + 2 := by simp [hBx]
 have hk := I1.cell (i := 0) (by rw [Mac.zs_len hm]; omega)
 rw [Mac.zs_kind, h0] at hk
 have HN := Lib.hid (show macN m = 1 by rw [macN, if_pos h0])
 have HL := Lib.hid (show macL m = [0, 0] by rw [macL, if_pos h0])
 have F1 : FR B0 141 w ((w.alloc (.cells #[.slice a0 N0 c0] 129)).alloc (.cells (ic m.zs) 34)) := FR.of_ext E1 hB
 have HBx := Lib.hid hBx
 have HS1 := Lib.hid hs1
 clear h0 hs1
 go_enter Tryd.func141, Tryd.ntmps141
 go_upto_region 1 with fail
 try simp only [World.size_alloc]
 rw [← hBx]
 generalize (w.alloc (.cells #[.slice a0 N0 c0] 129)).alloc (.cells (ic m.zs) 34) = w1 at *
 clear hBx
 obtain ⟨k0, k1⟩ := b0.cell
 have hB1 : B0 ≤ w1.heap.size := by rw [HS1.out]; have := HBx.out; omega
 go_wp2_with (at_builtin; refine wpList_appk _ rfl (o0.alloc _) (by simp; omega) _ _ 129 rfl (.agg #[.int .i64 0, .int .i64 0]) 16 Tryd.underlying129 info_Bin rfl (by decide) rfl ⟨w1.heap.size, 0, none⟩ 1 1 [.int .i64 0, .int .i64 0] rfl rfl ((Sl_new w1 [.int .i64 0, .int .i64 0] 141).cellsOf _ (by simp)) (by intro u hu; simp at hu; subst hu; rfl) (by omega) (by omega) ?_; intro v2 w2 own2 gr2 _; refine Hid.out ?_)
 refine Lib.hid ?_
 obtain ⟨a2, c2, rfl⟩ := owns_form own2
 have FA := (FR.of_ext (B := B0) (T := 141) (Ext.alloc w1 (.cells #[.int .i64 0, .int .i64 0] 141)) hB1).trans (FR.of_row (o0.alloc _) gr2 (by simp; omega))
 have o2 := ownc own2 (show _ = (xs0 ++ [0, 0]).map (Value.int .i64) by simp)
 go_wp2
 go_ret
 rw [HN.out, HL.out]
 exact ⟨_, _, rfl, o2, F1.trans FA⟩
theorem appendMacro_any (v0 : Value) (N0 : Nat) (xs0 : List Int) (m : Mac) (B0 : Nat) (w : World) (own : w.ownsRow B0 141 2 v0 N0 (xs0.map (Value.int .i64))) (hB : B0 ≤ w.heap.size) (hN : N0 ≤ 100000) (hm : m.ok) (hv : m.valid) :
 Calls Tryd.prog 141 #[v0, .agg (ic m.zs), .bool false] w fun e w' => ∃ a c, e = .returned (.slice a (N0 + macN m) c) ∧ w'.ownsRow B0 141 2 (.slice a (N0 + macN m) c) (N0 + macN m) ((xs0 ++ macL m).map (Value.int .i64)) ∧ FR B0 141 w w' := by
 by_cases h0 : m.kind = 0
 ·exact appendMacro_skip v0 N0 xs0 m B0 w own hB hN hm h0
 ·exact appendMacro_some v0 N0 xs0 m B0 w own hB hN hm hv h0
set_option maxRecDepth 100000 in
theorem impl_MacroBins_in (m : Mac) (w : World) (hm : m.ok) (hv : m.valid) :
 Calls Tryd.prog 121 #[.agg (ic m.zs), .bool false] w fun e w' => ∃ a c, e = .returned (.slice a (macN m) c) ∧ w'.ownsRow w.heap.size 141 2 (.slice a (macN m) c) (macN m) ((macL m).map (Value.int .i64)) ∧ Ext w w' := by
 have Hl := Lib.hid (Mac.zs_len hm)
 have Hm := Lib.hid hm
 have HV := Lib.hid hv
 have HD := Lib.hid (show decide m.valid = true from decide_eq_true hv)
 obtain ⟨Bx, hBx⟩ : ∃ Bx, Bx = w.heap.size := ⟨_, rfl⟩
 have E1 := Ext.alloc w (.cells (ic m.zs) 34)
 have I1 := IB.new w 34 m.zs
 have hz := I1.lt
 rw [← hBx] at I1
 have hm1 := hm
 clear hm hv
 go_enter Tryd.func121, Tryd.ntmps121
 go_upto_region 1 with fail
 rw [← hBx]
 generalize w.alloc (.cells (ic m.zs) 34) = w1 at *
 have HBx := Lib.hid hBx
 have hBl : w.heap.size ≤ Bx := by omega
 clear hBx
 go_wp2_with (refine wpList_iload 34 _ rfl rfl I1 0 71 rfl _ Tryd.underlying34 rfl size_Macro (by rw [Hl.out]; omega) _ (by rw [sub_all _ _ Hl.out]) ?_)
 refine (impl_MacroValid_any m _ Hm.out).mono ?_
 rw [HD.out]
 rintro e w2 ⟨rfl, e2⟩
 have I2 := I1.ext e2
 have E2 := E1.trans e2
 go_wp2_with (refine wpList_iload 34 _ rfl rfl I2 0 71 rfl _ Tryd.underlying34 rfl size_Macro (by rw [Hl.out]; omega) _ (by rw [sub_all _ _ Hl.out]) ?_)
 have hB2 : w.heap.size ≤ w2.heap.size := by have := e2.size; omega
 refine (appendMacro_any _ 0 [] m w.heap.size _ (World.ownsRow_nil _ _ _ _) hB2 (by omega) Hm.out HV.out).mono ?_
 rintro e w3 ⟨a, c, rfl, o3, f3⟩
 go_wp2
 go_ret
 have hz : 0 + macN m = macN m := Nat.zero_add _
 rw [hz] at o3
 exact ⟨_, _, rfl, o3, FR.ext E2 f3 (Nat.le_refl _)⟩
end Go.Proofs.YtbnhaegidfbgbaaDoor
namespace Go.Proofs.YtbnhaegidfbgbaaDoor
open Go.RowKit
set_option maxHeartbeats 400000
/-- The nearest number in lo..hi. -/
def clipI (n lo hi : Int) : Int := max lo (min hi n)
theorem clipI_lo {n lo hi : Int} (h : lo ≤ hi) : lo ≤ clipI n lo hi ∧ clipI n lo hi ≤ hi := by unfold clipI; omega
theorem clipI_in {n lo hi : Int} (h1 : lo ≤ n) (h2 : n ≤ hi) : clipI n lo hi = n := by unfold clipI; omega
/-- The absolute value. -/
def absI (n : Int) : Int := if n < 0 then -n else n
theorem tdiv_floor {n d : Int} (h : n < 0) (hd : 1 ≤ d) : n ≤ n.tdiv d ∧ n.tdiv d ≤ 0 ∧ (n.tmod d < 0 → n.tdiv d - 1 = n / d) ∧ (¬ n.tmod d < 0 → n.tdiv d = n / d) := by
 obtain ⟨m, rfl⟩ : ∃ m : Int, n = -m := ⟨-n, by omega⟩
 have e1 : (-m).tdiv d = -(m / d) := by rw [Int.neg_tdiv, Int.tdiv_eq_ediv_of_nonneg (by omega)]
 have e2 : (-m).tmod d = -(m % d) := by rw [Int.neg_tmod, Int.tmod_eq_emod_of_nonneg (by omega)]
 have hq : m / d ≤ m := Int.ediv_le_self _ (by omega)
 have hq0 : 0 ≤ m / d := Int.ediv_nonneg (by omega) (by omega)
 have hr0 := Int.emod_nonneg m (show d ≠ 0 by omega)
 have hr1 := Int.emod_lt_of_pos m (show 0 < d by omega)
 have hdm := Int.mul_ediv_add_emod m d
 rw [e1, e2]
 refine ⟨by omega, by omega, fun h1 => ?_, fun h1 => ?_⟩
 ·symm
  refine (Int.ediv_eq_iff_of_pos (by omega)).2 ?_
  have : d * (-(m / d) - 1) = -(d * (m / d)) - d := by rw [Int.mul_sub, Int.mul_neg, Int.mul_one]
  constructor
  ·rw [Int.mul_comm]; omega
  ·rw [Int.mul_comm]; omega
 ·symm
  have hr : m % d = 0 := by omega
  rw [hr] at hdm
  refine (Int.ediv_eq_iff_of_pos (by omega)).2 ?_
  constructor
  ·rw [Int.mul_comm, Int.mul_neg]; omega
  ·rw [Int.mul_comm, Int.mul_neg]; omega
theorem l1Clip_any (n lo hi : Int) (w : World) : Calls Tryd.prog 134 #[.int .i64 n, .int .i64 lo, .int .i64 hi] w fun e w' => e = .returned (.int .i64 (clipI n lo hi)) ∧ w = w' := by
 go_enter Tryd.func134, Tryd.ntmps134
 go_wp2
 all_goals
  go_ret
  exact ⟨ret_int (by unfold clipI; omega), rfl⟩
theorem clamp_any (n lo hi : Int) (w : World) (h : lo ≤ hi) : Calls Tryd.prog 112 #[.int .i64 n, .int .i64 lo, .int .i64 hi] w fun e w' => e = .returned (.int .i64 (clipI n lo hi)) ∧ w = w' := by
 go_enter Tryd.func112, Tryd.ntmps112
 go_wp2
 all_goals
  go_ret
  exact ⟨ret_int (by unfold clipI; omega), rfl⟩
theorem l7Floor_any (n d : Int) (w : World) (h1 : -1099511627776 ≤ n) (h2 : n ≤ 1099511627776) (hd : 1 ≤ d) (hd2 : d ≤ 1048576) : Calls Tryd.prog 142 #[.int .i64 n, .int .i64 d] w fun e w' => e = .returned (.int .i64 (n / d)) ∧ w = w' := by
 by_cases h0 : 0 ≤ n
 ·have hd0 : decide (n % d < 0) = false := by
   have := Int.emod_nonneg n (show d ≠ 0 by omega)
   simp; omega
  go_enter Tryd.func142, Tryd.ntmps142
  go_wp2
  go_ret
  exact ⟨rfl, rfl⟩
 ·obtain ⟨t1, t2, t3, t4⟩ := tdiv_floor (by omega : n < 0) hd
  have T3 := Lib.hid t3
  have T4 := Lib.hid t4
  clear t3 t4
  by_cases hm : n.tmod d < 0
  ·have hd0 : decide (n.tmod d < 0) = true := by simpa using hm
   go_enter Tryd.func142, Tryd.ntmps142
   go_wp2
   go_ret
   exact ⟨ret_int (T3.out hm), rfl⟩
  ·have hd0 : decide (n.tmod d < 0) = false := by simpa using hm
   go_enter Tryd.func142, Tryd.ntmps142
   go_wp2
   go_ret
   exact ⟨ret_int (T4.out hm), rfl⟩
end Go.Proofs.YtbnhaegidfbgbaaDoor
namespace Go.Proofs.YtbnhaegidfbgbaaDoor
open Go.RowKit
set_option maxHeartbeats 1000000
/-- The sum of f's first n numbers. -/
def sumZ (f : Nat → Int) : Nat → Int
 | 0 => 0
 | n + 1 => sumZ f n + f n
theorem sumZ_rng {f : Nat → Int} {B : Int} {n : Nat} (h : ∀ i, i < n → -B ≤ f i ∧ f i ≤ B) : -(n * B) ≤ sumZ f n ∧ sumZ f n ≤ n * B := by
 induction n with
 | zero => simp [sumZ]
 | succ n ih =>
  have h1 := ih (fun i hi => h i (by omega))
  have h2 := h n (by omega)
  have e : ((n + 1 : Nat) : Int) * B = n * B + B := by rw [Int.natCast_add, Int.add_mul]; omega
  simp only [sumZ]
  rw [e]
  omega
/-- The matrix's entries. -/
def sgn (u y : Nat) : Int := nth [1, 1, 1, 1, 1, 1, -1, -1, 1, -1, -1, 1, 1, -1, 1, -1] (4 * u + y)
theorem sgn_one {u y : Nat} (hu : u < 4) (hy : y < 4) : sgn u y = 1 ∨ sgn u y = -1 := by
 have : ∀ u, u < 4 → ∀ y, y < 4 → sgn u y = 1 ∨ sgn u y = -1 := by decide
 exact this u hu y hy
def hadT (b : List Int) (u v t : Nat) : Int := sgn u (t / 4) * sgn v (t % 4) * nth b t
def had (b : List Int) : List Int := (List.range 16).map fun k => sumZ (hadT b (k / 4) (k % 4)) 16
theorem had_len (b : List Int) : (had b).length = 16 := by simp [had]
theorem nth_had (b : List Int) (k : Nat) (h : k < 16) : nth (had b) k = sumZ (hadT b (k / 4) (k % 4)) 16 := by
 simp [nth, had, h]
theorem hadT_rng {b : List Int} {B : Int} {u v t : Nat} (hb : -B ≤ nth b t ∧ nth b t ≤ B) (hu : u < 4) (hv : v < 4) (ht : t < 16) : -B ≤ hadT b u v t ∧ hadT b u v t ≤ B := by
 unfold hadT
 rcases sgn_one hu (show t / 4 < 4 by omega) with h | h <;> rcases sgn_one hv (show t % 4 < 4 by omega) with h2 | h2 <;> rw [h, h2] <;> omega
theorem had_rng {b : List Int} {B : Int} (hb : ∀ t, t < 16 → -B ≤ nth b t ∧ nth b t ≤ B) {k : Nat} (hk : k < 16) : -(16 * B) ≤ nth (had b) k ∧ nth (had b) k ≤ 16 * B := by
 rw [nth_had _ _ hk]
 have := sumZ_rng (f := hadT b (k / 4) (k % 4)) (B := B) (n := 16) (fun i hi => hadT_rng (hb i hi) (by omega) (by omega) hi)
 simpa using this
/-- Four numbers, a step apart, transformed. -/
def bfS (zs : List Int) (i st : Nat) : List Int :=
 (((zs.set i (nth zs i + nth zs (i + st) + nth zs (i + 2 * st) + nth zs (i + 3 * st))).set (i + st) (nth zs i + nth zs (i + st) - nth zs (i + 2 * st) - nth zs (i + 3 * st))).set (i + 2 * st) (nth zs i - nth zs (i + st) - nth zs (i + 2 * st) + nth zs (i + 3 * st))).set (i + 3 * st) (nth zs i - nth zs (i + st) + nth zs (i + 2 * st) - nth zs (i + 3 * st))
def bfR (zs : List Int) : Nat → List Int
 | 0 => zs
 | k + 1 => bfS (bfR zs k) (4 * k) 1
def bfC (zs : List Int) : Nat → List Int
 | 0 => zs
 | k + 1 => bfS (bfC zs k) k 4
theorem list16 {zs : List Int} (h : zs.length = 16) : ∃ a0 a1 a2 a3 a4 a5 a6 a7 a8 a9 a10 a11 a12 a13 a14 a15 : Int, zs = [a0, a1, a2, a3, a4, a5, a6, a7, a8, a9, a10, a11, a12, a13, a14, a15] := by
 match zs, h with
 | [a0, a1, a2, a3, a4, a5, a6, a7, a8, a9, a10, a11, a12, a13, a14, a15], _ => exact ⟨a0, a1, a2, a3, a4, a5, a6, a7, a8, a9, a10, a11, a12, a13, a14, a15, rfl⟩
theorem had_lit (a0 a1 a2 a3 a4 a5 a6 a7 a8 a9 a10 a11 a12 a13 a14 a15 : Int) : had [a0, a1, a2, a3, a4, a5, a6, a7, a8, a9, a10, a11, a12, a13, a14, a15] =
 [a0+a1+a2+a3+a4+a5+a6+a7+a8+a9+a10+a11+a12+a13+a14+a15,
  a0+a1-a2-a3+a4+a5-a6-a7+a8+a9-a10-a11+a12+a13-a14-a15,
  a0-a1-a2+a3+a4-a5-a6+a7+a8-a9-a10+a11+a12-a13-a14+a15,
  a0-a1+a2-a3+a4-a5+a6-a7+a8-a9+a10-a11+a12-a13+a14-a15,
  a0+a1+a2+a3+a4+a5+a6+a7-a8-a9-a10-a11-a12-a13-a14-a15,
  a0+a1-a2-a3+a4+a5-a6-a7-a8-a9+a10+a11-a12-a13+a14+a15,
  a0-a1-a2+a3+a4-a5-a6+a7-a8+a9+a10-a11-a12+a13+a14-a15,
  a0-a1+a2-a3+a4-a5+a6-a7-a8+a9-a10+a11-a12+a13-a14+a15,
  a0+a1+a2+a3-a4-a5-a6-a7-a8-a9-a10-a11+a12+a13+a14+a15,
  a0+a1-a2-a3-a4-a5+a6+a7-a8-a9+a10+a11+a12+a13-a14-a15,
  a0-a1-a2+a3-a4+a5+a6-a7-a8+a9+a10-a11+a12-a13-a14+a15,
  a0-a1+a2-a3-a4+a5-a6+a7-a8+a9-a10+a11+a12-a13+a14-a15,
  a0+a1+a2+a3-a4-a5-a6-a7+a8+a9+a10+a11-a12-a13-a14-a15,
  a0+a1-a2-a3-a4-a5+a6+a7+a8+a9-a10-a11-a12-a13+a14+a15,
  a0-a1-a2+a3-a4+a5+a6-a7+a8-a9-a10+a11-a12+a13+a14-a15,
  a0-a1+a2-a3-a4+a5-a6+a7+a8-a9+a10-a11-a12+a13-a14+a15] := by
 simp only [had, List.range, List.range.loop, List.map, sumZ, hadT, sgn, Nat.reduceDiv, Nat.reduceMod, Nat.reduceMul, Nat.reduceAdd, nth, List.getD_cons_succ, List.getD_cons_zero, List.cons.injEq, and_true]
 refine ⟨?_, ?_, ?_, ?_, ?_, ?_, ?_, ?_, ?_, ?_, ?_, ?_, ?_, ?_, ?_, ?_⟩ <;> omega
theorem bf_had {zs : List Int} (h : zs.length = 16) : bfC (bfR zs 4) 4 = had zs := by
 obtain ⟨a0, a1, a2, a3, a4, a5, a6, a7, a8, a9, a10, a11, a12, a13, a14, a15, rfl⟩ := list16 h
 rw [had_lit]
 simp only [bfC, bfR, bfS, Nat.reduceMul, Nat.reduceAdd, nth, List.getD_cons_succ, List.getD_cons_zero, List.set_cons_succ, List.set_cons_zero, List.cons.injEq, and_true]
 refine ⟨?_, ?_, ?_, ?_, ?_, ?_, ?_, ?_, ?_, ?_, ?_, ?_, ?_, ?_, ?_, ?_⟩ <;> omega
def ihad (b : List Int) : List Int := (had b).map fun n => (n + 8) / 16
end Go.Proofs.YtbnhaegidfbgbaaDoor
namespace Go.Proofs.YtbnhaegidfbgbaaDoor
open Go.RowKit
set_option maxHeartbeats 1000000
/-- A picture: its sides and its samples. -/
structure Pic where
 w : Int
 h : Int
 px : List Int
/-- All numbers are samples. -/
def smp (zs : List Int) : Prop := ∀ z ∈ zs, 0 ≤ z ∧ z ≤ 255
instance decSmp (zs : List Int) : Decidable (smp zs) := by unfold smp; infer_instance
def side (n : Int) : Prop := 8 ≤ n ∧ n ≤ 32 ∧ n % 8 = 0
instance decSide (n : Int) : Decidable (side n) := by unfold side; infer_instance
def Pic.valid (p : Pic) : Prop := side p.w ∧ side p.h ∧ (p.px.length : Int) = p.w * p.h ∧ smp p.px
instance decPicValid (p : Pic) : Decidable p.valid := by unfold Pic.valid; infer_instance
def pic0 : Pic := ⟨0, 0, []⟩
theorem smp_nth {zs : List Int} (h : smp zs) {i : Nat} (hi : i < zs.length) : 0 ≤ nth zs i ∧ nth zs i ≤ 255 := by
 rw [nth_eq _ _ hi]; exact h _ (List.getElem_mem hi)
theorem smp_of_nth {zs : List Int} (h : ∀ i, i < zs.length → 0 ≤ nth zs i ∧ nth zs i ≤ 255) : smp zs := by
 intro z hz
 obtain ⟨i, hi, rfl⟩ := List.getElem_of_mem hz
 rw [← nth_eq _ _ hi]
 exact h i hi
/-- The number of samples. -/
theorem area_le {a b : Int} (h1 : side a) (h2 : side b) : 64 ≤ a * b ∧ a * b ≤ 1024 := by
 obtain ⟨a1, a2, -⟩ := h1
 obtain ⟨b1, b2, -⟩ := h2
 constructor
 ·have := Int.mul_le_mul a1 b1 (by omega) (by omega); omega
 ·have := Int.mul_le_mul a2 b2 (by omega) (by omega); omega
theorem Pic.len_le {p : Pic} (h : p.valid) : 64 ≤ p.px.length ∧ p.px.length ≤ 1024 := by
 have := area_le h.1 h.2.1
 have := h.2.2.1
 omega
theorem sl_bound {w : World} {a : Option Addr} {n : Nat} {zs : List Int} (h : Sl w a n (zs.map (Value.int .i64))) (y : Addr) (hy : a = some y) (h0 : 0 < n) : y.block < w.heap.size := by
 obtain ⟨b, o, e, c⟩ := h.int h0
 rw [hy] at e
 simp only [Option.some.injEq] at e
 subst e
 exact World.block_lt_of_cell? w _ c
theorem szIntS_any (a : Option Addr) (c n : Nat) (left : Int) (w : World) (hn : n ≤ 9223372036854775807) (h0 : 0 ≤ left) (h1 : left ≤ 1048576) :
 Calls Tryd.prog 59 #[.slice a n c, .int .i64 left] w fun e w' => e = .returned (.int .i64 (if left - n < 0 then -1 else left - n)) ∧ w = w' := by
 go_enter Tryd.func59, Tryd.ntmps59
 by_cases h : left - n < 0
 ·rw [if_pos h]
  go_wp2
  go_ret
  exact ⟨rfl, rfl⟩
 ·rw [if_neg h]
  have hd : decide (left - (n : Int) < 0) = false := by simpa using h
  go_wp2
  go_ret
  exact ⟨rfl, rfl⟩
theorem szPicture_any (x y : Int) (a : Option Addr) (c n : Nat) (left : Int) (w : World) (hn : n ≤ 9223372036854775807) (h0 : 0 ≤ left) (h1 : left ≤ 1048576) :
 Calls Tryd.prog 17 #[.agg #[.int .i64 x, .int .i64 y, .slice a n c], .int .i64 left] w fun e w' => e = .returned (.int .i64 (if left - n < 0 then -1 else left - n)) ∧ Ext w w' := by
 go_enter Tryd.func17, Tryd.ntmps17
 go_wp2_with fail
 refine (szIntS_any a c n left _ hn h0 h1).mono ?_
 rintro e w1 ⟨rfl, rfl⟩
 by_cases h : left - n < 0
 ·rw [if_pos h]
  go_wp2
  go_ret
  refine ⟨rfl, ?_⟩
  (repeat (first | with_reducible exact Below.refl _ _ | assumption | with_reducible refine below_drewN ?_ _ | with_reducible refine Below.drew ?_ | with_reducible refine Below.setCell ?_ (by simp <;> omega) _ | with_reducible refine Ext.trans ?_ (Ext.alloc _ _)))
 ·rw [if_neg h]
  have hd : decide (left - (n : Int) < 0) = false := by simpa using h
  go_wp2
  go_ret
  refine ⟨rfl, ?_⟩
  (repeat (first | with_reducible exact Below.refl _ _ | assumption | with_reducible refine below_drewN ?_ _ | with_reducible refine Below.drew ?_ | with_reducible refine Below.setCell ?_ (by simp <;> omega) _ | with_reducible refine Ext.trans ?_ (Ext.alloc _ _)))
theorem size_Picture : (Tryd.prog.info? 25).map (·.size) = some 3 := by kernel_rfl
theorem toPicture_any (x y : Int) (a : Option Addr) (n c : Nat) (xs : List Int) (w : World) (hn : n < 2^45) (r : Sl w a n (xs.map (Value.int .i64))) :
 Calls Tryd.prog 19 #[.agg #[.int .i64 x, .int .i64 y, .slice a n c]] w fun e w' => ∃ a' c', e = .returned (.agg #[.int .i64 x, .int .i64 y, .slice a' n c']) ∧ w'.ownsRow w.heap.size 3 1 (.slice a' n c') n (xs.map (Value.int .i64)) ∧ Ext w w' := by
 go_enter Tryd.func19, Tryd.ntmps19
 have p1 := blk_alloc (blk_new (w.alloc (.cells #[.int .i64 x, .int .i64 y, .slice a n c] 42)) (.cells #[.int .i64 0, .int .i64 0, .slice none 0 0] 25)) (.cells #[.int .i64 x, .int .i64 y, .slice none 0 0] 25)
 have p2 := blk_new ((w.alloc (.cells #[.int .i64 x, .int .i64 y, .slice a n c] 42)).alloc (.cells #[.int .i64 0, .int .i64 0, .slice none 0 0] 25)) (.cells #[.int .i64 x, .int .i64 y, .slice none 0 0] 25)
 simp only [World.size_alloc] at p1 p2
 go_wp2_with fail
 refine (toIntS_any a c n xs _ hn (r.ext (by (repeat (first | with_reducible exact Below.refl _ _ | assumption | with_reducible refine below_drewN ?_ _ | with_reducible refine Below.drew ?_ | with_reducible refine Below.setCell ?_ (by simp <;> omega) _ | with_reducible refine Ext.trans ?_ (Ext.alloc _ _)))))).mono ?_
 rintro e w1 ⟨v, rfl, own1, e1⟩
 obtain ⟨a1, c1, rfl⟩ := owns_form own1
 have E1 : Ext w w1 := by refine Ext.trans ?_ e1; (repeat (first | with_reducible exact Below.refl _ _ | assumption | with_reducible refine below_drewN ?_ _ | with_reducible refine Below.drew ?_ | with_reducible refine Below.setCell ?_ (by simp <;> omega) _ | with_reducible refine Ext.trans ?_ (Ext.alloc _ _)))
 have q1 := e1.blk p1
 have q2 := e1.blk p2
 simp only [World.size_alloc] at own1
 clear p1 p2 e1
 obtain ⟨m0, m1, m2, m3, f0, f1, f2⟩ := bx3 q1
 obtain ⟨n0, n1, n2, n3, g0, g1, g2⟩ := bx3 q2
 have Q1 := Lib.hid q1
 clear q1 q2
 go_wp2
 refine bodyPost_ret (v := .agg #[.int .i64 x, .int .i64 y, .slice a1 n c1]) (results_cell_row rfl _ _ (w.heap.size + 1) 25 #[.int .i64 x, .int .i64 y, .slice a1 n c1] (0, 0) _ rfl (blk_set3 (blk_set_other Q1.out (by omega))) Tryd.underlying25 rfl size_Picture) rfl ⟨_, _, rfl, ?_, ?_⟩
 ·refine owns_mono (base := w.heap.size + 1 + 1 + 1) ?_ (by omega)
  (repeat refine ownsRow_setCell_below ?_ (by simp <;> omega) _)
  exact own1
 ·(repeat (with_reducible refine Below.setCell ?_ (by simp <;> omega) _))
  exact E1
theorem eqIntS_same (a1 a2 : Option Addr) (c1 c2 n : Nat) (xs : List Int) (w : World) (hn : n < 2^47) (r1 : Sl w a1 n (xs.map (Value.int .i64))) (r2 : Sl w a2 n (xs.map (Value.int .i64))) :
 Calls Tryd.prog 67 #[.slice a1 n c1, .slice a2 n c2] w fun e w' => e = .returned (.bool true) ∧ ∃ m, w' = w.drewN m := by
 refine (eqIntS_any a1 a2 c1 c2 n n xs xs w hn hn r1 r2).mono ?_
 rintro e w' ⟨rfl, h⟩
 exact ⟨by rw [decide_eq_true rfl], h⟩
theorem eqPicture_same (x y : Int) (a b : Option Addr) (c d n : Nat) (xs : List Int) (w : World) (hn : n < 2^45) (r1 : Sl w a n (xs.map (Value.int .i64))) (r2 : Sl w b n (xs.map (Value.int .i64))) :
 Calls Tryd.prog 21 #[.agg #[.int .i64 x, .int .i64 y, .slice a n c], .agg #[.int .i64 x, .int .i64 y, .slice b n d]] w fun e w' => e = .returned (.bool true) ∧ Ext w w' := by
 go_enter Tryd.func21, Tryd.ntmps21
 go_wp2_with fail
 refine (eqIntS_same a b c d n xs _ (by omega) (r1.ext (by (repeat (first | with_reducible exact Below.refl _ _ | assumption | with_reducible refine below_drewN ?_ _ | with_reducible refine Below.drew ?_ | with_reducible refine Below.setCell ?_ (by simp <;> omega) _ | with_reducible refine Ext.trans ?_ (Ext.alloc _ _))))) (r2.ext (by (repeat (first | with_reducible exact Below.refl _ _ | assumption | with_reducible refine below_drewN ?_ _ | with_reducible refine Below.drew ?_ | with_reducible refine Below.setCell ?_ (by simp <;> omega) _ | with_reducible refine Ext.trans ?_ (Ext.alloc _ _)))))).mono ?_
 rintro e w1 ⟨rfl, m, rfl⟩
 go_wp2
 go_ret
 refine ⟨rfl, ?_⟩
 (repeat (first | with_reducible exact Below.refl _ _ | assumption | with_reducible refine below_drewN ?_ _ | with_reducible refine Below.drew ?_ | with_reducible refine Below.setCell ?_ (by simp <;> omega) _ | with_reducible refine Ext.trans ?_ (Ext.alloc _ _)))
end Go.Proofs.YtbnhaegidfbgbaaDoor
namespace Go.Proofs.YtbnhaegidfbgbaaDoor
open Go.RowKit
set_option maxHeartbeats 1000000
/-- The steps. -/
def stepL : List Int := [1, 2, 4, 8, 12, 16, 24, 32, 48, 64, 96, 128, 192, 256, 384, 512]
def stp (q : Nat) : Int := nth stepL q
theorem stp_rng {q : Nat} (h : q < 16) : 1 ≤ stp q ∧ stp q ≤ 512 := by
 have : ∀ q, q < 16 → 1 ≤ stp q ∧ stp q ≤ 512 := by decide
 exact this q h
/-- |c| divided by s, rounded. -/
def rnd (c s : Int) : Int := (2 * c + s) / (2 * s)
def qz (c : Int) (q : Nat) : Int := if c < 0 then -rnd (-c) (stp q) else rnd c (stp q)
def dq (l : Int) (q : Nat) : Int := clipI (l * stp q) (-4080) 4080
theorem rnd_rng {c s : Int} (h0 : 0 ≤ c) (hs : 1 ≤ s) : 0 ≤ rnd c s ∧ rnd c s ≤ c := by
 unfold rnd
 constructor
 ·exact Int.ediv_nonneg (by omega) (by omega)
 ·have h2 : 2 * c + s < (c + 1) * (2 * s) := by
   have h3 : 0 ≤ c * (2 * s - 2) := Int.mul_nonneg h0 (by omega)
   have h4 : (c + 1) * (2 * s) = c * (2 * s - 2) + 2 * c + 2 * s := by
    rw [Int.add_mul, Int.mul_sub]; omega
   omega
  have := Int.ediv_lt_of_lt_mul (by omega) h2
  omega
theorem dq_rng (l : Int) (q : Nat) : -4080 ≤ dq l q ∧ dq l q ≤ 4080 := clipI_lo (by omega)
theorem cellOfBlk {w : World} {b : Nat} {arr : Array Value} {T : TypeId} {i : Nat} {v : Value} (h : w.heap[b]? = some (.cells arr T (0, 0))) (hi : arr[i]? = some v) : w.cell? ⟨b, i, none⟩ = some v := by
 simp [World.cell?, h, hi]
theorem mul_bnd {l s : Int} (h1 : -4080 ≤ l) (h2 : l ≤ 4080) (s1 : 1 ≤ s) (s2 : s ≤ 512) : -2088960 ≤ l * s ∧ l * s ≤ 2088960 := by
 have a1 : l * s ≤ 4080 * s := Int.mul_le_mul_of_nonneg_right h2 (by omega)
 have a2 : -4080 * s ≤ l * s := Int.mul_le_mul_of_nonneg_right h1 (by omega)
 omega
theorem spec_QuantStep_in (q : Nat) (w : World) (hq : q < 16) :
 Calls Tryd.prog 118 #[.int .i64 q] w fun e w' => e = .returned (.int .i64 (stp q)) ∧ Ext w w' := by
 have E1 := Ext.alloc w (.cells (stepL.map (Value.int .i64)).toArray 3)
 have hc : (w.alloc (.cells (stepL.map (Value.int .i64)).toArray 3)).cell? ⟨w.heap.size, q, none⟩ = some (.int .i64 (stp q)) := by
  refine cellOfBlk (blk_new w _) ?_
  have : ∀ q, q < 16 → (stepL.map (Value.int .i64)).toArray[q]? = some (.int .i64 (stp q)) := by
   intro q hq
   have hl : q < stepL.length := hq
   simp [stp, nth, hl]
  exact this q hq
 have e : (stepL.map (Value.int .i64)).toArray = #[.int .i64 1, .int .i64 2, .int .i64 4, .int .i64 8, .int .i64 12, .int .i64 16, .int .i64 24, .int .i64 32, .int .i64 48, .int .i64 64, .int .i64 96, .int .i64 128, .int .i64 192, .int .i64 256, .int .i64 384, .int .i64 512] := rfl
 rw [e] at hc E1
 go_enter Tryd.func118, Tryd.ntmps118
 go_wp2_with fail
 refine (l1In_yes _ _ _ _ (by omega) (by omega)).mono ?_
 rintro e w1 ⟨rfl, rfl⟩
 go_wp2
 go_ret
 exact ⟨rfl, E1⟩
/-- The program's table of steps lies in its variable. -/
def TabQ (w : World) : Prop := ∀ j, j < 16 → w.cell? ⟨0, j, none⟩ = some (.int .i64 (stp j))
theorem TabQ.ext {w w' : World} (h : TabQ w) (e : Ext w w') : TabQ w' := fun j hj => cell_ext e (h j hj)
theorem qualityValid_in (q : Int) (w : World) (h1 : 0 ≤ q) (h2 : q ≤ 15) :
 Calls Tryd.prog 41 #[.int .i64 q] w fun e w' => e = .returned (.bool true) ∧ w = w' := by
 go_enter Tryd.func41, Tryd.ntmps41
 go_wp2
 go_ret
 exact ⟨by first | rfl | (simp; done) | (simp; omega), rfl⟩
theorem rounded_any (c s : Int) (w : World) (h1 : 0 ≤ c) (h2 : c ≤ 1000000) (h3 : 1 ≤ s) (h4 : s ≤ 1000000) :
 Calls Tryd.prog 126 #[.int .i64 c, .int .i64 s] w fun e w' => e = .returned (.int .i64 (rnd c s)) ∧ w = w' := by
 have hr : rnd c s = (2 * c + s) / (2 * s) := rfl
 have Hr := Lib.hid hr
 have hr2 := rnd_rng h1 h3
 rw [hr] at hr2
 clear hr
 go_enter Tryd.func126, Tryd.ntmps126
 go_wp2
 go_ret
 exact ⟨by rw [Hr.out]; rfl, rfl⟩
theorem impl_Dequantize_in (l : Int) (q : Nat) (w : World) (hT : TabQ w) (h1 : -4080 ≤ l) (h2 : l ≤ 4080) (hq : q < 16) :
 Calls Tryd.prog 113 #[.int .i64 l, .int .i64 q] w fun e w' => e = .returned (.int .i64 (dq l q)) ∧ w = w' := by
 have hs := stp_rng hq
 have ht := hT q hq
 have hm := mul_bnd h1 h2 hs.1 hs.2
 have hz : dq l q = clipI (l * stp q) (-4080) 4080 := rfl
 have Hz := Lib.hid hz
 clear hz
 generalize stp q = s at *
 go_enter Tryd.func113, Tryd.ntmps113
 go_wp2_with fail
 refine (qualityValid_in _ _ (by omega) (by omega)).mono ?_
 rintro e w1 ⟨rfl, rfl⟩
 go_wp2_with fail
 refine (clamp_any _ _ _ _ (by omega)).mono ?_
 rintro e w1 ⟨rfl, rfl⟩
 go_wp2
 go_ret
 exact ⟨by rw [Hz.out]; rfl, rfl⟩
end Go.Proofs.YtbnhaegidfbgbaaDoor
namespace Go.Proofs.YtbnhaegidfbgbaaDoor
open Go.RowKit
set_option maxHeartbeats 1000000
/-- The sample at a position, or the nearest one. -/
def pat (p : Pic) (x y : Int) : Int := nth p.px (clipI y 0 (p.h - 1) * p.w + clipI x 0 (p.w - 1)).toNat
theorem pat_idx {p : Pic} (hv : p.valid) (x y : Int) : 0 ≤ clipI y 0 (p.h - 1) * p.w + clipI x 0 (p.w - 1) ∧ clipI y 0 (p.h - 1) * p.w + clipI x 0 (p.w - 1) < p.px.length ∧ 0 ≤ clipI y 0 (p.h - 1) * p.w ∧ clipI y 0 (p.h - 1) * p.w ≤ 1024 := by
 obtain ⟨⟨w1, w2, w3⟩, ⟨h1, h2, h3⟩, hl, -⟩ := hv
 have a1 := clipI_lo (n := y) (show (0 : Int) ≤ p.h - 1 by omega)
 have a2 := clipI_lo (n := x) (show (0 : Int) ≤ p.w - 1 by omega)
 rw [hl]
 generalize clipI y 0 (p.h - 1) = u at *
 generalize clipI x 0 (p.w - 1) = v at *
 have b1 : 0 ≤ u * p.w := Int.mul_nonneg (by omega) (by omega)
 have b2 : (u + 1) * p.w ≤ p.h * p.w := Int.mul_le_mul_of_nonneg_right (by omega) (by omega)
 have b3 : p.h * p.w ≤ 32 * 32 := Int.mul_le_mul h2 w2 (by omega) (by omega)
 rw [Int.add_mul, Int.one_mul] at b2
 rw [Int.mul_comm p.h] at b2 b3
 omega
theorem pat_rng {p : Pic} (hv : p.valid) (x y : Int) : 0 ≤ pat p x y ∧ pat p x y ≤ 255 := by
 have := pat_idx hv x y
 exact smp_nth hv.2.2.2 (by omega)
theorem pat_in {p : Pic} {x y : Nat} (hx : (x : Int) < p.w) (hy : (y : Int) < p.h) {W : Nat} (hW : p.w = W) : pat p x y = nth p.px (y * W + x) := by
 unfold pat
 rw [clipI_in (by omega) (by omega), clipI_in (by omega) (by omega), hW, ← Int.natCast_mul, ← Int.natCast_add, Int.toNat_natCast]
/-- The sample at a position in half samples. -/
def hlf (p : Pic) (x y : Int) : Int :=
 if y % 2 = 0 then if x % 2 = 0 then pat p (x / 2) (y / 2) else (pat p (x / 2) (y / 2) + pat p (x / 2 + 1) (y / 2) + 1) / 2
 else if x % 2 = 0 then (pat p (x / 2) (y / 2) + pat p (x / 2) (y / 2 + 1) + 1) / 2
 else (pat p (x / 2) (y / 2) + pat p (x / 2 + 1) (y / 2) + pat p (x / 2) (y / 2 + 1) + pat p (x / 2 + 1) (y / 2 + 1) + 2) / 4
theorem hlf_rng {p : Pic} (hv : p.valid) (x y : Int) : 0 ≤ hlf p x y ∧ hlf p x y ≤ 255 := by
 have h1 := pat_rng hv (x / 2) (y / 2)
 have h2 := pat_rng hv (x / 2 + 1) (y / 2)
 have h3 := pat_rng hv (x / 2) (y / 2 + 1)
 have h4 := pat_rng hv (x / 2 + 1) (y / 2 + 1)
 unfold hlf
 split <;> split <;> omega
theorem hlf_two (p : Pic) (x y : Int) : hlf p (2 * x) (2 * y) = pat p x y := by
 unfold hlf
 rw [if_pos (by omega), if_pos (by omega), show 2 * x / 2 = x by omega, show 2 * y / 2 = y by omega]
/-- The 64 samples that predict a macroblock. -/
def blkL (p : Pic) (x y vx vy : Int) : List Int := (List.range 64).map fun k => hlf p (2 * (x + (k % 8 : Nat)) + vx) (2 * (y + (k / 8 : Nat)) + vy)
theorem blkL_len (p : Pic) (x y vx vy : Int) : (blkL p x y vx vy).length = 64 := by simp [blkL]
theorem nth_blkL (p : Pic) (x y vx vy : Int) {k : Nat} (h : k < 64) : nth (blkL p x y vx vy) k = hlf p (2 * (x + (k % 8 : Nat)) + vx) (2 * (y + (k / 8 : Nat)) + vy) := by
 simp [nth, blkL, h]
theorem blkL_smp {p : Pic} (hv : p.valid) (x y vx vy : Int) : smp (blkL p x y vx vy) := by
 refine smp_of_nth fun i hi => ?_
 rw [blkL_len] at hi
 rw [nth_blkL _ _ _ _ _ hi]
 exact hlf_rng hv _ _
/-- The block of 4 by 4 samples at a position. -/
def prt (p : Pic) (x y : Int) : List Int := (List.range 16).map fun k => pat p (x + (k % 4 : Nat)) (y + (k / 4 : Nat))
/-- A block of a macroblock's samples. -/
def pof (L : List Int) (i j : Nat) : List Int := (List.range 16).map fun t => nth L ((j + t / 4) * 8 + i + t % 4)
theorem pof_len (L : List Int) (i j : Nat) : (pof L i j).length = 16 := by simp [pof]
theorem nth_pof (L : List Int) (i j : Nat) {k : Nat} (h : k < 16) : nth (pof L i j) k = nth L ((j + k / 4) * 8 + i + k % 4) := by simp [nth, pof, h]
theorem pof_smp {L : List Int} (h : smp L) (hl : L.length = 64) {i j : Nat} (hi : i ≤ 4) (hj : j ≤ 4) : smp (pof L i j) := by
 refine smp_of_nth fun k hk => ?_
 rw [pof_len] at hk
 rw [nth_pof _ _ _ hk]
 exact smp_nth h (by omega)
/-- The samples around a block. -/
structure Ed where
 ab : List Int
 lf : List Int
 co : Int
 up : Bool
 le : Bool
structure Ed.ok (e : Ed) : Prop where
 ab : e.ab.length = 4
 lf : e.lf.length = 4
 sab : smp e.ab
 slf : smp e.lf
 sco : 0 ≤ e.co ∧ e.co ≤ 255
def edg (p : Pic) (x y top : Int) : Ed :=
 ⟨(List.range 4).map fun k : Nat => if top < y then pat p (x + k) (y - 1) else 128, (List.range 4).map fun k : Nat => if 0 < x then pat p (x - 1) (y + k) else 128,
  if top < y ∧ 0 < x then pat p (x - 1) (y - 1) else 128, decide (top < y), decide (0 < x)⟩
theorem edg_ab (p : Pic) (x y top : Int) {k : Nat} (h : k < 4) : nth (edg p x y top).ab k = if top < y then pat p (x + k) (y - 1) else 128 := by simp [nth, edg, h]
theorem edg_lf (p : Pic) (x y top : Int) {k : Nat} (h : k < 4) : nth (edg p x y top).lf k = if 0 < x then pat p (x - 1) (y + k) else 128 := by simp [nth, edg, h]
theorem edg_ok {p : Pic} (hv : p.valid) (x y top : Int) : (edg p x y top).ok := by
 have l1 : (edg p x y top).ab.length = 4 := by simp [edg]
 have l2 : (edg p x y top).lf.length = 4 := by simp [edg]
 refine ⟨l1, l2, smp_of_nth fun k hk => ?_, smp_of_nth fun k hk => ?_, ?_⟩
 ·rw [l1] at hk
  rw [edg_ab _ _ _ _ hk]
  split
  ·exact pat_rng hv _ _
  ·omega
 ·rw [l2] at hk
  rw [edg_lf _ _ _ _ hk]
  split
  ·exact pat_rng hv _ _
  ·omega
 ·show 0 ≤ (if top < y ∧ 0 < x then pat p (x - 1) (y - 1) else 128) ∧ _
  unfold edg
  simp only
  split
  ·exact pat_rng hv _ _
  ·omega
/-- The sum of the edge's available samples, and how many. -/
def mnT (e : Ed) : Nat → Int
 | 0 => 0
 | k + 1 => mnT e k + (if e.up then nth e.ab k else 0) + (if e.le then nth e.lf k else 0)
def mnN (e : Ed) (k : Nat) : Int := k * ((if e.up then 1 else 0) + (if e.le then 1 else 0))
def mean (e : Ed) : Int := if mnN e 4 = 0 then 128 else (2 * mnT e 4 + mnN e 4) / (2 * mnN e 4)
theorem mnT_rng {e : Ed} (h : e.ok) {k : Nat} (hk : k ≤ 4) : 0 ≤ mnT e k ∧ mnT e k ≤ 255 * mnN e k := by
 induction k with
 | zero => simp [mnT, mnN]
 | succ k ih =>
  have h1 := ih (by omega)
  have h2 := smp_nth h.sab (i := k) (by rw [h.ab]; omega)
  have h3 := smp_nth h.slf (i := k) (by rw [h.lf]; omega)
  have e1 : mnN e (k + 1) = mnN e k + ((if e.up then 1 else 0) + (if e.le then 1 else 0)) := by
   unfold mnN
   rw [Int.natCast_add, Int.add_mul]; omega
  rw [e1]
  simp only [mnT]
  split <;> split <;> omega
theorem mnN_cases (e : Ed) : mnN e 4 = 0 ∨ mnN e 4 = 4 ∨ mnN e 4 = 8 := by
 unfold mnN
 cases e.up <;> cases e.le <;> simp
theorem mean_rng {e : Ed} (h : e.ok) : 0 ≤ mean e ∧ mean e ≤ 255 := by
 have h1 := mnT_rng h (k := 4) (by omega)
 unfold mean
 rcases mnN_cases e with h2 | h2 | h2 <;> rw [h2] at h1 ⊢
 ·rw [if_pos rfl]; omega
 ·rw [if_neg (by omega)]; omega
 ·rw [if_neg (by omega)]; omega
/-- The border from the lowest left sample over the corner to the last one above. -/
def bord (e : Ed) (k : Nat) : Int := if k < 4 then nth e.lf (3 - k) else if k = 4 then e.co else nth e.ab (k - 5)
theorem bord_rng {e : Ed} (h : e.ok) {k : Nat} (hk : k ≤ 8) : 0 ≤ bord e k ∧ bord e k ≤ 255 := by
 unfold bord
 split
 ·exact smp_nth h.slf (by rw [h.lf]; omega)
 ·split
  ·exact h.sco
  ·exact smp_nth h.sab (by rw [h.ab]; omega)
/-- The prediction of the sample in column x and row y. -/
def prd1 (mode : Nat) (e : Ed) (x y : Nat) : Int :=
 match mode with
 | 0 => mean e
 | 1 => nth e.ab x
 | 2 => nth e.lf y
 | 3 => (bord e (3 + x - y) + 2 * bord e (4 + x - y) + bord e (5 + x - y) + 2) / 4
 | _ => clipI (nth e.ab x + nth e.lf y - e.co) 0 255
def prd (mode : Nat) (e : Ed) : List Int := (List.range 16).map fun k => prd1 mode e (k % 4) (k / 4)
theorem prd_len (mode : Nat) (e : Ed) : (prd mode e).length = 16 := by simp [prd]
theorem nth_prd (mode : Nat) (e : Ed) {k : Nat} (h : k < 16) : nth (prd mode e) k = prd1 mode e (k % 4) (k / 4) := by simp [nth, prd, h]
theorem prd1_rng (mode : Nat) {e : Ed} (h : e.ok) {x y : Nat} (hx : x < 4) (hy : y < 4) : 0 ≤ prd1 mode e x y ∧ prd1 mode e x y ≤ 255 := by
 unfold prd1
 split
 ·exact mean_rng h
 ·exact smp_nth h.sab (by rw [h.ab]; omega)
 ·exact smp_nth h.slf (by rw [h.lf]; omega)
 ·have h1 := bord_rng h (k := 3 + x - y) (by omega)
  have h2 := bord_rng h (k := 4 + x - y) (by omega)
  have h3 := bord_rng h (k := 5 + x - y) (by omega)
  omega
 ·exact clipI_lo (by omega)
theorem prd_smp (mode : Nat) {e : Ed} (h : e.ok) : smp (prd mode e) := by
 refine smp_of_nth fun i hi => ?_
 rw [prd_len] at hi
 rw [nth_prd _ _ hi]
 exact prd1_rng mode h (by omega) (by omega)
/-- The differences. -/
def dif (a b : List Int) : List Int := (List.range 16).map fun k => nth a k - nth b k
/-- Levels of residuals; residuals of levels. -/
def cod (b : List Int) (q : Nat) : List Int := (had b).map fun c => qz c q
def dec (l : List Int) (q : Nat) : List Int := ihad (l.map fun x => dq x q)
theorem ihad_len (b : List Int) : (ihad b).length = 16 := by simp [ihad, had_len]
theorem dec_len (l : List Int) (q : Nat) : (dec l q).length = 16 := ihad_len _
/-- A block of a picture replaced, its first k samples. -/
def putS (px : List Int) (W x y : Nat) (pr rs : List Int) : Nat → List Int
 | 0 => px
 | k + 1 => (putS px W x y pr rs k).set ((y + k / 4) * W + x + k % 4) (clipI (nth pr k + nth rs k) 0 255)
theorem putS_len (px : List Int) (W x y : Nat) (pr rs : List Int) (k : Nat) : (putS px W x y pr rs k).length = px.length := by
 induction k with
 | zero => rfl
 | succ k ih => simp [putS, ih]
theorem smp_setP {zs : List Int} (h : smp zs) (i : Nat) {v : Int} (hv : 0 ≤ v ∧ v ≤ 255) : smp (zs.set i v) := by
 intro z hz
 rcases List.mem_or_eq_of_mem_set hz with h1 | rfl
 ·exact h z h1
 ·exact hv
theorem putS_smp {px : List Int} (h : smp px) (W x y : Nat) (pr rs : List Int) (k : Nat) : smp (putS px W x y pr rs k) := by
 induction k with
 | zero => exact h
 | succ k ih => exact smp_setP ih _ (clipI_lo (by omega))
/-- How block k of a macroblock is predicted. -/
def prK (ref : Pic) (W H : Int) (cur : List Int) (x y : Nat) (m : Mac) (top : Int) (k : Nat) : List Int :=
 if m.kind = 2 then prd (nth m.modes k).toNat (edg ⟨W, H, cur⟩ (x + k % 2 * 4 : Nat) (y + k / 2 * 4 : Nat) top) else pof (blkL ref x y m.x m.y) (k % 2 * 4) (k / 2 * 4)
/-- A macroblock of a picture replaced, its first k blocks. -/
def bldS (ref p : Pic) (x y : Nat) (m : Mac) (q : Nat) (top : Int) : Nat → List Int
 | 0 => p.px
 | k + 1 => putS (bldS ref p x y m q top k) p.w.toNat (x + k % 2 * 4) (y + k / 2 * 4) (prK ref p.w p.h (bldS ref p x y m q top k) x y m top k) (dec (sub m.lv (k * 16) 16) q) 16
theorem bldS_len (ref p : Pic) (x y : Nat) (m : Mac) (q : Nat) (top : Int) (k : Nat) : (bldS ref p x y m q top k).length = p.px.length := by
 induction k with
 | zero => rfl
 | succ k ih => simp only [bldS]; rw [putS_len, ih]
theorem bldS_smp {p : Pic} (h : smp p.px) (ref : Pic) (x y : Nat) (m : Mac) (q : Nat) (top : Int) (k : Nat) : smp (bldS ref p x y m q top k) := by
 induction k with
 | zero => exact h
 | succ k ih => exact putS_smp ih _ _ _ _ _ _
theorem bldS_valid {p : Pic} (h : p.valid) (ref : Pic) (x y : Nat) (m : Mac) (q : Nat) (top : Int) (k : Nat) : Pic.valid ⟨p.w, p.h, bldS ref p x y m q top k⟩ :=
 ⟨h.1, h.2.1, by show ((bldS ref p x y m q top k).length : Int) = _; rw [bldS_len]; exact h.2.2.1, bldS_smp h.2.2.2 _ _ _ _ _ _ _⟩
end Go.Proofs.YtbnhaegidfbgbaaDoor
namespace Go.Proofs.YtbnhaegidfbgbaaDoor
open Go.RowKit
set_option maxHeartbeats 1000000
/-- The value of a picture. -/
def picV (W H : Int) (a : Option Addr) (n c : Nat) : Value := .agg #[.int .i64 W, .int .i64 H, .slice a n c]
theorem ret_intH {k : IntKind} {a b : Int} (h : Hid (a = b)) : Ending.returned (.int k a) = .returned (.int k b) := by rw [h.out]
set_option maxRecDepth 100000 in
theorem at_any (p : Pic) (x y : Int) (a : Option Addr) (c n : Nat) (w : World) (hv : p.valid) (hn : n = p.px.length) (r : Sl w a n (p.px.map (Value.int .i64))) :
 Calls Tryd.prog 91 #[.agg #[.int .i64 p.w, .int .i64 p.h, .slice a n c], .int .i64 x, .int .i64 y] w fun e w' => e = .returned (.int .i64 (pat p x y)) ∧ Ext w w' := by
 have hi := pat_idx hv x y
 have hw := hv.1
 have hh := hv.2.1
 obtain ⟨w1, w2, -⟩ := hw
 obtain ⟨h1, h2, -⟩ := hh
 have Hp := Lib.hid (show pat p x y = nth p.px (clipI y 0 (p.h - 1) * p.w + clipI x 0 (p.w - 1)).toNat from rfl)
 have c1 := clipI_lo (n := y) (show (0 : Int) ≤ p.h - 1 by omega)
 have c2 := clipI_lo (n := x) (show (0 : Int) ≤ p.w - 1 by omega)
 obtain ⟨cy, hcy⟩ : ∃ cy, cy = clipI y 0 (p.h - 1) := ⟨_, rfl⟩
 obtain ⟨cx, hcx⟩ : ∃ cx, cx = clipI x 0 (p.w - 1) := ⟨_, rfl⟩
 rw [← hcy] at hi c1 Hp
 rw [← hcx] at hi c2 Hp
 have Hcy := Lib.hid hcy
 have Hcx := Lib.hid hcx
 clear hcy hcx
 have hk : (cy * p.w + cx).toNat < n := by omega
 obtain ⟨k, hk2⟩ : ∃ k : Nat, cy * p.w + cx = (k : Int) := ⟨(cy * p.w + cx).toNat, by omega⟩
 rw [hk2] at hi hk
 rw [hk2, Int.toNat_natCast] at Hp
 rw [Int.toNat_natCast] at hk
 have Hk := Lib.hid hk2
 clear hk2
 obtain ⟨b, off, rfl, hc⟩ := r.int hk
 have Hc := Lib.hid hc
 have p0 := blk_new w (.cells #[.int .i64 p.w, .int .i64 p.h, .slice (some ⟨b, off, none⟩) n c] 25)
 have E0 := Ext.alloc w (.cells #[.int .i64 p.w, .int .i64 p.h, .slice (some ⟨b, off, none⟩) n c] 25)
 have HN := Lib.hid hn
 obtain ⟨B, hB⟩ : ∃ B, B = w.heap.size := ⟨_, rfl⟩
 rw [← hB] at p0
 have HB := Lib.hid hB
 clear hn r hc hv
 go_enter Tryd.func91, Tryd.ntmps91
 go_wp2_with fail
 rw [← hB]
 clear hB
 generalize w.alloc (.cells #[.int .i64 p.w, .int .i64 p.h, .slice (some ⟨b, off, none⟩) n c] 25) = w0 at *
 obtain ⟨pw, ph, px⟩ := p
 simp only at *
 refine wp_region_inv2 (by kernel_rfl) [(6, 18), (7, 0), (8, 1), (9, 2), (10, 3), (11, 4), (12, 5), (13, 6), (14, 7), (15, 8), (16, 9), (17, 10), (18, 11), (19, 12), (20, 13), (21, 14), (22, 15), (23, 16), (24, 17)] [[], [0], [], [], [3], [3, 4], [2, 3, 4, 5], [], [7], [2, 3, 4, 5, 6, 7, 8], [], [], [11], [11, 12], [2, 3, 4, 5, 6, 10, 11, 12, 13], [2, 3, 4, 5, 6, 7, 8, 9, 10, 11, 12, 13, 14], [0, 1, 2, 3, 4, 5, 6, 7, 8, 9, 10, 11, 12, 13, 14, 15], [0, 1, 2, 3, 4, 5, 6, 7, 8, 9, 10, 11, 12, 13, 14, 15, 16], [0, 1, 2, 3, 4, 5, 6, 7, 8, 9, 10, 11, 12, 13, 14, 15, 16, 17]] (fun i own ys wx => match i with | 0 => own = .pointer (some ⟨B, 2, none⟩) | 1 => own = .slice (some ⟨b, off, none⟩) n c | 2 => own = .int .i64 y | 3 => own = .pointer (some ⟨B, 1, none⟩) | 4 => own = .int .i64 ph | 5 => own = .int .i64 (ph - 1) | 6 => own = .int .i64 cy | 7 => own = .pointer (some ⟨B, 0, none⟩) | 8 => own = .int .i64 pw | 9 => own = .int .i64 (cy * pw) | 10 => own = .int .i64 x | 11 => own = .pointer (some ⟨B, 0, none⟩) | 12 => own = .int .i64 pw | 13 => own = .int .i64 (pw - 1) | 14 => own = .int .i64 cx | 15 => own = .int .i64 (k : Nat) | 16 => own = .pointer (some ⟨b, off + k, none⟩) | 17 => own = .int .i64 (nth px k) | 18 => own = .int .i64 (nth px k) | _ => True) (fun kx wx => Ext w0 wx) (by kernel_rfl) (by kernel_rfl) (by kernel_rfl) ?g0_r1 ?gop_r1 ?gend_r1
 case g0_r1 => exact Ext.drewN _ 1
 case gop_r1 =>
  refine ⟨?_, ?_, ?_, ?_, ?_, ?_, ?_, ?_, ?_, ?_, ?_, ?_, ?_, ?_, ?_, ?_, ?_, ?_, ?_, trivial⟩
  ·intro kx xs wx hk hG hD hI Qo Kx hK hQo
   clear hD hI
   simp only [patchS, Nat.reduceAdd, Nat.reduceEqDiff, ↓reduceIte] at hQo ⊢
   go_wp2
   exact hK.out _ _ ⟨rfl, hG, fun _ _ _ _ _ _ h => h⟩
  ·intro kx xs wx hk hG hD hI Qo Kx hK hQo
   have d0 : (xs 0) = .pointer (some ⟨B, 2, none⟩) := hD 0 rfl
   clear hD hI
   simp only [patchS, Nat.reduceAdd, Nat.reduceEqDiff, ↓reduceIte] at hQo ⊢
   generalize xs 0 = y0 at *
   subst d0
   obtain ⟨-, k0, k1, k2, -⟩ := bx3 (hG.blk p0)
   go_wp2
   exact hK.out _ _ ⟨rfl, hG, fun _ _ _ _ _ _ h => h⟩
  ·intro kx xs wx hk hG hD hI Qo Kx hK hQo
   clear hD hI
   simp only [patchS, Nat.reduceAdd, Nat.reduceEqDiff, ↓reduceIte] at hQo ⊢
   go_wp2
   exact hK.out _ _ ⟨rfl, hG, fun _ _ _ _ _ _ h => h⟩
  ·intro kx xs wx hk hG hD hI Qo Kx hK hQo
   clear hD hI
   simp only [patchS, Nat.reduceAdd, Nat.reduceEqDiff, ↓reduceIte] at hQo ⊢
   go_wp2
   exact hK.out _ _ ⟨rfl, hG, fun _ _ _ _ _ _ h => h⟩
  ·intro kx xs wx hk hG hD hI Qo Kx hK hQo
   have d3 : (xs 3) = .pointer (some ⟨B, 1, none⟩) := hD 3 rfl
   clear hD hI
   simp only [patchS, Nat.reduceAdd, Nat.reduceEqDiff, ↓reduceIte] at hQo ⊢
   generalize xs 3 = y3 at *
   subst d3
   obtain ⟨-, k0, k1, k2, -⟩ := bx3 (hG.blk p0)
   go_wp2
   exact hK.out _ _ ⟨rfl, hG, fun _ _ _ _ _ _ h => h⟩
  ·intro kx xs wx hk hG hD hI Qo Kx hK hQo
   have d4 : (xs 4) = .int .i64 ph := hD 4 rfl
   clear hD hI
   simp only [patchS, Nat.reduceAdd, Nat.reduceEqDiff, ↓reduceIte] at hQo ⊢
   generalize xs 4 = y4 at *
   subst d4
   go_wp2
   exact hK.out _ _ ⟨rfl, hG, fun _ _ _ _ _ _ h => h⟩
  ·intro kx xs wx hk hG hD hI Qo Kx hK hQo
   have d2 : (xs 2) = .int .i64 y := hD 2 rfl
   have d5 : (xs 5) = .int .i64 (ph - 1) := hD 5 rfl
   clear hD hI
   simp only [patchS, Nat.reduceAdd, Nat.reduceEqDiff, ↓reduceIte] at hQo ⊢
   generalize xs 2 = y2 at *
   generalize xs 5 = y5 at *
   subst d2 d5
   go_wp2_with fail
   refine (clamp_any _ _ _ _ (by omega)).mono ?_
   rintro e w2 ⟨rfl, rfl⟩
   rw [← Hcy.out]
   go_wp2
   exact hK.out _ _ ⟨rfl, hG, fun _ _ _ _ _ _ h => h⟩
  ·intro kx xs wx hk hG hD hI Qo Kx hK hQo
   clear hD hI
   simp only [patchS, Nat.reduceAdd, Nat.reduceEqDiff, ↓reduceIte] at hQo ⊢
   go_wp2
   exact hK.out _ _ ⟨rfl, hG, fun _ _ _ _ _ _ h => h⟩
  ·intro kx xs wx hk hG hD hI Qo Kx hK hQo
   have d7 : (xs 7) = .pointer (some ⟨B, 0, none⟩) := hD 7 rfl
   clear hD hI
   simp only [patchS, Nat.reduceAdd, Nat.reduceEqDiff, ↓reduceIte] at hQo ⊢
   generalize xs 7 = y7 at *
   subst d7
   obtain ⟨-, k0, k1, k2, -⟩ := bx3 (hG.blk p0)
   go_wp2
   exact hK.out _ _ ⟨rfl, hG, fun _ _ _ _ _ _ h => h⟩
  ·intro kx xs wx hk hG hD hI Qo Kx hK hQo
   have d6 : (xs 6) = .int .i64 cy := hD 6 rfl
   have d8 : (xs 8) = .int .i64 pw := hD 8 rfl
   clear hD hI
   simp only [patchS, Nat.reduceAdd, Nat.reduceEqDiff, ↓reduceIte] at hQo ⊢
   generalize xs 6 = y6 at *
   generalize xs 8 = y8 at *
   subst d6 d8
   go_wp2
   exact hK.out _ _ ⟨rfl, hG, fun _ _ _ _ _ _ h => h⟩
  ·intro kx xs wx hk hG hD hI Qo Kx hK hQo
   clear hD hI
   simp only [patchS, Nat.reduceAdd, Nat.reduceEqDiff, ↓reduceIte] at hQo ⊢
   go_wp2
   exact hK.out _ _ ⟨rfl, hG, fun _ _ _ _ _ _ h => h⟩
  ·intro kx xs wx hk hG hD hI Qo Kx hK hQo
   clear hD hI
   simp only [patchS, Nat.reduceAdd, Nat.reduceEqDiff, ↓reduceIte] at hQo ⊢
   go_wp2
   exact hK.out _ _ ⟨rfl, hG, fun _ _ _ _ _ _ h => h⟩
  ·intro kx xs wx hk hG hD hI Qo Kx hK hQo
   have d11 : (xs 11) = .pointer (some ⟨B, 0, none⟩) := hD 11 rfl
   clear hD hI
   simp only [patchS, Nat.reduceAdd, Nat.reduceEqDiff, ↓reduceIte] at hQo ⊢
   generalize xs 11 = y11 at *
   subst d11
   obtain ⟨-, k0, k1, k2, -⟩ := bx3 (hG.blk p0)
   go_wp2
   exact hK.out _ _ ⟨rfl, hG, fun _ _ _ _ _ _ h => h⟩
  ·intro kx xs wx hk hG hD hI Qo Kx hK hQo
   have d12 : (xs 12) = .int .i64 pw := hD 12 rfl
   clear hD hI
   simp only [patchS, Nat.reduceAdd, Nat.reduceEqDiff, ↓reduceIte] at hQo ⊢
   generalize xs 12 = y12 at *
   subst d12
   go_wp2
   exact hK.out _ _ ⟨rfl, hG, fun _ _ _ _ _ _ h => h⟩
  ·intro kx xs wx hk hG hD hI Qo Kx hK hQo
   have d10 : (xs 10) = .int .i64 x := hD 10 rfl
   have d13 : (xs 13) = .int .i64 (pw - 1) := hD 13 rfl
   clear hD hI
   simp only [patchS, Nat.reduceAdd, Nat.reduceEqDiff, ↓reduceIte] at hQo ⊢
   generalize xs 10 = y10 at *
   generalize xs 13 = y13 at *
   subst d10 d13
   go_wp2_with fail
   refine (clamp_any _ _ _ _ (by omega)).mono ?_
   rintro e w2 ⟨rfl, rfl⟩
   rw [← Hcx.out]
   go_wp2
   exact hK.out _ _ ⟨rfl, hG, fun _ _ _ _ _ _ h => h⟩
  ·intro kx xs wx hk hG hD hI Qo Kx hK hQo
   have d9 : (xs 9) = .int .i64 (cy * pw) := hD 9 rfl
   have d14 : (xs 14) = .int .i64 cx := hD 14 rfl
   clear hD hI
   simp only [patchS, Nat.reduceAdd, Nat.reduceEqDiff, ↓reduceIte] at hQo ⊢
   generalize xs 9 = y9 at *
   generalize xs 14 = y14 at *
   subst d9 d14
   have hkb : 0 ≤ cy * pw + cx ∧ cy * pw + cx ≤ 2000 := by omega
   go_wp2
   exact hK.out _ _ ⟨by rw [← Hk.out], hG, fun _ _ _ _ _ _ h => h⟩
  ·intro kx xs wx hk hG hD hI Qo Kx hK hQo
   have d1 : (xs 1) = .slice (some ⟨b, off, none⟩) n c := hD 1 rfl
   have d15 : (xs 15) = .int .i64 (k : Nat) := hD 15 rfl
   clear hD hI
   simp only [patchS, Nat.reduceAdd, Nat.reduceEqDiff, ↓reduceIte] at hQo ⊢
   generalize xs 1 = y1 at *
   generalize xs 15 = y15 at *
   subst d1 d15
   go_wp2
   exact hK.out _ _ ⟨rfl, hG, fun _ _ _ _ _ _ h => h⟩
  ·intro kx xs wx hk hG hD hI Qo Kx hK hQo
   have d16 : (xs 16) = .pointer (some ⟨b, off + k, none⟩) := hD 16 rfl
   clear hD hI
   simp only [patchS, Nat.reduceAdd, Nat.reduceEqDiff, ↓reduceIte] at hQo ⊢
   generalize xs 16 = y16 at *
   subst d16
   have hcc := cell_ext (E0.trans hG) Hc.out
   go_wp2
   exact hK.out _ _ ⟨rfl, hG, fun _ _ _ _ _ _ h => h⟩
  ·intro kx xs wx hk hG hD hI Qo Kx hK hQo
   have d17 : (xs 17) = .int .i64 (nth px k) := hD 17 rfl
   clear hD hI
   simp only [patchS, Nat.reduceAdd, Nat.reduceEqDiff, ↓reduceIte] at hQo ⊢
   generalize xs 17 = y17 at *
   subst d17
   go_wp2
   exact hK.out _ _ ⟨rfl, hG, fun _ _ _ _ _ _ h => h⟩
 intro xs wx hV hG
 have d0 : (xs 0) = .pointer (some ⟨B, 2, none⟩) := hV 0 (by decide)
 have d1 : (xs 1) = .slice (some ⟨b, off, none⟩) n c := hV 1 (by decide)
 have d2 : (xs 2) = .int .i64 y := hV 2 (by decide)
 have d3 : (xs 3) = .pointer (some ⟨B, 1, none⟩) := hV 3 (by decide)
 have d4 : (xs 4) = .int .i64 ph := hV 4 (by decide)
 have d5 : (xs 5) = .int .i64 (ph - 1) := hV 5 (by decide)
 have d6 : (xs 6) = .int .i64 cy := hV 6 (by decide)
 have d7 : (xs 7) = .pointer (some ⟨B, 0, none⟩) := hV 7 (by decide)
 have d8 : (xs 8) = .int .i64 pw := hV 8 (by decide)
 have d9 : (xs 9) = .int .i64 (cy * pw) := hV 9 (by decide)
 have d10 : (xs 10) = .int .i64 x := hV 10 (by decide)
 have d11 : (xs 11) = .pointer (some ⟨B, 0, none⟩) := hV 11 (by decide)
 have d12 : (xs 12) = .int .i64 pw := hV 12 (by decide)
 have d13 : (xs 13) = .int .i64 (pw - 1) := hV 13 (by decide)
 have d14 : (xs 14) = .int .i64 cx := hV 14 (by decide)
 have d15 : (xs 15) = .int .i64 (k : Nat) := hV 15 (by decide)
 have d16 : (xs 16) = .pointer (some ⟨b, off + k, none⟩) := hV 16 (by decide)
 have d17 : (xs 17) = .int .i64 (nth px k) := hV 17 (by decide)
 have d18 : (xs 18) = .int .i64 (nth px k) := hV 18 (by decide)
 clear hV
 simp only [patchS, Nat.reduceAdd, Nat.reduceEqDiff, ↓reduceIte]
 generalize xs 0 = y0 at *
 generalize xs 1 = y1 at *
 generalize xs 2 = y2 at *
 generalize xs 3 = y3 at *
 generalize xs 4 = y4 at *
 generalize xs 5 = y5 at *
 generalize xs 6 = y6 at *
 generalize xs 7 = y7 at *
 generalize xs 8 = y8 at *
 generalize xs 9 = y9 at *
 generalize xs 10 = y10 at *
 generalize xs 11 = y11 at *
 generalize xs 12 = y12 at *
 generalize xs 13 = y13 at *
 generalize xs 14 = y14 at *
 generalize xs 15 = y15 at *
 generalize xs 16 = y16 at *
 generalize xs 17 = y17 at *
 generalize xs 18 = y18 at *
 replace hG : Ext w0 wx := hG
 clear d0 d1 d2 d3 d4 d5 d6 d7 d8 d9 d10 d11 d12 d13 d14 d15 d16 d17
 subst d18
 go_wp2
 go_ret
 exact ⟨(ret_intH Hp).symm, E0.trans hG⟩
set_option maxRecDepth 100000 in
theorem l1At_any (p : Pic) (x y : Int) (a : Option Addr) (c n : Nat) (w : World) (hv : p.valid) (hn : n = p.px.length) (r : Sl w a n (p.px.map (Value.int .i64))) :
 Calls Tryd.prog 124 #[.agg #[.int .i64 p.w, .int .i64 p.h, .slice a n c], .int .i64 x, .int .i64 y] w fun e w' => e = .returned (.int .i64 (pat p x y)) ∧ Ext w w' := by
 have hi := pat_idx hv x y
 have hw := hv.1
 have hh := hv.2.1
 obtain ⟨w1, w2, -⟩ := hw
 obtain ⟨h1, h2, -⟩ := hh
 have Hp := Lib.hid (show pat p x y = nth p.px (clipI y 0 (p.h - 1) * p.w + clipI x 0 (p.w - 1)).toNat from rfl)
 have c1 := clipI_lo (n := y) (show (0 : Int) ≤ p.h - 1 by omega)
 have c2 := clipI_lo (n := x) (show (0 : Int) ≤ p.w - 1 by omega)
 obtain ⟨cy, hcy⟩ : ∃ cy, cy = clipI y 0 (p.h - 1) := ⟨_, rfl⟩
 obtain ⟨cx, hcx⟩ : ∃ cx, cx = clipI x 0 (p.w - 1) := ⟨_, rfl⟩
 rw [← hcy] at hi c1 Hp
 rw [← hcx] at hi c2 Hp
 have Hcy := Lib.hid hcy
 have Hcx := Lib.hid hcx
 clear hcy hcx
 have hk : (cy * p.w + cx).toNat < n := by omega
 obtain ⟨k, hk2⟩ : ∃ k : Nat, cy * p.w + cx = (k : Int) := ⟨(cy * p.w + cx).toNat, by omega⟩
 rw [hk2] at hi hk
 rw [hk2, Int.toNat_natCast] at Hp
 rw [Int.toNat_natCast] at hk
 have Hk := Lib.hid hk2
 clear hk2
 obtain ⟨b, off, rfl, hc⟩ := r.int hk
 have Hc := Lib.hid hc
 have p0 := blk_new w (.cells #[.int .i64 p.w, .int .i64 p.h, .slice (some ⟨b, off, none⟩) n c] 25)
 have E0 := Ext.alloc w (.cells #[.int .i64 p.w, .int .i64 p.h, .slice (some ⟨b, off, none⟩) n c] 25)
 have HN := Lib.hid hn
 obtain ⟨B, hB⟩ : ∃ B, B = w.heap.size := ⟨_, rfl⟩
 rw [← hB] at p0
 have HB := Lib.hid hB
 clear hn r hc hv
 go_enter Tryd.func124, Tryd.ntmps124
 go_wp2_with fail
 rw [← hB]
 clear hB
 generalize w.alloc (.cells #[.int .i64 p.w, .int .i64 p.h, .slice (some ⟨b, off, none⟩) n c] 25) = w0 at *
 obtain ⟨pw, ph, px⟩ := p
 simp only at *
 refine wp_region_inv2 (by kernel_rfl) [(6, 18), (7, 0), (8, 1), (9, 2), (10, 3), (11, 4), (12, 5), (13, 6), (14, 7), (15, 8), (16, 9), (17, 10), (18, 11), (19, 12), (20, 13), (21, 14), (22, 15), (23, 16), (24, 17)] [[], [0], [], [], [3], [3, 4], [2, 3, 4, 5], [], [7], [2, 3, 4, 5, 6, 7, 8], [], [], [11], [11, 12], [2, 3, 4, 5, 6, 10, 11, 12, 13], [2, 3, 4, 5, 6, 7, 8, 9, 10, 11, 12, 13, 14], [0, 1, 2, 3, 4, 5, 6, 7, 8, 9, 10, 11, 12, 13, 14, 15], [0, 1, 2, 3, 4, 5, 6, 7, 8, 9, 10, 11, 12, 13, 14, 15, 16], [0, 1, 2, 3, 4, 5, 6, 7, 8, 9, 10, 11, 12, 13, 14, 15, 16, 17]] (fun i own ys wx => match i with | 0 => own = .pointer (some ⟨B, 2, none⟩) | 1 => own = .slice (some ⟨b, off, none⟩) n c | 2 => own = .int .i64 y | 3 => own = .pointer (some ⟨B, 1, none⟩) | 4 => own = .int .i64 ph | 5 => own = .int .i64 (ph - 1) | 6 => own = .int .i64 cy | 7 => own = .pointer (some ⟨B, 0, none⟩) | 8 => own = .int .i64 pw | 9 => own = .int .i64 (cy * pw) | 10 => own = .int .i64 x | 11 => own = .pointer (some ⟨B, 0, none⟩) | 12 => own = .int .i64 pw | 13 => own = .int .i64 (pw - 1) | 14 => own = .int .i64 cx | 15 => own = .int .i64 (k : Nat) | 16 => own = .pointer (some ⟨b, off + k, none⟩) | 17 => own = .int .i64 (nth px k) | 18 => own = .int .i64 (nth px k) | _ => True) (fun kx wx => Ext w0 wx) (by kernel_rfl) (by kernel_rfl) (by kernel_rfl) ?g0_r2 ?gop_r2 ?gend_r2
 case g0_r2 => exact Ext.drewN _ 1
 case gop_r2 =>
  refine ⟨?_, ?_, ?_, ?_, ?_, ?_, ?_, ?_, ?_, ?_, ?_, ?_, ?_, ?_, ?_, ?_, ?_, ?_, ?_, trivial⟩
  ·intro kx xs wx hk hG hD hI Qo Kx hK hQo
   clear hD hI
   simp only [patchS, Nat.reduceAdd, Nat.reduceEqDiff, ↓reduceIte] at hQo ⊢
   go_wp2
   exact hK.out _ _ ⟨rfl, hG, fun _ _ _ _ _ _ h => h⟩
  ·intro kx xs wx hk hG hD hI Qo Kx hK hQo
   have d0 : (xs 0) = .pointer (some ⟨B, 2, none⟩) := hD 0 rfl
   clear hD hI
   simp only [patchS, Nat.reduceAdd, Nat.reduceEqDiff, ↓reduceIte] at hQo ⊢
   generalize xs 0 = y0 at *
   subst d0
   obtain ⟨-, k0, k1, k2, -⟩ := bx3 (hG.blk p0)
   go_wp2
   exact hK.out _ _ ⟨rfl, hG, fun _ _ _ _ _ _ h => h⟩
  ·intro kx xs wx hk hG hD hI Qo Kx hK hQo
   clear hD hI
   simp only [patchS, Nat.reduceAdd, Nat.reduceEqDiff, ↓reduceIte] at hQo ⊢
   go_wp2
   exact hK.out _ _ ⟨rfl, hG, fun _ _ _ _ _ _ h => h⟩
  ·intro kx xs wx hk hG hD hI Qo Kx hK hQo
   clear hD hI
   simp only [patchS, Nat.reduceAdd, Nat.reduceEqDiff, ↓reduceIte] at hQo ⊢
   go_wp2
   exact hK.out _ _ ⟨rfl, hG, fun _ _ _ _ _ _ h => h⟩
  ·intro kx xs wx hk hG hD hI Qo Kx hK hQo
   have d3 : (xs 3) = .pointer (some ⟨B, 1, none⟩) := hD 3 rfl
   clear hD hI
   simp only [patchS, Nat.reduceAdd, Nat.reduceEqDiff, ↓reduceIte] at hQo ⊢
   generalize xs 3 = y3 at *
   subst d3
   obtain ⟨-, k0, k1, k2, -⟩ := bx3 (hG.blk p0)
   go_wp2
   exact hK.out _ _ ⟨rfl, hG, fun _ _ _ _ _ _ h => h⟩
  ·intro kx xs wx hk hG hD hI Qo Kx hK hQo
   have d4 : (xs 4) = .int .i64 ph := hD 4 rfl
   clear hD hI
   simp only [patchS, Nat.reduceAdd, Nat.reduceEqDiff, ↓reduceIte] at hQo ⊢
   generalize xs 4 = y4 at *
   subst d4
   go_wp2
   exact hK.out _ _ ⟨rfl, hG, fun _ _ _ _ _ _ h => h⟩
  ·intro kx xs wx hk hG hD hI Qo Kx hK hQo
   have d2 : (xs 2) = .int .i64 y := hD 2 rfl
   have d5 : (xs 5) = .int .i64 (ph - 1) := hD 5 rfl
   clear hD hI
   simp only [patchS, Nat.reduceAdd, Nat.reduceEqDiff, ↓reduceIte] at hQo ⊢
   generalize xs 2 = y2 at *
   generalize xs 5 = y5 at *
   subst d2 d5
   go_wp2_with fail
   refine (l1Clip_any _ _ _ _).mono ?_
   rintro e w2 ⟨rfl, rfl⟩
   rw [← Hcy.out]
   go_wp2
   exact hK.out _ _ ⟨rfl, hG, fun _ _ _ _ _ _ h => h⟩
  ·intro kx xs wx hk hG hD hI Qo Kx hK hQo
   clear hD hI
   simp only [patchS, Nat.reduceAdd, Nat.reduceEqDiff, ↓reduceIte] at hQo ⊢
   go_wp2
   exact hK.out _ _ ⟨rfl, hG, fun _ _ _ _ _ _ h => h⟩
  ·intro kx xs wx hk hG hD hI Qo Kx hK hQo
   have d7 : (xs 7) = .pointer (some ⟨B, 0, none⟩) := hD 7 rfl
   clear hD hI
   simp only [patchS, Nat.reduceAdd, Nat.reduceEqDiff, ↓reduceIte] at hQo ⊢
   generalize xs 7 = y7 at *
   subst d7
   obtain ⟨-, k0, k1, k2, -⟩ := bx3 (hG.blk p0)
   go_wp2
   exact hK.out _ _ ⟨rfl, hG, fun _ _ _ _ _ _ h => h⟩
  ·intro kx xs wx hk hG hD hI Qo Kx hK hQo
   have d6 : (xs 6) = .int .i64 cy := hD 6 rfl
   have d8 : (xs 8) = .int .i64 pw := hD 8 rfl
   clear hD hI
   simp only [patchS, Nat.reduceAdd, Nat.reduceEqDiff, ↓reduceIte] at hQo ⊢
   generalize xs 6 = y6 at *
   generalize xs 8 = y8 at *
   subst d6 d8
   go_wp2
   exact hK.out _ _ ⟨rfl, hG, fun _ _ _ _ _ _ h => h⟩
  ·intro kx xs wx hk hG hD hI Qo Kx hK hQo
   clear hD hI
   simp only [patchS, Nat.reduceAdd, Nat.reduceEqDiff, ↓reduceIte] at hQo ⊢
   go_wp2
   exact hK.out _ _ ⟨rfl, hG, fun _ _ _ _ _ _ h => h⟩
  ·intro kx xs wx hk hG hD hI Qo Kx hK hQo
   clear hD hI
   simp only [patchS, Nat.reduceAdd, Nat.reduceEqDiff, ↓reduceIte] at hQo ⊢
   go_wp2
   exact hK.out _ _ ⟨rfl, hG, fun _ _ _ _ _ _ h => h⟩
  ·intro kx xs wx hk hG hD hI Qo Kx hK hQo
   have d11 : (xs 11) = .pointer (some ⟨B, 0, none⟩) := hD 11 rfl
   clear hD hI
   simp only [patchS, Nat.reduceAdd, Nat.reduceEqDiff, ↓reduceIte] at hQo ⊢
   generalize xs 11 = y11 at *
   subst d11
   obtain ⟨-, k0, k1, k2, -⟩ := bx3 (hG.blk p0)
   go_wp2
   exact hK.out _ _ ⟨rfl, hG, fun _ _ _ _ _ _ h => h⟩
  ·intro kx xs wx hk hG hD hI Qo Kx hK hQo
   have d12 : (xs 12) = .int .i64 pw := hD 12 rfl
   clear hD hI
   simp only [patchS, Nat.reduceAdd, Nat.reduceEqDiff, ↓reduceIte] at hQo ⊢
   generalize xs 12 = y12 at *
   subst d12
   go_wp2
   exact hK.out _ _ ⟨rfl, hG, fun _ _ _ _ _ _ h => h⟩
  ·intro kx xs wx hk hG hD hI Qo Kx hK hQo
   have d10 : (xs 10) = .int .i64 x := hD 10 rfl
   have d13 : (xs 13) = .int .i64 (pw - 1) := hD 13 rfl
   clear hD hI
   simp only [patchS, Nat.reduceAdd, Nat.reduceEqDiff, ↓reduceIte] at hQo ⊢
   generalize xs 10 = y10 at *
   generalize xs 13 = y13 at *
   subst d10 d13
   go_wp2_with fail
   refine (l1Clip_any _ _ _ _).mono ?_
   rintro e w2 ⟨rfl, rfl⟩
   rw [← Hcx.out]
   go_wp2
   exact hK.out _ _ ⟨rfl, hG, fun _ _ _ _ _ _ h => h⟩
  ·intro kx xs wx hk hG hD hI Qo Kx hK hQo
   have d9 : (xs 9) = .int .i64 (cy * pw) := hD 9 rfl
   have d14 : (xs 14) = .int .i64 cx := hD 14 rfl
   clear hD hI
   simp only [patchS, Nat.reduceAdd, Nat.reduceEqDiff, ↓reduceIte] at hQo ⊢
   generalize xs 9 = y9 at *
   generalize xs 14 = y14 at *
   subst d9 d14
   have hkb : 0 ≤ cy * pw + cx ∧ cy * pw + cx ≤ 2000 := by omega
   go_wp2
   exact hK.out _ _ ⟨by rw [← Hk.out], hG, fun _ _ _ _ _ _ h => h⟩
  ·intro kx xs wx hk hG hD hI Qo Kx hK hQo
   have d1 : (xs 1) = .slice (some ⟨b, off, none⟩) n c := hD 1 rfl
   have d15 : (xs 15) = .int .i64 (k : Nat) := hD 15 rfl
   clear hD hI
   simp only [patchS, Nat.reduceAdd, Nat.reduceEqDiff, ↓reduceIte] at hQo ⊢
   generalize xs 1 = y1 at *
   generalize xs 15 = y15 at *
   subst d1 d15
   go_wp2
   exact hK.out _ _ ⟨rfl, hG, fun _ _ _ _ _ _ h => h⟩
  ·intro kx xs wx hk hG hD hI Qo Kx hK hQo
   have d16 : (xs 16) = .pointer (some ⟨b, off + k, none⟩) := hD 16 rfl
   clear hD hI
   simp only [patchS, Nat.reduceAdd, Nat.reduceEqDiff, ↓reduceIte] at hQo ⊢
   generalize xs 16 = y16 at *
   subst d16
   have hcc := cell_ext (E0.trans hG) Hc.out
   go_wp2
   exact hK.out _ _ ⟨rfl, hG, fun _ _ _ _ _ _ h => h⟩
  ·intro kx xs wx hk hG hD hI Qo Kx hK hQo
   have d17 : (xs 17) = .int .i64 (nth px k) := hD 17 rfl
   clear hD hI
   simp only [patchS, Nat.reduceAdd, Nat.reduceEqDiff, ↓reduceIte] at hQo ⊢
   generalize xs 17 = y17 at *
   subst d17
   go_wp2
   exact hK.out _ _ ⟨rfl, hG, fun _ _ _ _ _ _ h => h⟩
 intro xs wx hV hG
 have d0 : (xs 0) = .pointer (some ⟨B, 2, none⟩) := hV 0 (by decide)
 have d1 : (xs 1) = .slice (some ⟨b, off, none⟩) n c := hV 1 (by decide)
 have d2 : (xs 2) = .int .i64 y := hV 2 (by decide)
 have d3 : (xs 3) = .pointer (some ⟨B, 1, none⟩) := hV 3 (by decide)
 have d4 : (xs 4) = .int .i64 ph := hV 4 (by decide)
 have d5 : (xs 5) = .int .i64 (ph - 1) := hV 5 (by decide)
 have d6 : (xs 6) = .int .i64 cy := hV 6 (by decide)
 have d7 : (xs 7) = .pointer (some ⟨B, 0, none⟩) := hV 7 (by decide)
 have d8 : (xs 8) = .int .i64 pw := hV 8 (by decide)
 have d9 : (xs 9) = .int .i64 (cy * pw) := hV 9 (by decide)
 have d10 : (xs 10) = .int .i64 x := hV 10 (by decide)
 have d11 : (xs 11) = .pointer (some ⟨B, 0, none⟩) := hV 11 (by decide)
 have d12 : (xs 12) = .int .i64 pw := hV 12 (by decide)
 have d13 : (xs 13) = .int .i64 (pw - 1) := hV 13 (by decide)
 have d14 : (xs 14) = .int .i64 cx := hV 14 (by decide)
 have d15 : (xs 15) = .int .i64 (k : Nat) := hV 15 (by decide)
 have d16 : (xs 16) = .pointer (some ⟨b, off + k, none⟩) := hV 16 (by decide)
 have d17 : (xs 17) = .int .i64 (nth px k) := hV 17 (by decide)
 have d18 : (xs 18) = .int .i64 (nth px k) := hV 18 (by decide)
 clear hV
 simp only [patchS, Nat.reduceAdd, Nat.reduceEqDiff, ↓reduceIte]
 generalize xs 0 = y0 at *
 generalize xs 1 = y1 at *
 generalize xs 2 = y2 at *
 generalize xs 3 = y3 at *
 generalize xs 4 = y4 at *
 generalize xs 5 = y5 at *
 generalize xs 6 = y6 at *
 generalize xs 7 = y7 at *
 generalize xs 8 = y8 at *
 generalize xs 9 = y9 at *
 generalize xs 10 = y10 at *
 generalize xs 11 = y11 at *
 generalize xs 12 = y12 at *
 generalize xs 13 = y13 at *
 generalize xs 14 = y14 at *
 generalize xs 15 = y15 at *
 generalize xs 16 = y16 at *
 generalize xs 17 = y17 at *
 generalize xs 18 = y18 at *
 replace hG : Ext w0 wx := hG
 clear d0 d1 d2 d3 d4 d5 d6 d7 d8 d9 d10 d11 d12 d13 d14 d15 d16 d17
 subst d18
 go_wp2
 go_ret
 exact ⟨(ret_intH Hp).symm, E0.trans hG⟩
end Go.Proofs.YtbnhaegidfbgbaaDoor
