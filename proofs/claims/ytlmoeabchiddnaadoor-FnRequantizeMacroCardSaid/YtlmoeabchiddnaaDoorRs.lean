/- RequantizeMacro: the program's answer, whatever the arguments. -/
import Derived.Test.YtlmoeabchiddnaaDoorRr
namespace Go.Proofs.YtlmoeabchiddnaaDoor
open Go.RowKit
set_option maxHeartbeats 1000000
theorem qualityValid_out (q : Int) (w : World) (h : q < 0 ∨ 15 < q) :
    Calls Tryd.prog 68 #[.int .i64 q] w fun e w' => e = .returned (.bool false) ∧ w = w' := by
  go_enter Tryd.func68, Tryd.ntmps68
  by_cases h0 : 0 ≤ q
  · have hd : decide (q ≤ 15) = false := by simp; omega
    go_wp2
    go_ret
    exact ⟨by first | rfl | (simp; done) | (simp; omega), rfl⟩
  · have hd : decide (0 ≤ q) = false := by simp; omega
    go_wp2
    go_ret
    exact ⟨by first | rfl | (simp; done) | (simp; omega), rfl⟩
set_option maxRecDepth 100000 in
theorem impl_RequantizeMacro_noM (m : Mac) (f t : Int) (w : World) (hT : TabQ w) (hm : m.ok) (hv : ¬ m.valid) :
    Calls Tryd.prog 33 #[.agg (ic m.zs), .int .i64 f, .int .i64 t] w fun e w' => e = .returned (.agg (ic (zl 71))) ∧ Ext w w' := by
  have Hl := Lib.hid (Mac.zs_len hm)
  have Hm := Lib.hid hm
  have Hv := Lib.hid hv
  clear hm hv
  go_enter Tryd.func33, Tryd.ntmps33
  have p0 := (IB.new w 33 m.zs).alloc (.cells (ic (zl 71)) 33)
  have r0 := IB.new (w.alloc (.cells (ic m.zs) 33)) 33 (zl 71)
  have E0 := (Ext.alloc w (.cells (ic m.zs) 33)).trans (Ext.alloc _ (.cells (ic (zl 71)) 33))
  simp only [World.size_alloc] at r0
  go_wp2_with (first | (refine wpList_iallocz 33 rfl rfl 71 zero_Macq ?_; (try simp only [World.size_alloc])) | (refine wpList_iload 33 _ rfl rfl p0 0 71 rfl _ Tryd.underlying33 rfl size_Macro (by rw [Hl.out]; omega) _ (by rw [sub_all _ _ Hl.out]) ?_))
  refine (impl_MacroValid_any m _ Hm.out).mono ?_
  rw [decide_eq_false Hv.out]
  rintro e w1 ⟨rfl, e1⟩
  have p1 := p0.ext e1
  have r1 := r0.ext e1
  have E1 := E0.trans e1
  clear p0 r0 E0 e1
  go_wp2_with (refine wpList_istore 33 _ _ rfl rfl r1 0 71 rfl _ rfl (zl 71) zero_Macc size_Macro (zl_len 71) (by simp [zl]) ?_; intro wf pf gf; refine Hid.out ?_)
  rw [spl_all (by rw [zl_len])] at pf
  have Ef : Ext w wf := Ext.grown E1 gf (fun q hq => by cases hq; omega)
  refine Lib.hid ?_
  go_wp2
  exact bodyPost_ret (v := .agg (ic (zl 71))) (results_cell_row rfl _ _ (w.heap.size + 1) 33 (ic (zl 71)) (0, 0) _ rfl pf Tryd.underlying33 rfl (by rw [ic_size, zl_len]; exact size_Macro)) rfl ⟨rfl, Ef⟩
set_option maxRecDepth 100000 in
theorem impl_RequantizeMacro_noF (m : Mac) (f t : Int) (w : World) (hT : TabQ w) (hm : m.ok) (hv : m.valid) (hf : f < 0 ∨ 15 < f) :
    Calls Tryd.prog 33 #[.agg (ic m.zs), .int .i64 f, .int .i64 t] w fun e w' => e = .returned (.agg (ic (zl 71))) ∧ Ext w w' := by
  have Hl := Lib.hid (Mac.zs_len hm)
  have Hm := Lib.hid hm
  have Hv := Lib.hid hv
  clear hm hv
  go_enter Tryd.func33, Tryd.ntmps33
  have p0 := (IB.new w 33 m.zs).alloc (.cells (ic (zl 71)) 33)
  have r0 := IB.new (w.alloc (.cells (ic m.zs) 33)) 33 (zl 71)
  have E0 := (Ext.alloc w (.cells (ic m.zs) 33)).trans (Ext.alloc _ (.cells (ic (zl 71)) 33))
  simp only [World.size_alloc] at r0
  go_wp2_with (first | (refine wpList_iallocz 33 rfl rfl 71 zero_Macq ?_; (try simp only [World.size_alloc])) | (refine wpList_iload 33 _ rfl rfl p0 0 71 rfl _ Tryd.underlying33 rfl size_Macro (by rw [Hl.out]; omega) _ (by rw [sub_all _ _ Hl.out]) ?_))
  refine (impl_MacroValid_any m _ Hm.out).mono ?_
  rw [decide_eq_true Hv.out]
  rintro e w1 ⟨rfl, e1⟩
  have p1 := p0.ext e1
  have r1 := r0.ext e1
  have E1 := E0.trans e1
  clear p0 r0 E0 e1
  go_wp2_with fail
  refine (qualityValid_out _ _ (by omega)).mono ?_
  rintro e w2 ⟨rfl, rfl⟩
  go_wp2_with (refine wpList_istore 33 _ _ rfl rfl r1 0 71 rfl _ rfl (zl 71) zero_Macc size_Macro (zl_len 71) (by simp [zl]) ?_; intro wf pf gf; refine Hid.out ?_)
  rw [spl_all (by rw [zl_len])] at pf
  have Ef : Ext w wf := Ext.grown E1 gf (fun q hq => by cases hq; omega)
  refine Lib.hid ?_
  go_wp2
  exact bodyPost_ret (v := .agg (ic (zl 71))) (results_cell_row rfl _ _ (w.heap.size + 1) 33 (ic (zl 71)) (0, 0) _ rfl pf Tryd.underlying33 rfl (by rw [ic_size, zl_len]; exact size_Macro)) rfl ⟨rfl, Ef⟩
set_option maxRecDepth 100000 in
theorem impl_RequantizeMacro_noT (m : Mac) (f t : Int) (w : World) (hT : TabQ w) (hm : m.ok) (hv : m.valid) (hf : 0 ≤ f) (hf1 : f ≤ 15) (ht : t < 0 ∨ 15 < t) :
    Calls Tryd.prog 33 #[.agg (ic m.zs), .int .i64 f, .int .i64 t] w fun e w' => e = .returned (.agg (ic (zl 71))) ∧ Ext w w' := by
  have Hl := Lib.hid (Mac.zs_len hm)
  have Hm := Lib.hid hm
  have Hv := Lib.hid hv
  clear hm hv
  go_enter Tryd.func33, Tryd.ntmps33
  have p0 := (IB.new w 33 m.zs).alloc (.cells (ic (zl 71)) 33)
  have r0 := IB.new (w.alloc (.cells (ic m.zs) 33)) 33 (zl 71)
  have E0 := (Ext.alloc w (.cells (ic m.zs) 33)).trans (Ext.alloc _ (.cells (ic (zl 71)) 33))
  simp only [World.size_alloc] at r0
  go_wp2_with (first | (refine wpList_iallocz 33 rfl rfl 71 zero_Macq ?_; (try simp only [World.size_alloc])) | (refine wpList_iload 33 _ rfl rfl p0 0 71 rfl _ Tryd.underlying33 rfl size_Macro (by rw [Hl.out]; omega) _ (by rw [sub_all _ _ Hl.out]) ?_))
  refine (impl_MacroValid_any m _ Hm.out).mono ?_
  rw [decide_eq_true Hv.out]
  rintro e w1 ⟨rfl, e1⟩
  have p1 := p0.ext e1
  have r1 := r0.ext e1
  have E1 := E0.trans e1
  clear p0 r0 E0 e1
  go_wp2_with fail
  refine (qualityValid_in _ _ (by omega) (by omega)).mono ?_
  rintro e w2 ⟨rfl, rfl⟩
  go_wp2_with fail
  refine (qualityValid_out _ _ (by omega)).mono ?_
  rintro e w2 ⟨rfl, rfl⟩
  go_wp2_with (refine wpList_istore 33 _ _ rfl rfl r1 0 71 rfl _ rfl (zl 71) zero_Macc size_Macro (zl_len 71) (by simp [zl]) ?_; intro wf pf gf; refine Hid.out ?_)
  rw [spl_all (by rw [zl_len])] at pf
  have Ef : Ext w wf := Ext.grown E1 gf (fun q hq => by cases hq; omega)
  refine Lib.hid ?_
  go_wp2
  exact bodyPost_ret (v := .agg (ic (zl 71))) (results_cell_row rfl _ _ (w.heap.size + 1) 33 (ic (zl 71)) (0, 0) _ rfl pf Tryd.underlying33 rfl (by rw [ic_size, zl_len]; exact size_Macro)) rfl ⟨rfl, Ef⟩
set_option maxRecDepth 100000 in
theorem impl_RequantizeMacro_yes (m : Mac) (f t : Nat) (w : World) (hT : TabQ w) (hm : m.ok) (hv : m.valid) (hf : f < 16) (ht : t < 16) :
    Calls Tryd.prog 33 #[.agg (ic m.zs), .int .i64 f, .int .i64 t] w fun e w' => e = .returned (.agg (ic (m.done f t 64).zs)) ∧ Ext w w' := by
  have Hl := Lib.hid (Mac.zs_len hm)
  have Hm := Lib.hid hm
  have Hv := Lib.hid hv
  clear hm hv
  go_enter Tryd.func33, Tryd.ntmps33
  have p0 := (IB.new w 33 m.zs).alloc (.cells (ic (zl 71)) 33)
  have r0 := IB.new (w.alloc (.cells (ic m.zs) 33)) 33 (zl 71)
  have E0 := (Ext.alloc w (.cells (ic m.zs) 33)).trans (Ext.alloc _ (.cells (ic (zl 71)) 33))
  simp only [World.size_alloc] at r0
  go_wp2_with (first | (refine wpList_iallocz 33 rfl rfl 71 zero_Macq ?_; (try simp only [World.size_alloc])) | (refine wpList_iload 33 _ rfl rfl p0 0 71 rfl _ Tryd.underlying33 rfl size_Macro (by rw [Hl.out]; omega) _ (by rw [sub_all _ _ Hl.out]) ?_))
  refine (impl_MacroValid_any m _ Hm.out).mono ?_
  rw [decide_eq_true Hv.out]
  rintro e w1 ⟨rfl, e1⟩
  have p1 := p0.ext e1
  have r1 := r0.ext e1
  have E1 := E0.trans e1
  clear p0 r0 E0 e1
  go_wp2_with fail
  refine (qualityValid_in _ _ (by omega) (by omega)).mono ?_
  rintro e w2 ⟨rfl, rfl⟩
  go_wp2_with fail
  refine (qualityValid_in _ _ (by omega) (by omega)).mono ?_
  rintro e w2 ⟨rfl, rfl⟩
  go_wp2_with (refine wpList_iload 33 _ rfl rfl p1 0 71 rfl _ Tryd.underlying33 rfl size_Macro (by rw [Hl.out]; omega) _ (by rw [sub_all _ _ Hl.out]) ?_)
  refine (requantized_any m f t _ (hT.ext E1) Hm.out Hv.out hf ht).mono ?_
  rintro e w3 ⟨rfl, e3⟩
  have r3 := r1.ext e3
  have E3 := E1.trans e3
  have Hl2 := Lib.hid (Mac.zs_len (Mac.done_ok Hm.out f t 64))
  obtain ⟨ZF, hZF⟩ : ∃ ZF, ZF = (m.done f t 64).zs := ⟨_, rfl⟩
  rw [← hZF] at Hl2
  have HZF := Lib.hid hZF
  clear p1 r1 E1 e3 hZF
  rw [← HZF.out]
  go_wp2_with (refine wpList_istore 33 _ _ rfl rfl r3 0 71 rfl _ rfl ZF rfl size_Macro Hl2.out (by simp [zl]) ?_; intro wf pf gf; refine Hid.out ?_)
  rw [spl_all (by rw [Hl2.out, zl_len])] at pf
  have Ef : Ext w wf := Ext.grown E3 gf (fun q hq => by cases hq; omega)
  refine Lib.hid ?_
  go_wp2
  exact bodyPost_ret (v := .agg (ic ZF)) (results_cell_row rfl _ _ (w.heap.size + 1) 33 (ic ZF) (0, 0) _ rfl pf Tryd.underlying33 rfl (by rw [ic_size, Hl2.out]; exact size_Macro)) rfl ⟨by rw [HZF.out], Ef⟩
theorem impl_RequantizeMacro_any (m : Mac) (f t : Int) (w : World) (hT : TabQ w) (hm : m.ok) :
    Calls Tryd.prog 33 #[.agg (ic m.zs), .int .i64 f, .int .i64 t] w fun e w' => e = .returned (.agg (ic (reqM m f t).zs)) ∧ Ext w w' := by
  unfold reqM
  by_cases hv : m.valid
  · by_cases hf : 0 ≤ f ∧ f ≤ 15
    · by_cases ht : 0 ≤ t ∧ t ≤ 15
      · rw [if_pos ⟨hv, hf, ht⟩]
        have h := impl_RequantizeMacro_yes m f.toNat t.toNat w hT hm hv (by omega) (by omega)
        rw [show ((f.toNat : Nat) : Int) = f by omega, show ((t.toNat : Nat) : Int) = t by omega] at h
        exact h
      · rw [if_neg (fun h => ht h.2.2), mac0_z]
        exact impl_RequantizeMacro_noT m f t w hT hm hv hf.1 hf.2 (by omega)
    · rw [if_neg (fun h => hf h.2.1), mac0_z]
      exact impl_RequantizeMacro_noF m f t w hT hm hv (by omega)
  · rw [if_neg (fun h => hv h.1), mac0_z]
    exact impl_RequantizeMacro_noM m f t w hT hm hv
end Go.Proofs.YtlmoeabchiddnaaDoor
