/- toMacro. -/
import Derived.Test.YtlmoeabchiddnaaDoorMt
import Derived.Deep.Cut
namespace Go.Proofs.YtlmoeabchiddnaaDoor
open Go.RowKit
set_option maxHeartbeats 400000
theorem mac_built (m : Mac) (h : m.ok) : spl (spl (spl ((List.replicate 71 (0 : Int)).set 0 m.kind) 1 [m.x, m.y]) 3 m.modes) 7 m.lv = m.zs := by
  obtain ⟨k, x, y, md, lv⟩ := m
  obtain ⟨h1, h2⟩ := h
  simp only at h1 h2
  match md, h1 with
  | [a, b, c, d], _ =>
    have e1 : (List.replicate 71 (0 : Int)).set 0 k = k :: 0 :: 0 :: 0 :: 0 :: 0 :: 0 :: List.replicate 64 0 := rfl
    simp only [e1]
    unfold spl Mac.zs
    simp [h2]
theorem size_lMacro : (Tryd.prog.info? 28).map (·.size) = some 71 := by kernel_rfl
theorem zero_Macro : (Tryd.prog.info? 33).map (·.zero) = some (some (.agg (ic (List.replicate 71 0)))) := by kernel_rfl
theorem size_lVector : (Tryd.prog.info? 23).map (·.size) = some 2 := by kernel_rfl
set_option maxRecDepth 100000 in
theorem toMacro_any (m : Mac) (w : World) (h : m.ok) :
    Calls Tryd.prog 12 #[.agg (ic m.zs)] w fun e w' => e = .returned (.agg (ic m.zs)) ∧ Ext w w' := by
  have Hl := Lib.hid (Mac.zs_len h)
  have Hm := Lib.hid h
  clear h
  go_enter Tryd.func12, Tryd.ntmps12
  go_upto_region 2 with (refine wpList_ialloc 33 rfl rfl 71 zero_Macro ?_)
  obtain ⟨W, p0, p1, p2, E1, hW⟩ : ∃ W, IB W w.heap.size 28 m.zs ∧ IB W (w.heap.size + 1) 33 (List.replicate 71 0) ∧ IB W (w.heap.size + 1 + 1) 33 (List.replicate 71 0) ∧ Ext w W ∧ ((w.alloc (.cells (ic m.zs) 28)).alloc (.cells (ic (List.replicate 71 0)) 33)).alloc (.cells (ic (List.replicate 71 0)) 33) = W := by
    refine ⟨_, ?_, ?_, ?_, ?_, rfl⟩
    · exact ((IB.new w 28 m.zs).alloc _).alloc _
    · have := (IB.new (w.alloc (.cells (ic m.zs) 28)) 33 (List.replicate 71 0)).alloc (.cells (ic (List.replicate 71 0)) 33)
      simp only [World.size_alloc] at this
      exact this
    · have := IB.new ((w.alloc (.cells (ic m.zs) 28)).alloc (.cells (ic (List.replicate 71 0)) 33)) 33 (List.replicate 71 0)
      simp only [World.size_alloc] at this
      exact this
    · exact ((Ext.alloc _ _).trans (Ext.alloc _ _)).trans (Ext.alloc _ _)
  rw [hW]
  clear hW
  have k0 := p0.cell (i := 0) (by rw [Hl.out]; omega)
  rw [Mac.zs_kind] at k0
  have d0 := p2.cell (i := 0) (by simp)
  have f0 := p2.frozen 0
  go_upto_region 3 with (fail)
  have E2 := Ext.grown E1 (gr_set W (w.heap.size + 1 + 1) 0 (.int .i64 m.kind)) (fun q hq => by cases hq; omega)
  have r0 := p0.set_other (c := w.heap.size + 1 + 1) (i := 0) (v := .int .i64 m.kind) (by omega)
  have r1 := p1.set_other (c := w.heap.size + 1 + 1) (i := 0) (v := .int .i64 m.kind) (by omega)
  have r2 := p2.set 0 m.kind
  generalize W.setCell ⟨w.heap.size + 1 + 1, 0, none⟩ (.int .i64 m.kind) = W2 at *
  clear p0 p1 p2 k0 d0 f0 E1
  go_wp2_with (refine wpList_iload 23 _ rfl rfl r0 1 2 rfl _ Tryd.underlying23 rfl size_lVector (by rw [Hl.out]; omega) _ Mac.zs_mv ?_)
  refine (toVector_any m.x m.y _).mono ?_
  rintro e w3 ⟨rfl, e3⟩
  have E3 := E2.trans e3
  have q0 := r0.ext e3
  have q1 := r1.ext e3
  have q2 := r2.ext e3
  clear r0 r1 r2 E2 e3
  go_wp2_with (first | (refine wpList_istore 31 _ _ rfl rfl q2 1 2 rfl _ rfl [m.x, m.y] rfl size_Vector rfl (by simp) ?_; intro w4 p4 g4; refine Hid.out ?_))
  have E4 := Ext.grown E3 g4 (fun q hq => by cases hq; omega)
  have s0 := q0.gr g4 (by simp; omega)
  have s1 := q1.gr g4 (by simp)
  clear q0 q1 q2 E3 g4
  refine Lib.hid ?_
  go_wp2_with (refine wpList_iload 24 _ rfl rfl s0 3 4 rfl _ Tryd.underlying24 rfl size_A4 (by rw [Hl.out]; omega) _ (by rw [Mac.zs_modes Hm.out]) ?_)
  refine (toIntA4_any m.modes _ Hm.out.modes).mono ?_
  rintro e w5 ⟨rfl, e5⟩
  have E5 := E4.trans e5
  have t0 := s0.ext e5
  have t1 := s1.ext e5
  have t2 := p4.ext e5
  clear s0 s1 p4 E4 e5
  have L1 : Hid ((spl ((List.replicate 71 (0 : Int)).set 0 m.kind) 1 [m.x, m.y]).length = 71) := Lib.hid (by rw [spl_len (by simp)]; simp)
  go_wp2_with (first | (refine wpList_istore 24 _ _ rfl rfl t2 3 4 rfl _ rfl m.modes rfl size_A4 Hm.out.modes (by rw [L1.out]; omega) ?_; intro w6 p6 g6; refine Hid.out ?_))
  have E6 := Ext.grown E5 g6 (fun q hq => by cases hq; omega)
  have v0 := t0.gr g6 (by simp; omega)
  have v1 := t1.gr g6 (by simp)
  clear t0 t1 t2 E5 g6
  refine Lib.hid ?_
  go_wp2_with (refine wpList_iload 26 _ rfl rfl v0 7 64 rfl _ Tryd.underlying26 rfl size_A16A4 (by rw [Hl.out]; omega) _ (by rw [Mac.zs_lv Hm.out]) ?_)
  refine (toIntA16A4_any m.lv _ Hm.out.lv).mono ?_
  rintro e w7 ⟨rfl, e7⟩
  have E7 := E6.trans e7
  have x1 := v1.ext e7
  have x2 := p6.ext e7
  clear v0 v1 p6 E6 e7
  have L2 : Hid ((spl (spl ((List.replicate 71 (0 : Int)).set 0 m.kind) 1 [m.x, m.y]) 3 m.modes).length = 71) := Lib.hid (by rw [spl_len (by rw [L1.out, Hm.out.modes]; omega), L1.out])
  go_wp2_with (first | (refine wpList_istore 26 _ _ rfl rfl x2 7 64 rfl _ rfl m.lv rfl size_A16A4 Hm.out.lv (by rw [L2.out]; omega) ?_; intro w8 p8 g8; refine Hid.out ?_))
  rw [mac_built m Hm.out] at p8
  have E8 := Ext.grown E7 g8 (fun q hq => by cases hq; omega)
  have y1 := x1.gr g8 (by simp)
  clear x1 x2 E7 g8 L1 L2
  refine Lib.hid ?_
  go_wp2_with (first | (refine wpList_iload 33 _ rfl rfl p8 0 71 rfl _ Tryd.underlying33 rfl size_Macro (by rw [Hl.out]; omega) _ (by rw [sub_all _ _ Hl.out]) ?_) | (refine wpList_istore 33 _ _ rfl rfl y1 0 71 rfl _ rfl m.zs rfl size_Macro Hl.out (by simp) ?_; intro w9 p9 g9; refine Hid.out ?_))
  rw [spl_all (by rw [Hl.out]; simp)] at p9
  have E9 := Ext.grown E8 g9 (fun q hq => by cases hq; omega)
  refine Lib.hid ?_
  go_wp2
  exact bodyPost_ret (v := .agg (ic m.zs)) (results_cell_row rfl _ _ (w.heap.size + 1) 33 (ic m.zs) (0, 0) _ rfl p9 Tryd.underlying33 rfl (by rw [ic_size, Hl.out]; exact size_Macro)) rfl ⟨rfl, E9⟩
end Go.Proofs.YtlmoeabchiddnaaDoor
