/- FnExactRequantizeMacro: the walk of the law. -/
import Derived.Test.YtlmoeabchiddnaaDoorRs
import Derived.Test.YtlmoeabchiddnaaDoorEq
namespace Go.Proofs.YtlmoeabchiddnaaDoor
open Go.RowKit
set_option maxHeartbeats 1000000
set_option maxRecDepth 100000 in
theorem law_FnExactRequantizeMacro (m : Mac) (f : Int) (wf : (Lit.int .i64 f).wf = true) (t : Int) (wt : (Lit.int .i64 t).wf = true) (w : World) (hT : TabQ w) (hm : m.ok) (wm : ∀ z ∈ m.zs, (Lit.int .i64 z).wf = true) :
    Calls Tryd.prog 7 #[.agg (ic m.zs), .int .i64 f, .int .i64 t] w fun e w' => e = .returned (.bool true) ∧ Ext w w' := by
  have p0 := IB.new w 28 m.zs
  have E0 := Ext.alloc w (.cells (ic m.zs) 28)
  have Hl := Lib.hid (Mac.zs_len hm)
  have Hm := Lib.hid hm
  have HS := Lib.hid (fun (w : World) => spec_RequantizeMacro_any m f t w hm)
  have HI := Lib.hid (fun (w : World) (hT : TabQ w) => impl_RequantizeMacro_any m f t w hT hm)
  have Hr := Lib.hid (reqM_ok hm f t)
  have Hrl := Lib.hid (Mac.zs_len (reqM_ok hm f t))
  generalize reqM m f t = R at *
  clear hm wf wt wm
  go_enter Tryd.func7, Tryd.ntmps7
  go_wp2_with (refine wpList_iload 28 _ rfl rfl p0 0 71 rfl _ Tryd.underlying28 rfl size_lMacro (by rw [Hl.out]; omega) _ (by rw [sub_all _ _ Hl.out]) ?_)
  refine (toMacro_any m _ Hm.out).mono ?_
  rintro e w1 ⟨rfl, e1⟩
  have p1 := p0.ext e1
  have E1 := E0.trans e1
  clear p0 E0 e1
  go_wp2_with fail
  refine (HS.out _).mono ?_
  rintro e w2 ⟨rfl, e2⟩
  have p2 := (p1.ext e2).alloc (.cells (ic (zl 71)) 33)
  have q2 := IB.new w2 33 (zl 71)
  have E2 := (E1.trans e2).trans (Ext.alloc w2 (.cells (ic (zl 71)) 33))
  have hs2 := (E1.trans e2).size
  have hs3 := (p1.ext e2).lt
  clear p1 E1 e2
  obtain ⟨a, ha⟩ : ∃ a, a = w2.heap.size := ⟨_, rfl⟩
  go_wp2_with (first | (refine wpList_iallocz 33 rfl rfl 71 zero_Macq ?_; (try simp only [World.size_alloc])) | (refine wpList_istore 33 _ _ rfl rfl q2 0 71 rfl _ rfl R.zs rfl size_Macro Hrl.out (by simp [zl]) ?_; intro w3 q3 g3; refine Hid.out ?_))
  rw [spl_all (by rw [Hrl.out, zl_len])] at q3
  rw [← ha] at q3 g3 hs2 hs3 ⊢
  have p3 := p2.gr g3 (by simp; omega)
  have E3 : Ext w w3 := Ext.grown E2 g3 (fun q hq => by cases hq; omega)
  clear p2 q2 E2 g3 ha
  refine Lib.hid ?_
  go_wp2_with (refine wpList_iload 28 _ rfl rfl p3 0 71 rfl _ Tryd.underlying28 rfl size_lMacro (by rw [Hl.out]; omega) _ (by rw [sub_all _ _ Hl.out]) ?_)
  refine (toMacro_any m _ Hm.out).mono ?_
  rintro e w4 ⟨rfl, e4⟩
  have q4 := q3.ext e4
  have E4 := E3.trans e4
  clear p3 q3 E3 e4
  go_wp2_with fail
  refine (HI.out _ (hT.ext E4)).mono ?_
  rintro e w5 ⟨rfl, e5⟩
  have q5 := (q4.ext e5).alloc (.cells (ic (zl 71)) 33)
  have r5 := IB.new w5 33 (zl 71)
  have E5 := (E4.trans e5).trans (Ext.alloc w5 (.cells (ic (zl 71)) 33))
  have hs5 := (q4.ext e5).lt
  have hs6 := (E4.trans e5).size
  clear q4 E4 e5
  obtain ⟨c, hc⟩ : ∃ c, c = w5.heap.size := ⟨_, rfl⟩
  go_wp2_with (first | (refine wpList_iallocz 33 rfl rfl 71 zero_Macq ?_; (try simp only [World.size_alloc])) | (refine wpList_istore 33 _ _ rfl rfl r5 0 71 rfl _ rfl R.zs rfl size_Macro Hrl.out (by simp [zl]) ?_; intro w6 r6 g6; refine Hid.out ?_))
  rw [spl_all (by rw [Hrl.out, zl_len])] at r6
  rw [← hc] at r6 g6 hs5 hs6 ⊢
  have q6 := q5.gr g6 (by simp; omega)
  have E6 : Ext w w6 := Ext.grown E5 g6 (fun q hq => by cases hq; omega)
  clear q5 r5 E5 g6 hc
  refine Lib.hid ?_
  go_wp2_with (first | (refine wpList_iload 33 _ rfl rfl q6 0 71 rfl _ Tryd.underlying33 rfl size_Macro (by rw [Hrl.out]; omega) _ (by rw [sub_all _ _ Hrl.out]) ?_) | (refine wpList_iload 33 _ rfl rfl r6 0 71 rfl _ Tryd.underlying33 rfl size_Macro (by rw [Hrl.out]; omega) _ (by rw [sub_all _ _ Hrl.out]) ?_))
  refine (eqMacro_same R _ Hr.out).mono ?_
  rintro e w7 ⟨rfl, e7⟩
  go_wp2
  go_ret
  exact ⟨rfl, E6.trans e7⟩
end Go.Proofs.YtlmoeabchiddnaaDoor
