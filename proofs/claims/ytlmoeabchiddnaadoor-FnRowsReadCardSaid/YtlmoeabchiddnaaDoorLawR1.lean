/- FnExactRowsRead: the program's RowsRead returns what the reference's returns: the walk of the law. -/
import Derived.Test.YtlmoeabchiddnaaDoorRy
namespace Go.Proofs.YtlmoeabchiddnaaDoor
open Go.RowKit
set_option maxHeartbeats 400000
theorem eqIntS_same (a1 a2 : Option Addr) (c1 c2 n : Nat) (xs : List Int) (w : World) (hn : n < 2^47) (r1 : Sl w a1 n (xs.map (Value.int .i64))) (r2 : Sl w a2 n (xs.map (Value.int .i64))) :
    Calls Tryd.prog 14 #[.slice a1 n c1, .slice a2 n c2] w fun e w' => e = .returned (.bool true) ∧ ∃ m, w' = w.drewN m := by
  refine (eqIntS_any a1 a2 c1 c2 n n xs xs w hn hn r1 r2).mono ?_
  rintro e w' ⟨rfl, h⟩
  exact ⟨by rw [decide_eq_true rfl], h⟩
theorem rowsL_len (m : Mac) (y h : Int) : (rowsL m y h).length ≤ 4 := by
  unfold rowsL
  split
  · rename_i hc
    have hp := hc.2.1
    unfold placed at hp
    have h1 := rowAt_le (k := (2 * (y + 8 - 1) + m.y + 1) / 2) (h := h) (by omega) hp.2.2.2.1
    rw [upto_len]; omega
  · simp
set_option maxRecDepth 100000 in
set_option maxHeartbeats 1000000 in
theorem law_FnExactRowsRead (m : Mac) (y : Int) (wy : (Lit.int .i64 y).wf = true) (h : Int) (wh : (Lit.int .i64 h).wf = true) (w : World) (hT : Tab w) (hm : m.ok) (wm : ∀ z ∈ m.zs, (Lit.int .i64 z).wf = true) :
    Calls Tryd.prog 3 #[.agg (ic m.zs), .int .i64 y, .int .i64 h] w fun e w' => e = .returned (.bool true) ∧ Ext w w' := by
  have H := IB.new w 28 m.zs
  have Hl := Lib.hid (Mac.zs_len hm)
  have Hm := Lib.hid hm
  have hlen := rowsL_len m y h
  have hI := fun (w : World) (hT : Tab w) => impl_RowsRead_any m y h w hT hm
  have hS := fun (w : World) => spec_RowsRead_any m y h w hm
  obtain ⟨L, hL⟩ : ∃ L, L = rowsL m y h := ⟨_, rfl⟩
  obtain ⟨n, hn⟩ : ∃ n, n = L.length := ⟨_, rfl⟩
  rw [← hL, ← hn] at hlen
  simp only [← hL, ← hn] at hI hS
  have HI := Lib.hid hI
  have HS := Lib.hid hS
  clear hI hS hL hn hm wy wh wm
  have E0 := Ext.alloc w (.cells (ic m.zs) 28)
  go_enter Tryd.func3, Tryd.ntmps3
  -- the reference's answer
  go_wp2_with (refine wpList_iload 28 _ rfl rfl H 0 71 rfl _ Tryd.underlying28 rfl size_lMacro (by rw [Hl.out]; omega) _ (by rw [sub_all _ _ Hl.out]) ?_)
  refine (toMacro_any m _ Hm.out).mono ?_
  rintro e w1 ⟨rfl, e1⟩
  have H1 := H.ext e1
  have E1 := E0.trans e1
  clear H E0 e1
  go_wp2_with fail
  refine (HS.out _).mono ?_
  rintro e w2 ⟨v2, rfl, own2, e2⟩
  obtain ⟨a2, c2, rfl⟩ := owns_form own2
  have s2 := Sl.of_owns own2
  have E2 := E1.trans e2
  have H2 := H1.ext e2
  have L2 := Lib.hid (show ∀ y, a2 = some y → y.block < w2.heap.size from fun y hy => (own2.lt y.block (by rw [hy]; rfl)).2)
  clear own2 E1 H1 e2
  -- the program's
  go_wp2_with (refine wpList_iload 28 _ rfl rfl H2 0 71 rfl _ Tryd.underlying28 rfl size_lMacro (by rw [Hl.out]; omega) _ (by rw [sub_all _ _ Hl.out]) ?_)
  refine (toMacro_any m _ Hm.out).mono ?_
  rintro e w3 ⟨rfl, e3⟩
  have H3 := H2.ext e3
  have E3 := E2.trans e3
  have s3 := s2.ext e3
  have h23 := e3.size
  have h2w := E2.size
  clear H2 E2 e3 s2
  go_wp2_with fail
  refine (HI.out _ (hT.ext E3)).mono ?_
  rintro e w4 ⟨v4, rfl, own4, e4⟩
  obtain ⟨a4, c4, rfl⟩ := owns_form own4
  have t4 := Sl.of_owns own4
  have s4 := s3.ext e4
  have E4 := E3.trans e4
  have H4 := H3.ext e4
  have hge := Lib.hid (owns_ge own4)
  have hwlt := H3.lt
  clear H3 E3 e4 s3
  go_wp2_with fail
  refine (eqIntS_same a4 a2 c4 c2 n L _ (by omega) t4 s4).mono ?_
  rintro e w5 ⟨rfl, q5, rfl⟩
  have own5 := owns_drewN own4 q5
  have s5 := s4.drewN q5
  have E5 : Ext w (w4.drewN q5) := below_drewN E4 q5
  have H5 := H4.drewN q5
  clear own4 s4 t4 E4 H4
  -- the answer is overwritten
  go_wp2_with fail
  refine (markIntS_any (.slice a4 n c4) n _ 1 _ _ (by omega) (by omega) (by omega) own5).mono ?_
  rintro e w6 ⟨rfl, own6, g6⟩
  have t6 := Sl.of_owns own6
  have E6 : Ext w w6 := Ext.grown E5 g6 (fun k hk => by have := hge.out k hk; omega)
  have s6 := s5.grown g6 (fun y hy e => by have := L2.out y hy; have := hge.out y.block e.symm; omega)
  have H6 := H5.gr g6 (fun e => by have := hge.out _ e; omega)
  clear own5 s5 E5 g6 own6 H5
  go_wp2_with fail
  refine (heldIntS_any a4 c4 n 1 w6 (by omega) (by omega) (by omega) t6).mono ?_
  rintro e w7 ⟨rfl, q7, rfl⟩
  have hq : ((1 : Int) + n != 1 + (n : Int)) = false := by simp
  have E7 : Ext w (w6.drewN q7) := below_drewN E6 q7
  have e7 : Ext w6 (w6.drewN q7) := Ext.drewN _ _
  have H7 := H6.drewN q7
  go_wp2_with (refine wpList_iload 28 _ rfl rfl H7 0 71 rfl _ Tryd.underlying28 rfl size_lMacro (by rw [Hl.out]; omega) _ (by rw [sub_all _ _ Hl.out]) ?_)
  refine (toMacro_any m _ Hm.out).mono ?_
  rintro e w8 ⟨rfl, e8⟩
  have E8 := E7.trans e8
  have e8' := e7.trans e8
  clear e7 e8 E7 H7 H6
  go_wp2_with fail
  refine (HI.out _ (hT.ext E8)).mono ?_
  rintro e w9 ⟨v9, rfl, own9, e9⟩
  obtain ⟨a9, c9, rfl⟩ := owns_form own9
  have E9 := E8.trans e9
  have e9' := e8'.trans e9
  have t9 := Sl.of_owns own9
  have s9 := s6.ext e9'
  have t9b := t6.ext e9'
  clear e8' e9 e9' E8 s6 t6 own9 E6
  go_wp2_with fail
  refine (eqIntS_same a9 a2 c9 c2 n L _ (by omega) t9 s9).mono ?_
  rintro e w10 ⟨rfl, q10, rfl⟩
  have t10 := t9b.drewN q10
  go_wp2_with fail
  refine (heldIntS_any a4 c4 n 1 _ (by omega) (by omega) (by omega) t10).mono ?_
  rintro e w11 ⟨rfl, q11, rfl⟩
  go_wp2
  go_ret
  first | exact ⟨rfl, below_drewN E9 _⟩ | exact ⟨rfl, below_drewN (below_drewN E9 _) _⟩
end Go.Proofs.YtlmoeabchiddnaaDoor
