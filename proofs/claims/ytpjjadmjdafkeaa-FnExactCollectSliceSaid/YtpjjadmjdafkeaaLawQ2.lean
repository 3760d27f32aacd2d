/- FnExactCollectSlice: the program's CollectSlice returns what the reference's returns: the walk of the law. -/
import Derived.Test.YtpjjadmjdafkeaaCs
import Derived.Test.YtpjjadmjdafkeaaQ2
namespace Go.Proofs.Ytpjjadmjdafkeaa
open Go.RowKit
set_option maxHeartbeats 400000
set_option maxRecDepth 100000 in
set_option maxHeartbeats 1000000 in
theorem law_FnExactCollectSlice (a : Option Addr) (c n : Nat) (L : List Pkt) (f : Int) (wf1 : (Lit.int .i64 f).wf = true) (q : Int) (wf2 : (Lit.int .i64 q).wf = true) (w : World) (hn0 : n ≤ c ∧ c ≤ maxLen) (r : KP w a n L) (wf : ∀ x ∈ L, (Lit.int .i64 x.num).wf = true ∧ (Lit.int .i64 x.fr).wf = true ∧ (Lit.int .i64 x.row).wf = true ∧ (Lit.int .i64 x.part).wf = true ∧ ∀ z ∈ x.data, (Lit.int .u8 z).wf = true) :
    Calls Try.prog 8 #[.slice a n c, .int .i64 f, .int .i64 q] w fun e w' => e = .returned (.bool true) ∧ Ext w w' := by
  have hn : n ≤ 9223372036854775807 := Nat.le_trans hn0.1 hn0.2
  have Wf := Lib.hid (show ∀ x ∈ L, wfI x.fr ∧ wfI x.row ∧ wfI x.part from fun x hx => ⟨(wf x hx).2.1, (wf x hx).2.2.1, (wf x hx).2.2.2.1⟩)
  have Wf1 := Lib.hid wf1
  have Wf2 := Lib.hid wf2
  clear hn0 wf wf1 wf2
  go_enter Try.func8, Try.ntmps8
  go_wp2_with fail
  refine (szPacketS_any a c n L _ hn r).mono ?_
  rintro e w1 ⟨x, rfl, hx, E1⟩
  by_cases hneg : x < 0
  · go_wp2
    go_ret
    exact ⟨rfl, E1⟩
  have hd : decide (x < 0) = false := by simpa using hneg
  obtain ⟨hn2, hL⟩ := hx (by omega)
  have HL1 := Lib.hid hL
  have HL := Lib.hid (show ∀ x ∈ L, x.data.length < 2^45 from fun x hx => by have := hL x hx; omega)
  have hp := coll_len L f q
  have hI := fun (a' : Option Addr) (c' : Nat) (w : World) (r : KP w a' n L) => impl_CollectSlice_any a' c' n L f q w (by omega) r Wf.out Wf1.out Wf2.out
  have hS := fun (a' : Option Addr) (c' : Nat) (w : World) (r : KP w a' n L) => spec_CollectSlice_any a' c' n L f q w (by omega) r
  unfold CoR at hI hS
  generalize (coll L f q).isSome = okb at *
  obtain ⟨P, hP⟩ : ∃ P, P = (coll L f q).getD [] := ⟨_, rfl⟩
  obtain ⟨m, hm⟩ : ∃ m, m = P.length := ⟨_, rfl⟩
  simp only [← hP, ← hm] at hI hS hp
  have hok : (okb != okb) = false := by cases okb <;> rfl
  have HI := Lib.hid hI
  have HS := Lib.hid hS
  clear hx hL hm hP hI hS
  -- the reference's answer
  go_wp2_with fail
  refine (toPacketS_own a c n L _ (by omega) (r.ext E1) HL1.out).mono ?_
  rintro e w2 ⟨rfl, r2, -, e2⟩
  have E2 := E1.trans e2
  clear e2
  go_wp2_with fail
  refine (HS.out _ _ _ r2).mono ?_
  rintro e w3 ⟨a3, c3, rfl, own3, e3⟩
  have s3 := Sl.of_owns own3
  have hlt3 : ∀ y, a3 = some y → y.block < w3.heap.size := fun y hy => (own3.lt y.block (by rw [hy]; rfl)).2
  have E3 := E2.trans e3
  have H3 := Lib.hid hlt3
  clear e3 r2 E2 E1 own3 hlt3
  -- the program's
  go_wp2_with fail
  refine (toPacketS_own a c n L _ (by omega) (r.ext E3) HL1.out).mono ?_
  rintro e w4 ⟨rfl, r4, o4, e4⟩
  have E4 := E3.trans e4
  have s4 := s3.ext e4
  go_wp2_with fail
  refine (HI.out _ _ _ r4).mono ?_
  rintro e w5 ⟨a5, c5, rfl, own5, e5⟩
  have E5 := E4.trans e5
  have s5 := s4.ext e5
  have t5 := Sl.of_owns own5
  have r5 := r4.ext e5
  have o5 := RSo.ext o4 e5
  have hge5 := owns_ge own5
  have h34 : w3.heap.size ≤ w4.heap.size := e4.size
  have h5 : w4.heap.size ≤ w5.heap.size := e5.size
  have E35 := E3.size
  clear e4 e5 E3 E4 s3 s4 r4 o4
  go_wp2_with fail
  refine (eqByteS_same a5 a3 c5 c3 m P _ (by omega) t5 s5).mono ?_
  rintro e w6 ⟨rfl, q6, rfl⟩
  have E6 : Ext w (w5.drewN q6) := below_drewN E5 q6
  have e56 : Ext w5 (w5.drewN q6) := Ext.drewN _ _
  go_wp2_with fail
  refine (toPacketS_own a c n L _ (by omega) (r.ext E6) HL1.out).mono ?_
  rintro e w7 ⟨rfl, r7, -, e7⟩
  have E7 := E6.trans e7
  have e57 := e56.trans e7
  go_wp2_with fail
  refine (eqPacketS_same _ _ _ _ n L _ (by omega) HL.out (r5.ext e57) r7).mono ?_
  rintro e w8 ⟨rfl, e8⟩
  have E8 := E7.trans e8
  have e58 := e57.trans e8
  have own8 := owns_ext own5 e58
  have s8 := s5.ext e58
  have t8 := t5.ext e58
  have o8 := RSo.ext o5 e58
  have h58 : w5.heap.size ≤ w8.heap.size := e58.size
  clear e7 e8 e56 e57 e58 E7 E6 E5 own5 s5 t5 r5 r7 o5
  -- the argument is overwritten
  have hh4 : w4.heap.size ≤ w8.heap.size := Nat.le_trans h5 h58
  go_wp2_with fail
  refine (markPacketS_any _ _ n 1 w8 hn2 (by omega) (by omega) o8 hh4).mono ?_
  rintro e w9 ⟨k9, rfl, hk9, -, T9⟩
  have hd9 : decide (k9 < 0) = false := by simp; omega
  have E9 := E8.tch T9 (by omega)
  have s9 := s8.tch T9 (fun y hy => .inl (by have := H3.out y hy; omega))
  have t9 := t8.tch T9 (fun y hy => .inr (hge5 y.block (by rw [hy]; rfl)))
  have own9 := owns_tch own8 T9 (fun k hk => .inr (hge5 k hk))
  clear T9 E8 s8 t8 own8 o8
  go_wp2_with fail
  refine (eqByteS_same a5 a3 c5 c3 m P _ (by omega) t9 s9).mono ?_
  rintro e w10 ⟨rfl, q10, rfl⟩
  have own10 := owns_drewN own9 q10
  have s10 := s9.drewN q10
  have E10 : Ext w (w9.drewN q10) := below_drewN E9 q10
  clear own9 s9 t9 E9
  -- the answer is overwritten
  go_wp2_with fail
  refine (markByteS_any (.slice a5 m c5) m _ 1 _ _ (by omega) (by omega) (by omega) own10).mono ?_
  rintro e w11 ⟨rfl, own11, g11⟩
  have t11 := Sl.of_owns own11
  have E11 : Ext w w11 := Ext.grown E10 g11 (fun k hk => by have := hge5 k hk; omega)
  have s11 := s10.grown g11 (fun y hy e => by have := H3.out y hy; have := hge5 y.block e.symm; omega)
  clear own10 s10 E10 g11 own11
  go_wp2_with fail
  refine (heldByteS_any a5 c5 m 1 w11 (by omega) (by omega) (by omega) t11).mono ?_
  rintro e w12 ⟨rfl, q12, rfl⟩
  have hq : ((1 : Int) + m != 1 + (m : Int)) = false := by simp
  have E12 : Ext w (w11.drewN q12) := below_drewN E11 q12
  have e12 : Ext w11 (w11.drewN q12) := Ext.drewN _ _
  go_wp2_with fail
  refine (toPacketS_own a c n L _ (by omega) (r.ext E12) HL1.out).mono ?_
  rintro e w13 ⟨rfl, r13, -, e13⟩
  have E13 := E12.trans e13
  have e13' := e12.trans e13
  go_wp2_with fail
  refine (HI.out _ _ _ r13).mono ?_
  rintro e w14 ⟨a14, c14, rfl, own14, e14⟩
  have E14 := E13.trans e14
  have e14' := e13'.trans e14
  have t14 := Sl.of_owns own14
  have s14 := s11.ext e14'
  have t14b := t11.ext e14'
  clear e13 e14 e12 e13' e14' E11 E12 E13 s11 t11 own14 r13
  go_wp2_with fail
  refine (eqByteS_same a14 a3 c14 c3 m P _ (by omega) t14 s14).mono ?_
  rintro e w15 ⟨rfl, q15, rfl⟩
  have t15 := t14b.drewN q15
  have E15 : Ext w (w14.drewN q15) := below_drewN E14 q15
  go_wp2_with fail
  refine (heldByteS_any a5 c5 m 1 _ (by omega) (by omega) (by omega) t15).mono ?_
  rintro e w16 ⟨rfl, q16, rfl⟩
  go_wp2
  go_ret
  first | exact ⟨rfl, below_drewN E14 _⟩ | exact ⟨rfl, below_drewN E15 _⟩
end Go.Proofs.Ytpjjadmjdafkeaa
