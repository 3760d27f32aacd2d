/- FnExactReadPacket: the program's ReadPacket returns what the reference's returns: the walk of the law. -/
import Derived.Test.YtpjjadmjdafkeaaK7
import Derived.Test.YtpjjadmjdafkeaaK8
import Derived.Test.YtpjjadmjdafkeaaLawK1
namespace Go.Proofs.Ytpjjadmjdafkeaa
open Go.RowKit
set_option maxHeartbeats 400000
set_option maxRecDepth 100000 in
set_option maxHeartbeats 2000000 in
theorem law_FnExactReadPacket (a : Option Addr) (c n : Nat) (l : List Int) (w : World) (hn0 : n ≤ c ∧ c ≤ maxLen) (r : Sl w a n (l.map (Value.int .u8))) (wf : ∀ z ∈ l, (Lit.int .u8 z).wf = true) :
    Calls Try.prog 4 #[.slice a n c] w fun e w' => e = .returned (.bool true) ∧ Ext w w' := by
  have HB := Lib.hid (wf_bys wf)
  have hn : n ≤ c ∧ c ≤ 9223372036854775807 := ⟨hn0.1, hn0.2⟩
  clear hn0 wf
  by_cases hbig : 1048576 < n
  · go_enter Try.func4, Try.ntmps4
    go_wp2
    go_ret
    refine ⟨rfl, ?_⟩
    (repeat (first | with_reducible exact Below.refl _ _ | assumption | with_reducible refine below_drewN ?_ _ | with_reducible refine Below.drew ?_ | with_reducible refine Below.setCell ?_ (by simp <;> omega) _ | with_reducible refine Ext.trans ?_ (Ext.alloc _ _)))
  have hzl : (rdP l).data.length ≤ n := by
    have := r.int_len
    unfold rdP
    split
    · simp only [parse, List.length_take, List.length_drop]; omega
    · simp [pkt0]
  have hI := fun (a' : Option Addr) (c' : Nat) (w : World) (hc : n ≤ c' ∧ c' ≤ maxLen) (r : Sl w a' n (l.map (Value.int .u8))) => impl_ReadPacket_any a' c' n l w (by unfold maxLen at hc; omega) (by omega) r HB.out
  have hS := fun (a' : Option Addr) (c' : Nat) (w : World) (hc : n ≤ c' ∧ c' ≤ maxLen) (r : Sl w a' n (l.map (Value.int .u8))) => spec_ReadPacket_any a' c' n l w (by unfold maxLen at hc; omega) (by omega) r HB.out
  unfold RdR at hI hS
  generalize rdP l = p at *
  generalize decide (rdOk l) = ok at *
  obtain ⟨num, fr, row, part, last, zs⟩ := p
  simp only at hI hS hzl
  obtain ⟨m, hm⟩ : ∃ m, m = zs.length := ⟨_, rfl⟩
  rw [← hm] at hI hS hzl
  have Hm := Lib.hid hm
  have HI := Lib.hid hI
  have HS := Lib.hid hS
  have hok : (ok != ok) = false := by cases ok <;> rfl
  clear hI hS hm
  have hn45 : n < 2^45 := by omega
  go_enter Try.func4, Try.ntmps4
  -- the reference's answer
  go_wp2_with fail
  refine (toByteS_any a c n l _ hn45 (r.ext (by (repeat (first | with_reducible exact Below.refl _ _ | assumption | with_reducible refine below_drewN ?_ _ | with_reducible refine Below.drew ?_ | with_reducible refine Below.setCell ?_ (by simp <;> omega) _ | with_reducible refine Ext.trans ?_ (Ext.alloc _ _)))))).mono ?_
  rintro e w1 ⟨v1, rfl, own1, e1⟩
  obtain ⟨a1, c1, rfl⟩ := owns_form own1
  go_wp2_with fail
  refine (HS.out a1 c1 _ (owns_cap own1) (Sl.of_owns own1)).mono ?_
  rintro e w2 ⟨a2, c2, rfl, own2, e2⟩
  have E2 : Ext w w2 := by refine Ext.trans ?_ (e1.trans e2); (repeat (first | with_reducible exact Below.refl _ _ | assumption | with_reducible refine below_drewN ?_ _ | with_reducible refine Below.drew ?_ | with_reducible refine Below.setCell ?_ (by simp <;> omega) _ | with_reducible refine Ext.trans ?_ (Ext.alloc _ _)))
  have e3 := Ext.alloc w2 (.cells #[.int .i64 num, .int .i64 fr, .int .i64 row, .int .i64 part, .bool last, .slice a2 m c2] 27)
  have p3 := blk_new w2 (.cells #[.int .i64 num, .int .i64 fr, .int .i64 row, .int .i64 part, .bool last, .slice a2 m c2] 27)
  have own3 := owns_ext own2 e3
  have E3 := E2.trans e3
  have h23 : w2.heap.size < (w2.alloc (.cells #[.int .i64 num, .int .i64 fr, .int .i64 row, .int .i64 part, .bool last, .slice a2 m c2] 27)).heap.size := by simp
  have H2 := Lib.hid (show ∀ y, a2 = some y → y.block < w2.heap.size from fun y hy => (own2.lt y.block (by rw [hy]; rfl)).2)
  -- the argument's copy
  clear own1 own2 e1 e2
  go_wp2_with fail
  generalize w2.alloc (.cells #[.int .i64 num, .int .i64 fr, .int .i64 row, .int .i64 part, .bool last, .slice a2 m c2] 27) = w3 at *
  have s3 := Sl.of_owns own3
  refine (toByteS_any a c n l _ hn45 (r.ext E3)).mono ?_
  rintro e w4 ⟨v4, rfl, own4, e4⟩
  obtain ⟨a4, c4, rfl⟩ := owns_form own4
  have H4 := Lib.hid (show ∀ k, (Value.slice a4 n c4).ownBlock = some k → w3.heap.size ≤ k ∧ k < w4.heap.size from fun k hk => own4.lt k hk)
  have h34 := e4.size
  -- the program's answer
  go_wp2_with fail
  refine (HI.out a4 c4 _ (owns_cap own4) (Sl.of_owns own4)).mono ?_
  rintro e w5 ⟨a5, c5, rfl, own5, e5⟩
  have e6 := Ext.alloc w5 (.cells #[.int .i64 num, .int .i64 fr, .int .i64 row, .int .i64 part, .bool last, .slice a5 m c5] 27)
  have p6 := blk_new w5 (.cells #[.int .i64 num, .int .i64 fr, .int .i64 row, .int .i64 part, .bool last, .slice a5 m c5] 27)
  have f6 := e5.trans e6
  have g6 := e4.trans f6
  have E6 := E3.trans g6
  have own6 := owns_ext own5 e6
  have own46 := owns_ext own4 f6
  have s6 := s3.ext g6
  have q6 := g6.blk p3
  have t6 := Sl.of_owns own6
  have H6 := Lib.hid (owns_ge own6)
  have h56 := f6.size
  have h45 := e5.size
  have hw5 : w5.heap.size < (w5.alloc (.cells #[.int .i64 num, .int .i64 fr, .int .i64 row, .int .i64 part, .bool last, .slice a5 m c5] 27)).heap.size := by simp
  clear own3 own4 own5 e3 e4 e5 e6 f6 g6 p3 s3 E3
  obtain ⟨z, m0, m1, m2, m3, m4, m5⟩ := bx6 p6
  obtain ⟨y, n0, n1, n2, n3, n4, n5⟩ := bx6 q6
  have hm45 : m < 2^45 := by omega
  go_wp2_with fail
  generalize w5.alloc (.cells #[.int .i64 num, .int .i64 fr, .int .i64 row, .int .i64 part, .bool last, .slice a5 m c5] 27) = w6 at *
  refine (eqPacket_same num fr row part last a5 a2 c5 c2 m zs _ hm45 t6 s6).mono ?_
  rintro e w7 ⟨rfl, e7⟩
  have E7 := E6.trans e7
  go_wp2_with fail
  refine (toByteS_any a c n l _ hn45 (r.ext E7)).mono ?_
  rintro e w8 ⟨v8, rfl, own8, e8⟩
  obtain ⟨a8, c8, rfl⟩ := owns_form own8
  have f8 := e7.trans e8
  go_wp2_with fail
  refine (eqByteS_same a4 a8 c4 c8 n l _ (by omega) ((Sl.of_owns own46).ext f8) (Sl.of_owns own8)).mono ?_
  rintro e w9 ⟨rfl, d9, rfl⟩
  have f9 : Ext w6 (w8.drewN d9) := below_drewN f8 d9
  have E9 := E6.trans f9
  have own9 := owns_ext own46 f9
  have s9 := s6.ext f9
  have t9 := t6.ext f9
  have own69 := owns_ext own6 f9
  have p9 := f9.blk p6
  have q9 := f9.blk q6
  have h69 := f9.size
  clear E6 E7 own8 e7 e8 f8 f9 own46 own6 s6 t6 p6 q6 z m0 m1 m2 m3 m4 m5 y n0 n1 n2 n3 n4 n5
  -- the argument is overwritten
  go_wp2_with fail
  refine (markByteS_any (.slice a4 n c4) n _ 1 _ _ (by omega) (by omega) (by omega) own9).mono ?_
  rintro e w10 ⟨rfl, -, g10⟩
  have hd9 : decide ((1 : Int) + n < 0) = false := by simp; omega
  have E10 : Ext w w10 := Ext.grown E9 g10 (fun k hk => by have := (H4.out k hk).1; have := E2.size; omega)
  have s10 := s9.grown g10 (fun x hx e => by have := H2.out x hx; have := (H4.out _ e.symm).1; omega)
  have t10 := t9.grown g10 (fun x hx e => by have h8 := (H4.out _ e.symm).2; have := H6.out x.block (by rw [hx]; rfl); omega)
  have own10 := own69.kept g10 (by
    cases hv : (Value.slice a5 m c5).ownBlock with
    | none => exact .inl rfl
    | some k => right; intro e; have h8 := (H4.out k e.symm).2; have := H6.out k hv; omega)
  have p10 := blk_gr p9 g10 (fun e => by have := (H4.out _ e).2; omega)
  have q10 := blk_gr q9 g10 (fun e => by have := (H4.out _ e).1; omega)
  clear g10 E9 s9 t9 own9 own69 p9 q9
  obtain ⟨z, m0, m1, m2, m3, m4, m5⟩ := bx6 p10
  obtain ⟨y, n0, n1, n2, n3, n4, n5⟩ := bx6 q10
  go_wp2_with fail
  refine (eqPacket_same num fr row part last a5 a2 c5 c2 m zs _ hm45 t10 s10).mono ?_
  rintro e w11 ⟨rfl, e11⟩
  have own11 := owns_ext own10 e11
  have s11 := s10.ext e11
  have E11 : Ext w w11 := E10.trans e11
  have p11 := e11.blk p10
  have q11 := e11.blk q10
  clear own10 s10 t10 E10 p10 q10 e11 z m0 m1 m2 m3 m4 m5 y n0 n1 n2 n3 n4 n5
  obtain ⟨z, m0, m1, m2, m3, m4, m5⟩ := bx6 p11
  -- the answer is overwritten
  go_wp2_with fail
  refine (markPacket_any num fr row part last a5 m c5 _ 1 _ _ (by omega) (by omega) (by omega) own11).mono ?_
  rintro e w12 ⟨rfl, own12, g12⟩
  have hd12 : decide ((1 : Int) + m < 0) = false := by simp; omega
  have t12 := Sl.of_owns own12
  have E12 : Ext w w12 := Ext.grown E11 g12 (fun k hk => by have := H6.out k hk; have := E2.size; omega)
  have s12 := s11.grown g12 (fun x hx e => by have := H2.out x hx; have := H6.out x.block e.symm; omega)
  have p12 := blk_gr p11 g12 (by rcases own_ne_blk own11 p11 (by decide) with h | h; (rw [h]; simp); exact h)
  have q12 := blk_gr q11 g12 (fun e => by have := H6.out _ e; omega)
  clear own11 s11 E11 g12 own12 p11 q11 z m0 m1 m2 m3 m4 m5
  obtain ⟨z, m0, m1, m2, m3, m4, m5⟩ := bx6 p12
  go_wp2_with fail
  refine (heldPacket_any num fr row part last a5 m c5 1 w12 (by omega) (by omega) (by omega) t12).mono ?_
  rintro e w13 ⟨rfl, e13⟩
  have hq : ((1 : Int) + m != 1 + (m : Int)) = false := by simp
  have E13 : Ext w w13 := E12.trans e13
  go_wp2_with fail
  refine (toByteS_any a c n l _ hn45 (r.ext E13)).mono ?_
  rintro e w14 ⟨v14, rfl, own14, e14⟩
  obtain ⟨a14, c14, rfl⟩ := owns_form own14
  go_wp2_with fail
  refine (HI.out a14 c14 _ (owns_cap own14) (Sl.of_owns own14)).mono ?_
  rintro e w15 ⟨a15, c15, rfl, own15, e15⟩
  have e16 := Ext.alloc w15 (.cells #[.int .i64 num, .int .i64 fr, .int .i64 row, .int .i64 part, .bool last, .slice a15 m c15] 27)
  have p16 := blk_new w15 (.cells #[.int .i64 num, .int .i64 fr, .int .i64 row, .int .i64 part, .bool last, .slice a15 m c15] 27)
  have f16 := e13.trans (e14.trans (e15.trans e16))
  have E16 := E12.trans f16
  have u16 := (Sl.of_owns own15).ext e16
  have s16 := s12.ext f16
  have t16 := t12.ext f16
  have q16 := f16.blk q12
  have r16 := f16.blk p12
  clear e13 e14 e15 e16 f16 E12 E13 s12 t12 own15 own14 p12 q12 z m0 m1 m2 m3 m4 m5
  obtain ⟨z, m0, m1, m2, m3, m4, m5⟩ := bx6 p16
  obtain ⟨y, n0, n1, n2, n3, n4, n5⟩ := bx6 q16
  go_wp2_with fail
  generalize w15.alloc (.cells #[.int .i64 num, .int .i64 fr, .int .i64 row, .int .i64 part, .bool last, .slice a15 m c15] 27) = w16 at *
  refine (eqPacket_same num fr row part last a15 a2 c15 c2 m zs _ hm45 u16 s16).mono ?_
  rintro e w17 ⟨rfl, e17⟩
  have E17 := E16.trans e17
  have t17 := t16.ext e17
  have r17 := e17.blk r16
  clear z m0 m1 m2 m3 m4 m5 y n0 n1 n2 n3 n4 n5 u16 s16 t16 q16 r16 p16 e17 E16
  obtain ⟨z, m0, m1, m2, m3, m4, m5⟩ := bx6 r17
  go_wp2_with fail
  refine (heldPacket_any num fr row part last a5 m c5 1 _ (by omega) (by omega) (by omega) t17).mono ?_
  rintro e w18 ⟨rfl, e18⟩
  go_wp2
  go_ret
  exact ⟨rfl, E17.trans e18⟩
end Go.Proofs.Ytpjjadmjdafkeaa
