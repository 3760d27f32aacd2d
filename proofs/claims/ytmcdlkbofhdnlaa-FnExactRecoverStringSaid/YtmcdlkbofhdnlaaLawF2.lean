/- FnExactRecoverString: the program's RecoverString returns what the reference's returns: the walk of the law. -/
import Derived.Test.YtmcdlkbofhdnlaaP4
import Derived.Test.YtmcdlkbofhdnlaaP2
namespace Go.Proofs.Ytmcdlkbofhdnlaa
open Go.RowKit
set_option maxHeartbeats 400000
theorem wf_byt2 {L : List (List Int)} (h : ∀ x ∈ L, ∀ z ∈ x, (Lit.int .u8 z).wf = true) : ∀ s ∈ L, ∀ z ∈ s, byt z := by
  intro s hs z hz
  have := h s hs z hz
  simp [Lit.wf, IntKind.min, IntKind.max, IntKind.signed, IntKind.bits] at this
  exact ⟨by omega, by omega⟩
theorem recv_len (L : List (List Int)) (lost : Int) (P : List Int) : (recv L lost P).1.length ≤ 256 := by
  unfold recv
  split
  · rename_i h
    have h1 := h.2.2.1
    have h2 := h.1.2.2.2.2
    simp [tab_len]; omega
  · simp
set_option maxRecDepth 100000 in
set_option maxHeartbeats 2000000 in
theorem law_FnExactRecoverString (a : Option Addr) (c n : Nat) (L : List (List Int)) (lost : Int) (wl : (Lit.int .i64 lost).wf = true) (b : Option Addr) (d p : Nat) (P : List Int) (w : World) (hn0 : n ≤ c ∧ c ≤ maxLen) (r : SS w a n L) (wf : ∀ x ∈ L, ∀ z ∈ x, (Lit.int .u8 z).wf = true)
    (hp0 : p ≤ d ∧ d ≤ maxLen) (rp : Sl w b p (P.map (Value.int .u8))) (wp : ∀ z ∈ P, (Lit.int .u8 z).wf = true) :
    Calls Try.prog 11 #[.slice a n c, .int .i64 lost, .slice b p d] w fun e w' => e = .returned (.bool true) ∧ Ext w w' := by
  have hn : n ≤ 9223372036854775807 := Nat.le_trans hn0.1 hn0.2
  have hp : p ≤ 9223372036854775807 := Nat.le_trans hp0.1 hp0.2
  have HB := Lib.hid (wf_byt2 wf)
  have HP := Lib.hid (wf_byt2 (L := [P]) (fun x hx => by simp at hx; subst hx; exact wp) P (by simp))
  have hlw : -9223372036854775808 ≤ lost := by simp [Lit.wf, IntKind.min, IntKind.max, IntKind.signed, IntKind.bits] at wl; omega
  clear hn0 hp0 wf wp wl
  by_cases hbig : 1048576 < p
  · go_enter Try.func11, Try.ntmps11
    go_wp2
    go_ret
    exact ⟨rfl, Below.refl _ _⟩
  go_enter Try.func11, Try.ntmps11
  go_wp2_with fail
  refine (szByteSS_any a c n L _ hn r).mono ?_
  rintro e w1 ⟨x, rfl, hx, E1⟩
  by_cases hneg : x < 0
  · go_wp2
    go_ret
    exact ⟨rfl, E1⟩
  have hd : decide (x < 0) = false := by simpa using hneg
  obtain ⟨hn2, hL⟩ := hx (by omega)
  have HL1 := Lib.hid hL
  have HL := Lib.hid (show ∀ x ∈ L, x.length < 2^45 from fun x hx => by have := hL x hx; omega)
  have hm2 := recv_len L lost P
  obtain ⟨ok, hok⟩ : ∃ ok, ok = (recv L lost P).2 := ⟨_, rfl⟩
  obtain ⟨R, hR⟩ : ∃ R, R = (recv L lost P).1 := ⟨_, rfl⟩
  rw [← hR] at hm2
  have hrec : recv L lost P = (R, ok) := by rw [hR, hok]
  obtain ⟨m, hm⟩ : ∃ m, m = R.length := ⟨_, rfl⟩
  rw [← hm] at hm2
  have Hm := Lib.hid hm
  have Hrec := Lib.hid hrec
  clear hx hL hm hok hR hrec
  -- the reference's answer
  go_wp2_with fail
  refine (toByteSS_any a c n L _ (by omega) (r.ext E1) HL.out).mono ?_
  rintro e w2 ⟨a2, c2, rfl, r2, e2⟩
  have E2 := E1.trans e2
  go_wp2_with fail
  refine (toByteS_any b d p P _ (by omega) (rp.ext E2)).mono ?_
  rintro e w3 ⟨v3, rfl, o3, e3⟩
  obtain ⟨b3, d3, rfl⟩ := owns_form o3
  have E3 := E2.trans e3
  go_wp2_with fail
  refine (spec_RecoverString_any a2 c2 n L lost b3 d3 p P _ hn hp hlw HB.out HP.out (r2.ext e3).toSS (Sl.of_owns o3)).mono ?_
  rintro e w4 ⟨v4, rfl, own4, e4⟩
  simp only [Hrec.out] at own4 ⊢
  rw [← Hm.out] at own4
  obtain ⟨a4, c4, rfl⟩ := owns_form own4
  have s4 := Sl.of_owns own4
  have H4 := Lib.hid (show ∀ y, a4 = some y → y.block < w4.heap.size from fun y hy => (own4.lt y.block (by rw [hy]; rfl)).2)
  have E4 := E3.trans e4
  clear e2 e3 e4 r2 E1 E2 E3 own4 o3
  -- the program's
  go_wp2_with fail
  refine (toByteSS_any a c n L _ (by omega) (r.ext E4) HL.out).mono ?_
  rintro e w5 ⟨a5, c5, rfl, r5, e5⟩
  have E5 := E4.trans e5
  have s5 := s4.ext e5
  go_wp2_with fail
  refine (toByteS_any b d p P _ (by omega) (rp.ext E5)).mono ?_
  rintro e w6 ⟨v6, rfl, o6, e6⟩
  obtain ⟨b6, d6, rfl⟩ := owns_form o6
  have E6 := E5.trans e6
  have s6 := s5.ext e6
  have r6 := r5.ext e6
  have h45 : w4.heap.size ≤ w5.heap.size := e5.size
  have h56 : w5.heap.size ≤ w6.heap.size := e6.size
  have E46 := E4.size
  have H6 := Lib.hid (show ∀ k, (Value.slice b6 p d6).ownBlock = some k → w5.heap.size ≤ k ∧ k < w6.heap.size from fun k hk => o6.lt k hk)
  clear e5 e6 r5 E4 E5 s4 s5
  go_wp2_with fail
  refine (impl_RecoverString_any a5 c5 n L lost b6 d6 p P _ hn hp HB.out HP.out r6.toSS (Sl.of_owns o6)).mono ?_
  rintro e w7 ⟨v7, rfl, own7, e7⟩
  simp only [Hrec.out] at own7 ⊢
  rw [← Hm.out] at own7
  obtain ⟨a7, c7, rfl⟩ := owns_form own7
  have E7 := E6.trans e7
  have s7 := s6.ext e7
  have t7 := Sl.of_owns own7
  have r7 := r6.ext e7
  have o7 := owns_ext o6 e7
  have hge7 := owns_ge own7
  have h67 : w6.heap.size ≤ w7.heap.size := e7.size
  have HG := Lib.hid hge7
  clear e7 E6 s6 r6 o6 hge7
  go_wp2_with fail
  refine (eqByteS_same a7 a4 c7 c4 m R _ (by omega) t7 s7).mono ?_
  rintro e w8 ⟨rfl, q8, rfl⟩
  have hbb : (ok != ok) = false := by simp
  have E8 : Ext w (w7.drewN q8) := below_drewN E7 q8
  have e78 : Ext w7 (w7.drewN q8) := Ext.drewN _ _
  go_wp2_with fail
  refine (toByteSS_any a c n L _ (by omega) (r.ext E8) HL.out).mono ?_
  rintro e w9 ⟨a9, c9, rfl, r9, e9⟩
  have E9 := E8.trans e9
  have e79 := e78.trans e9
  go_wp2_with fail
  refine (eqByteSS_same a5 a9 c5 c9 n L _ (by omega) HL.out (r7.ext e79).toSS r9.toSS).mono ?_
  rintro e w10 ⟨rfl, e10⟩
  have E10 := E9.trans e10
  have e710 := e79.trans e10
  go_wp2_with fail
  refine (toByteS_any b d p P _ (by omega) (rp.ext E10)).mono ?_
  rintro e w11 ⟨v11, rfl, o11, e11⟩
  obtain ⟨b11, d11, rfl⟩ := owns_form o11
  have E11 := E10.trans e11
  have e711 := e710.trans e11
  go_wp2_with fail
  refine (eqByteS_same b6 b11 d6 d11 p P _ (by omega) (Sl.of_owns (owns_ext o7 e711)) (Sl.of_owns o11)).mono ?_
  rintro e w12 ⟨rfl, q12, rfl⟩
  have E12 : Ext w (w11.drewN q12) := below_drewN E11 q12
  have e712 : Ext w7 (w11.drewN q12) := below_drewN e711 q12
  have own12 := owns_ext own7 e712
  have o12 := owns_ext o7 e712
  have s12 := s7.ext e712
  have t12 := t7.ext e712
  have r12 := r7.ext e712
  have h712 : w7.heap.size ≤ (w11.drewN q12).heap.size := e712.size
  clear e9 e10 e11 e78 e79 e710 e711 e712 E7 E8 E9 E10 E11 own7 o7 s7 t7 r7 r9 o11
  generalize w11.drewN q12 = w12 at *
  have hh5 : w5.heap.size ≤ w12.heap.size := by omega
  -- the arguments are overwritten
  go_wp2_with fail
  refine (markByteSS_any a5 c5 _ _ n L 1 w12 hn2 (by omega) (by omega) HL1.out r12 hh5).mono ?_
  rintro e w13 ⟨k13, rfl, hk13, hk13b, T13⟩
  have E13 := E12.tch T13 (by omega)
  have s13 := s12.tch T13 (fun y hy => .inl (by have := H4.out y hy; omega))
  have t13 := t12.tch T13 (fun y hy => .inr (by have := HG.out y.block (by rw [hy]; rfl); omega))
  have own13 := owns_tch own12 T13 (fun k hk => .inr (by have := HG.out k hk; omega))
  have o13 := owns_tch o12 T13 (fun k hk => .inr (H6.out k hk).1)
  clear T13 E12 s12 t12 own12 o12 r12
  go_wp2_with fail
  refine (markByteS_any (.slice b6 p d6) p _ k13 _ _ (by omega) hk13 (by omega) o13).mono ?_
  rintro e w14 ⟨rfl, -, g14⟩
  have E14 : Ext w w14 := Ext.grown E13 g14 (fun k hk => by have := (H6.out k hk).1; omega)
  have s14 := s13.grown g14 (fun y hy e => by have := H4.out y hy; have := (H6.out y.block e.symm).1; omega)
  have t14 := t13.grown g14 (fun y hy e => by have := HG.out y.block (by rw [hy]; rfl); have := (H6.out y.block e.symm).2; omega)
  have own14 := own13.kept g14 (by
    cases hv : (Value.slice a7 m c7).ownBlock with
    | none => exact .inl rfl
    | some k =>
      right
      intro he
      have h1 := HG.out k hv
      have h2 := (H6.out k he.symm).2
      omega)
  have hd14 : decide (k13 + (p : Int) < 0) = false := by simp; omega
  clear g14 E13 s13 t13 own13 o13
  go_wp2_with fail
  refine (eqByteS_same a7 a4 c7 c4 m R _ (by omega) t14 s14).mono ?_
  rintro e w15 ⟨rfl, q15, rfl⟩
  have own15 := owns_drewN own14 q15
  have s15 := s14.drewN q15
  have E15 : Ext w (w14.drewN q15) := below_drewN E14 q15
  clear own14 s14 t14 E14
  -- the answer is overwritten
  go_wp2_with fail
  refine (markByteS_any (.slice a7 m c7) m _ 1 _ _ (by omega) (by omega) (by omega) own15).mono ?_
  rintro e w16 ⟨rfl, own16, g16⟩
  have t16 := Sl.of_owns own16
  have E16 : Ext w w16 := Ext.grown E15 g16 (fun k hk => by have := HG.out k hk; omega)
  have s16 := s15.grown g16 (fun y hy e => by have := H4.out y hy; have := HG.out y.block e.symm; omega)
  clear own15 s15 E15 g16 own16
  go_wp2_with fail
  refine (heldByteS_any a7 c7 m 1 w16 (by omega) (by omega) (by omega) t16).mono ?_
  rintro e w17 ⟨rfl, q17, rfl⟩
  have hq : ((1 : Int) + m != 1 + (m : Int)) = false := by simp
  have E17 : Ext w (w16.drewN q17) := below_drewN E16 q17
  have e17 : Ext w16 (w16.drewN q17) := Ext.drewN _ _
  go_wp2_with fail
  refine (toByteSS_any a c n L _ (by omega) (r.ext E17) HL.out).mono ?_
  rintro e w18 ⟨a18, c18, rfl, r18, e18⟩
  have E18 := E17.trans e18
  have f18 := e17.trans e18
  go_wp2_with fail
  refine (toByteS_any b d p P _ (by omega) (rp.ext E18)).mono ?_
  rintro e w19 ⟨v19, rfl, o19, e19⟩
  obtain ⟨b19, d19, rfl⟩ := owns_form o19
  have E19 := E18.trans e19
  have f19 := f18.trans e19
  go_wp2_with fail
  refine (impl_RecoverString_any a18 c18 n L lost b19 d19 p P _ hn hp HB.out HP.out (r18.ext e19).toSS (Sl.of_owns o19)).mono ?_
  rintro e w20 ⟨v20, rfl, own20, e20⟩
  simp only [Hrec.out] at own20 ⊢
  rw [← Hm.out] at own20
  obtain ⟨a20, c20, rfl⟩ := owns_form own20
  have E20 := E19.trans e20
  have f20 := f19.trans e20
  have t20 := Sl.of_owns own20
  have s20 := s16.ext f20
  have u20 := t16.ext f20
  clear e17 e18 e19 e20 f18 f19 f20 E16 E17 E18 E19 s16 t16 own20 r18 o19
  go_wp2_with fail
  refine (eqByteS_same a20 a4 c20 c4 m R _ (by omega) t20 s20).mono ?_
  rintro e w21 ⟨rfl, q21, rfl⟩
  have u21 := u20.drewN q21
  have E21 : Ext w (w20.drewN q21) := below_drewN E20 q21
  go_wp2_with fail
  refine (heldByteS_any a7 c7 m 1 _ (by omega) (by omega) (by omega) u21).mono ?_
  rintro e w22 ⟨rfl, q22, rfl⟩
  go_wp2
  go_ret
  first | exact ⟨rfl, below_drewN E20 _⟩ | exact ⟨rfl, below_drewN E21 _⟩
end Go.Proofs.Ytmcdlkbofhdnlaa
