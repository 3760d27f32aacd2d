/- FnExactPacketBytes: the program's PacketBytes returns what the reference's returns: the walk of the law. -/
import Derived.Test.YtpjjadmjdafkeaaK4
import Derived.Test.YtpjjadmjdafkeaaK5
namespace Go.Proofs.Ytpjjadmjdafkeaa
open Go.RowKit
set_option maxHeartbeats 400000
theorem wf_bys {L : List Int} (h : ∀ z ∈ L, (Lit.int .u8 z).wf = true) : bys L := by
  intro z hz
  have := h z hz
  simp [Lit.wf, IntKind.min, IntKind.max, IntKind.signed, IntKind.bits] at this
  exact ⟨by omega, by omega⟩
set_option maxRecDepth 100000 in
set_option maxHeartbeats 1000000 in
theorem law_FnExactPacketBytes (a : Option Addr) (c : Nat) (p : Pkt) (w : World) (hn0 : p.data.length ≤ c ∧ c ≤ maxLen) (r : Sl w a p.data.length (p.data.map (Value.int .u8))) (wf : ∀ z ∈ p.data, (Lit.int .u8 z).wf = true) :
    Calls Try.prog 3 #[.agg #[.int .i64 p.num, .int .i64 p.fr, .int .i64 p.row, .int .i64 p.part, .bool p.last, .slice a p.data.length c]] w fun e w' => e = .returned (.bool true) ∧ Ext w w' := by
  have HB := Lib.hid (wf_bys wf)
  have hlen : (pby p).length ≤ 209 := by
    by_cases h : p.ok
    · rw [pby_len h]; have := h.2.2.2.2.2.2.2.2.2; omega
    · rw [pby_no h]; simp
  have hi0 : ∀ w, Calls Try.prog 15 #[pkV p a c] w (fun _ _ => True) → True := fun _ _ => trivial
  clear hi0
  obtain ⟨num, fr, row, part, last, zs⟩ := p
  obtain ⟨n, hnz⟩ : ∃ n, n = zs.length := ⟨_, rfl⟩
  simp only at hn0 r HB ⊢
  rw [← hnz] at hn0 r ⊢
  obtain ⟨P, hP⟩ : ∃ P, P = pby ⟨num, fr, row, part, last, zs⟩ := ⟨_, rfl⟩
  rw [← hP] at hlen
  obtain ⟨m, hm⟩ : ∃ m, m = P.length := ⟨_, rfl⟩
  have hI := fun (a' : Option Addr) (c' : Nat) (w : World) (r : Sl w a' n (zs.map (Value.int .u8))) => impl_PacketBytes_any ⟨num, fr, row, part, last, zs⟩ a' c' w (by rw [← hnz]; exact r) HB.out
  have hS := fun (hn : n ≤ 9223372036854775807) (a' : Option Addr) (c' : Nat) (w : World) (r : Sl w a' n (zs.map (Value.int .u8))) => spec_PacketBytes_any ⟨num, fr, row, part, last, zs⟩ a' c' w (by show zs.length ≤ _; rw [← hnz]; exact hn) (by rw [← hnz]; exact r) HB.out
  simp only [pkV, ← hnz, ← hP, ← hm] at hI hS hlen
  have HI := Lib.hid hI
  have HS := Lib.hid hS
  have Hm := Lib.hid hm
  have hn : n ≤ 9223372036854775807 := Nat.le_trans hn0.1 hn0.2
  clear hn0 wf hI hS hP hm hnz
  go_enter Try.func3, Try.ntmps3
  go_wp2_with fail
  refine (szPacket_any num fr row part last a c n 1048576 _ hn (by omega) (by omega)).mono ?_
  rintro e w1 ⟨rfl, e1⟩
  have E1 : Ext w w1 := by refine Ext.trans ?_ e1; (repeat (first | with_reducible exact Below.refl _ _ | assumption | with_reducible refine below_drewN ?_ _ | with_reducible refine Below.drew ?_ | with_reducible refine Below.setCell ?_ (by simp <;> omega) _ | with_reducible refine Ext.trans ?_ (Ext.alloc _ _)))
  by_cases hneg : (1048576 : Int) - n < 0
  · rw [if_pos hneg]
    go_wp2
    go_ret
    exact ⟨rfl, E1⟩
  rw [if_neg hneg]
  have hd : decide ((1048576 : Int) - (n : Int) < 0) = false := by simpa using hneg
  have hn45 : n < 2^45 := by omega
  have p1 := e1.blk (blk_new w _)
  clear e1
  obtain ⟨z, m0, m1, m2, m3, m4, m5⟩ := bx6 p1
  -- the reference's answer
  go_wp2_with fail
  refine (toPacket_any num fr row part last a n c zs _ hn45 (r.ext E1)).mono ?_
  rintro e w2 ⟨a2, c2, rfl, own2, e2⟩
  have s2 := Sl.of_owns own2
  go_wp2_with fail
  refine (HS.out hn a2 c2 _ s2).mono ?_
  rintro e w3 ⟨a3, c3, rfl, own3, e3⟩
  have F3 : Ext w1 w3 := e2.trans e3
  have s3 := Sl.of_owns own3
  have H3 := Lib.hid (show ∀ y, a3 = some y → y.block < w3.heap.size from fun y hy => (own3.lt y.block (by rw [hy]; rfl)).2)
  have h13 := F3.size
  have p3 := F3.blk p1
  clear e2 e3 own2 s2 own3 m0 m1 m2 m3 m4 m5 z
  obtain ⟨z, m0, m1, m2, m3, m4, m5⟩ := bx6 p3
  -- the argument's copy
  go_wp2_with fail
  refine (toPacket_any num fr row part last a n c zs _ hn45 (r.ext (E1.trans F3))).mono ?_
  rintro e w4 ⟨a4, c4, rfl, own4, e4⟩
  have e5 := Ext.alloc w4 (.cells #[.int .i64 num, .int .i64 fr, .int .i64 row, .int .i64 part, .bool last, .slice a4 n c4] 27)
  have q5 := blk_new w4 (.cells #[.int .i64 num, .int .i64 fr, .int .i64 row, .int .i64 part, .bool last, .slice a4 n c4] 27)
  have s5 := (Sl.of_owns own4).ext e5
  have H4 := Lib.hid (show ∀ k, (Value.slice a4 n c4).ownBlock = some k → w3.heap.size ≤ k ∧ k < w4.heap.size from fun k hk => own4.lt k hk)
  have h34 := e4.size
  have h45 := e5.size
  -- the program's answer
  go_wp2_with fail
  refine (HI.out a4 c4 _ s5).mono ?_
  rintro e w6 ⟨a6, c6, rfl, own6, e6⟩
  have f6 := e5.trans e6
  have F6 : Ext w1 w6 := F3.trans (e4.trans f6)
  have p6 := F6.blk p1
  have q6 := e6.blk q5
  have s6 := s3.ext (e4.trans f6)
  have t6 := Sl.of_owns own6
  have own46 := owns_ext own4 f6
  have H6 := Lib.hid (owns_ge own6)
  have h56 := e6.size
  generalize w4.alloc (.cells #[.int .i64 num, .int .i64 fr, .int .i64 row, .int .i64 part, .bool last, .slice a4 n c4] 27) = w5 at *
  generalize w4.heap.size = X at *
  clear e4 e5 e6 f6 own4 s5 q5 p3 s3 F3 m0 m1 m2 m3 m4 m5 z
  go_wp2_with fail
  refine (eqByteS_same a6 a3 c6 c3 m P _ (by omega) t6 s6).mono ?_
  rintro e w7 ⟨rfl, d7, rfl⟩
  have e7 : Ext w6 (w6.drewN d7) := Ext.drewN _ _
  obtain ⟨z, m0, m1, m2, m3, m4, m5⟩ := bx6 (e7.blk p6)
  obtain ⟨y, n0, n1, n2, n3, n4, n5⟩ := bx6 (e7.blk q6)
  have r7 := r.ext (E1.trans (F6.trans e7))
  have t46 := (Sl.of_owns own46).ext e7
  go_wp2_with fail
  have hext : ∀ (i : Nat) (own : Value) (ys : Nat → Value) (wa wb : World), Ext wa wb → (match i with | 0 => own = .agg #[.int .i64 num, .int .i64 fr, .int .i64 row, .int .i64 part, .bool last, .slice a4 n c4] | 1 => own = .agg #[.int .i64 num, .int .i64 fr, .int .i64 row, .int .i64 part, .bool last, .slice a n c] | 2 => ∃ (a2 : Option Addr) (c2 : Nat), own = .agg #[.int .i64 num, .int .i64 fr, .int .i64 row, .int .i64 part, .bool last, .slice a2 n c2] ∧ Sl wa a2 n (zs.map (Value.int .u8)) | 3 => own = .bool true | 4 => own = .bool false | _ => True) → (match i with | 0 => own = .agg #[.int .i64 num, .int .i64 fr, .int .i64 row, .int .i64 part, .bool last, .slice a4 n c4] | 1 => own = .agg #[.int .i64 num, .int .i64 fr, .int .i64 row, .int .i64 part, .bool last, .slice a n c] | 2 => ∃ (a2 : Option Addr) (c2 : Nat), own = .agg #[.int .i64 num, .int .i64 fr, .int .i64 row, .int .i64 part, .bool last, .slice a2 n c2] ∧ Sl wb a2 n (zs.map (Value.int .u8)) | 3 => own = .bool true | 4 => own = .bool false | _ => True) := by
    intro i own ys wa wb e h
    match i, h with
    | 0, h => exact h
    | 1, h => exact h
    | 2, h => obtain ⟨a2, c2, h1, h2⟩ := h; exact ⟨a2, c2, h1, h2.ext e⟩
    | 3, h => exact h
    | 4, h => exact h
    | _ + 5, _ => trivial
  have Hext := Lib.hid hext
  clear hext
  refine wp_region_inv2 (by kernel_rfl) [(27, 0), (28, 1), (29, 2), (30, 3), (31, 4)] [[], [], [1], [0, 1, 2], [0, 1, 2, 3]] (fun i own ys wx => match i with | 0 => own = .agg #[.int .i64 num, .int .i64 fr, .int .i64 row, .int .i64 part, .bool last, .slice a4 n c4] | 1 => own = .agg #[.int .i64 num, .int .i64 fr, .int .i64 row, .int .i64 part, .bool last, .slice a n c] | 2 => ∃ (a2 : Option Addr) (c2 : Nat), own = .agg #[.int .i64 num, .int .i64 fr, .int .i64 row, .int .i64 part, .bool last, .slice a2 n c2] ∧ Sl wx a2 n (zs.map (Value.int .u8)) | 3 => own = .bool true | 4 => own = .bool false | _ => True) (fun kx wx => Ext (w6.drewN d7) wx) (by kernel_rfl) (by kernel_rfl) (by kernel_rfl) ?g0_r1 ?gop_r1 ?gend_r1
  case g0_r1 => exact Ext.drewN _ 1
  case gop_r1 =>
    refine ⟨?_, ?_, ?_, ?_, ?_, trivial⟩
    · intro kx xs wx hk hG hD hI Qo Kx hK hQo
      clear hD
      clear hI
      simp only [patchS, Nat.reduceAdd, Nat.reduceEqDiff, ↓reduceIte] at hQo ⊢
      have k0 := cell_ext hG n0
      have k1 := cell_ext hG n1
      have k2 := cell_ext hG n2
      have k3 := cell_ext hG n3
      have k4 := cell_ext hG n4
      have k5 := cell_ext hG n5
      go_wp2
      exact hK.out _ _ ⟨rfl, hG, fun _ _ _ _ _ _ h => h⟩
    · intro kx xs wx hk hG hD hI Qo Kx hK hQo
      clear hD
      clear hI
      simp only [patchS, Nat.reduceAdd, Nat.reduceEqDiff, ↓reduceIte] at hQo ⊢
      have k0 := cell_ext hG m0
      have k1 := cell_ext hG m1
      have k2 := cell_ext hG m2
      have k3 := cell_ext hG m3
      have k4 := cell_ext hG m4
      have k5 := cell_ext hG m5
      go_wp2
      exact hK.out _ _ ⟨rfl, hG, fun _ _ _ _ _ _ h => h⟩
    · intro kx xs wx hk hG hD hI Qo Kx hK hQo
      have d1 : (xs 1) = .agg #[.int .i64 num, .int .i64 fr, .int .i64 row, .int .i64 part, .bool last, .slice a n c] := hD 1 rfl
      clear hD
      clear hI
      simp only [patchS, Nat.reduceAdd, Nat.reduceEqDiff, ↓reduceIte] at hQo ⊢
      generalize xs 1 = y1 at *
      subst d1
      go_wp2_with fail
      refine (toPacket_any num fr row part last a n c zs _ hn45 (r7.ext hG)).mono ?_
      rintro e w8 ⟨a8, c8, rfl, own8, e8⟩
      go_wp2
      exact hK.out _ _ ⟨⟨a8, c8, rfl, Sl.of_owns own8⟩, hG.trans e8, fun i _ _ _ own ys h => Hext.out i own ys _ _ e8 h⟩
    · intro kx xs wx hk hG hD hI Qo Kx hK hQo
      have d0 : (xs 0) = .agg #[.int .i64 num, .int .i64 fr, .int .i64 row, .int .i64 part, .bool last, .slice a4 n c4] := hD 0 rfl
      have d2 : ∃ (a2 : Option Addr) (c2 : Nat), (xs 2) = .agg #[.int .i64 num, .int .i64 fr, .int .i64 row, .int .i64 part, .bool last, .slice a2 n c2] ∧ Sl wx a2 n (zs.map (Value.int .u8)) := hD 2 rfl
      clear hD
      clear hI
      simp only [patchS, Nat.reduceAdd, Nat.reduceEqDiff, ↓reduceIte] at hQo ⊢
      generalize xs 0 = y0 at *
      generalize xs 2 = y2 at *
      subst d0
      obtain ⟨a2, c2, rfl, o2⟩ := d2
      go_wp2_with fail
      refine (eqPacket_same num fr row part last a4 a2 c4 c2 n zs _ hn45 (t46.ext hG) o2).mono ?_
      rintro e w8 ⟨rfl, e8⟩
      go_wp2
      exact hK.out _ _ ⟨rfl, hG.trans e8, fun i _ _ _ own ys h => Hext.out i own ys _ _ e8 h⟩
    · intro kx xs wx hk hG hD hI Qo Kx hK hQo
      have d3 : (xs 3) = .bool true := hD 3 rfl
      clear hD
      clear hI
      simp only [patchS, Nat.reduceAdd, Nat.reduceEqDiff, ↓reduceIte] at hQo ⊢
      generalize xs 3 = y3 at *
      subst d3
      go_wp2
      exact hK.out _ _ ⟨rfl, hG, fun _ _ _ _ _ _ h => h⟩
  clear Hext
  intro xs wx hV hG
  have d0 : (xs 0) = .agg #[.int .i64 num, .int .i64 fr, .int .i64 row, .int .i64 part, .bool last, .slice a4 n c4] := hV 0 (by decide)
  have d1 : (xs 1) = .agg #[.int .i64 num, .int .i64 fr, .int .i64 row, .int .i64 part, .bool last, .slice a n c] := hV 1 (by decide)
  have d2 : ∃ (a2 : Option Addr) (c2 : Nat), (xs 2) = .agg #[.int .i64 num, .int .i64 fr, .int .i64 row, .int .i64 part, .bool last, .slice a2 n c2] ∧ Sl wx a2 n (zs.map (Value.int .u8)) := hV 2 (by decide)
  have d3 : (xs 3) = .bool true := hV 3 (by decide)
  have d4 : (xs 4) = .bool false := hV 4 (by decide)
  clear hV
  simp only [patchS, Nat.reduceAdd, Nat.reduceEqDiff, ↓reduceIte]
  generalize xs 0 = y0 at *
  generalize xs 1 = y1 at *
  generalize xs 2 = y2 at *
  generalize xs 3 = y3 at *
  generalize xs 4 = y4 at *
  replace hG : Ext (w6.drewN d7) wx := hG
  clear d0 d1 d2 d3
  subst d4
  have e9 := e7.trans hG
  clear e7 hG m0 m1 m2 m3 m4 m5 z n0 n1 n2 n3 n4 n5 y r7 t46
  generalize wx = w9 at *
  have F9 := F6.trans e9
  have q9 := e9.blk q6
  have s9 := s6.ext e9
  have t9 := t6.ext e9
  have own9 := owns_ext own46 e9
  have own69 := owns_ext own6 e9
  have p9 := e9.blk p6
  have h69 := e9.size
  clear e9 own46 own6 s6 t6 p6 q6 F6
  obtain ⟨y, n0, n1, n2, n3, n4, n5⟩ := bx6 q9
  -- the argument is overwritten
  go_wp2_with fail
  refine (markPacket_any num fr row part last a4 n c4 _ 1 w3.heap.size _ (by omega) (by omega) (by omega) own9).mono ?_
  rintro e w10 ⟨rfl, -, g10⟩
  have hd9 : decide ((1 : Int) + n < 0) = false := by simp; omega
  have F10 : Ext w1 w10 := Ext.grown F9 g10 (fun k hk => by have := (H4.out k hk).1; omega)
  have s10 := s9.grown g10 (fun x hx e => by have := H3.out x hx; have := (H4.out _ e.symm).1; omega)
  have t10 := t9.grown g10 (fun x hx e => by have h8 := (H4.out _ e.symm).2; have := H6.out x.block (by rw [hx]; rfl); omega)
  have own10 := own69.kept g10 (by
    cases hv : (Value.slice a6 m c6).ownBlock with
    | none => exact .inl rfl
    | some k => right; intro e; have h8 := (H4.out k e.symm).2; have := H6.out k hv; omega)
  have p10 := F10.blk p1
  clear g10 F9 s9 t9 own9 own69 p9 q9 n0 n1 n2 n3 n4 n5 y
  go_wp2_with fail
  refine (eqByteS_same a6 a3 c6 c3 m P _ (by omega) t10 s10).mono ?_
  rintro e w11 ⟨rfl, d11, rfl⟩
  have own11 := owns_drewN own10 d11
  have s11 := s10.drewN d11
  have F11 : Ext w1 (w10.drewN d11) := below_drewN F10 d11
  clear own10 s10 t10 F10 p10
  -- the answer is overwritten
  go_wp2_with fail
  refine (markByteS_any (.slice a6 m c6) m _ 1 _ _ (by omega) (by omega) (by omega) own11).mono ?_
  rintro e w12 ⟨rfl, own12, g12⟩
  have t12 := Sl.of_owns own12
  have F12 : Ext w1 w12 := Ext.grown F11 g12 (fun k hk => by have := H6.out k hk; omega)
  have s12 := s11.grown g12 (fun x hx e => by have := H3.out x hx; have := H6.out x.block e.symm; omega)
  clear own11 s11 F11 g12 own12
  go_wp2_with fail
  refine (heldByteS_any a6 c6 m 1 w12 (by omega) (by omega) (by omega) t12).mono ?_
  rintro e w13 ⟨rfl, d13, rfl⟩
  have hq : ((1 : Int) + m != 1 + (m : Int)) = false := by simp
  have F13 : Ext w1 (w12.drewN d13) := below_drewN F12 d13
  have s13 := s12.drewN d13
  have t13 := t12.drewN d13
  obtain ⟨z, m0, m1, m2, m3, m4, m5⟩ := bx6 (F13.blk p1)
  go_wp2_with fail
  refine (toPacket_any num fr row part last a n c zs _ hn45 (r.ext (E1.trans F13))).mono ?_
  rintro e w14 ⟨a14, c14, rfl, own14, e14⟩
  go_wp2_with fail
  refine (HI.out a14 c14 _ (Sl.of_owns own14)).mono ?_
  rintro e w15 ⟨a15, c15, rfl, own15, e15⟩
  have f15 := e14.trans e15
  have F15 := F13.trans f15
  have t15 := Sl.of_owns own15
  have s15 := s13.ext f15
  have t15b := t13.ext f15
  clear e14 e15 f15 F12 F13 s12 t12 s13 t13 own15 own14 m0 m1 m2 m3 m4 m5 z
  go_wp2_with fail
  refine (eqByteS_same a15 a3 c15 c3 m P _ (by omega) t15 s15).mono ?_
  rintro e w16 ⟨rfl, d16, rfl⟩
  have t16 := t15b.drewN d16
  have F16 : Ext w1 (w15.drewN d16) := below_drewN F15 d16
  go_wp2_with fail
  refine (heldByteS_any a6 c6 m 1 _ (by omega) (by omega) (by omega) t16).mono ?_
  rintro e w17 ⟨rfl, d17, rfl⟩
  go_wp2
  go_ret
  first | exact ⟨rfl, E1.trans (below_drewN F16 _)⟩ | exact ⟨rfl, E1.trans (below_drewN F15 _)⟩
end Go.Proofs.Ytpjjadmjdafkeaa
