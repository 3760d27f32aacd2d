/- FnPacketBytes: packets can be read back: the walk of the law. -/
import Derived.Test.YtpjjadmjdafkeaaD8
import Derived.Test.YtpjjadmjdafkeaaLawK2
import Derived.Test.YtpjjadmjdafkeaaV
namespace Go.Proofs.Ytpjjadmjdafkeaa
open Go.RowKit
set_option maxHeartbeats 1000000
theorem byte_range5 {zs : List Int} (h : ∀ z ∈ zs, (Lit.int .u8 z).wf = true) : ∀ z ∈ zs, 0 ≤ z ∧ z ≤ 255 := wf_bys h
theorem samePacket_same (num fr row part : Int) (last : Bool) (a b : Option Addr) (n c d : Nat) (xs : List Int) (w : World)
    (h1 : ∀ w', Ext w w' → (convert 22 9 (.slice a n c)).run Try.prog w' = .ok (.string (strOfNums xs)) w') (h2 : ∀ w', Ext w w' → (convert 22 9 (.slice b n d)).run Try.prog w' = .ok (.string (strOfNums xs)) w') :
    Calls Try.prog 28 #[.agg #[.int .i64 num, .int .i64 fr, .int .i64 row, .int .i64 part, .bool last, .slice a n c], .agg #[.int .i64 num, .int .i64 fr, .int .i64 row, .int .i64 part, .bool last, .slice b n d]] w fun e w' => e = .returned (.bool true) ∧ Ext w w' := by
  have e2 := (Ext.alloc w (.cells #[.int .i64 num, .int .i64 fr, .int .i64 row, .int .i64 part, .bool last, .slice a n c] 27)).trans (Ext.alloc _ (.cells #[.int .i64 num, .int .i64 fr, .int .i64 row, .int .i64 part, .bool last, .slice b n d] 27))
  have k1 := h1 _ e2
  have k2 := h2 _ e2
  go_enter Try.func28, Try.ntmps28
  go_wp2
  go_ret
  exact ⟨by first | rfl | (simp; done), e2⟩
theorem DrawPacketBytes_any (a : Option Addr) (c n : Nat) (zs : List Int) (w : World) (hc : n ≤ c) (hc2 : c ≤ 9223372036854775807) (r : Sl w a n (zs.map (Value.int .u8))) (hz : ∀ z ∈ zs, 0 ≤ z ∧ z ≤ 255) :
    Calls Try.prog 25 #[.slice a n c] w fun e w' => ∃ (p : Pkt) (a : Option Addr) (c : Nat), e = .returned (pkV p a c) ∧ w'.ownsRow w.heap.size 5 1 (.slice a p.data.length c) p.data.length (p.data.map (Value.int .u8)) ∧ p.data.length ≤ 13 ∧ bys p.data ∧ Ext w w' := by
  have Z := blk_new w (.cells #[.int .i64 0, .int .i64 0, .int .i64 0, .int .i64 0, .bool false, .slice none 0 0] 27)
  have E1 : Ext w (w.alloc (.cells #[.int .i64 0, .int .i64 0, .int .i64 0, .int .i64 0, .bool false, .slice none 0 0] 27)) := Ext.alloc w _
  go_enter Try.func25, Try.ntmps25
  go_wp2_with fail
  refine (open_any a c n zs _ hc hc2 (r.ext E1) hz).mono ?_
  rintro e w1 ⟨b, rfl, rd, e1, hb⟩
  have hrd : RdP w1 b 0 := ⟨0, Nat.le_refl _, rd⟩
  clear r hz rd
  go_wp2_with fail
  refine (l20Packet_c b 0 9 _ hrd (by omega) (by omega) (by omega)).mono ?_
  rintro e w2 ⟨p, a2, c2, rfl, own2, hl, hbb, -, r2, g2⟩
  have Z2 := gr_blk g2 (e1.blk Z) (by have := lt_of_block Z; omega)
  have E2 : Ext w w2 := Ext.grown (E1.trans e1) g2 (fun k hk => by cases hk; have := E1.size; omega)
  have hs := (E1.trans e1).size
  obtain ⟨num, fr, row, part, last, ds⟩ := p
  obtain ⟨z2, n0, n1, n2, n3, n4, n5⟩ := bx6 Z2
  obtain ⟨f0, f1, f2, f3, f4, f5⟩ := fz6 Z2
  have HB := Lib.hid hbb
  have ZZ := Lib.hid Z2
  have hds := Lib.hid hl
  have O2 := Lib.hid own2
  simp only [pkV]
  simp only at hl
  clear hbb Z Z2 g2 r2 hrd e1 own2 E1
  go_wp2_with fail
  refine bodyPost_ret (results_cell_row rfl _ _ w.heap.size 27 #[.int .i64 num, .int .i64 fr, .int .i64 row, .int .i64 part, .bool last, .slice a2 ds.length c2] (0, 0) _ rfl (blk_set6 ZZ.out) Try.underlying27 rfl size_Packet) rfl ?_
  have gR := grown_set6 w2 w.heap.size (.int .i64 num) (.int .i64 fr) (.int .i64 row) (.int .i64 part) (.bool last) (.slice a2 ds.length c2)
  exact ⟨⟨num, fr, row, part, last, ds⟩, a2, c2, rfl, owns_mono (O2.out.kept gR (own_ne_blk O2.out ZZ.out (by decide))) hs, hds.out, HB.out, Ext.grown E2 gR (fun k hk => by cases hk; exact Nat.le_refl _)⟩
set_option maxRecDepth 100000 in
set_option maxHeartbeats 4000000 in
theorem law_FnPacketBytes (a : Option Addr) (c n : Nat) (zs : List Int) (w : World) (hn0 : n ≤ c ∧ c ≤ maxLen) (sl : Sl w a n (zs.map (Value.int .u8))) (wf : ∀ z ∈ zs, (Lit.int .u8 z).wf = true) :
    Calls Try.prog 5 #[.slice a n c] w fun e w' => e = .returned (.bool true) ∧ Ext w w' := by
  have hn : n ≤ c ∧ c ≤ 9223372036854775807 := ⟨hn0.1, hn0.2⟩
  clear hn0
  have hz := Lib.hid (byte_range5 wf)
  clear wf
  by_cases hbig : 1048576 < n
  · go_enter Try.func5, Try.ntmps5
    go_wp2
    go_ret
    refine ⟨rfl, ?_⟩
    (repeat (first | with_reducible exact Below.refl _ _ | assumption | with_reducible refine below_drewN ?_ _ | with_reducible refine Below.drew ?_ | with_reducible refine Below.setCell ?_ (by simp <;> omega) _ | with_reducible refine Ext.trans ?_ (Ext.alloc _ _)))
  go_enter Try.func5, Try.ntmps5
  go_wp2_with fail
  refine (DrawPacketBytes_any a c n zs _ hn.1 hn.2 (sl.ext (by (repeat (first | with_reducible exact Below.refl _ _ | assumption | with_reducible refine below_drewN ?_ _ | with_reducible refine Below.drew ?_ | with_reducible refine Below.setCell ?_ (by simp <;> omega) _ | with_reducible refine Ext.trans ?_ (Ext.alloc _ _))))) hz.out).mono ?_
  rintro e w1 ⟨p, a1, c1, rfl, own1, hl1, hb1, e1⟩
  have E1 : Ext w w1 := by refine Ext.trans ?_ e1; (repeat (first | with_reducible exact Below.refl _ _ | assumption | with_reducible refine below_drewN ?_ _ | with_reducible refine Below.drew ?_ | with_reducible refine Below.setCell ?_ (by simp <;> omega) _ | with_reducible refine Ext.trans ?_ (Ext.alloc _ _)))
  clear sl hz e1
  have HPB := pby_bys (p := p) hb1
  have hI := fun (w : World) (r : Sl w a1 p.data.length (p.data.map (Value.int .u8))) => impl_PacketBytes_any p a1 c1 w r hb1
  have hS := fun (w : World) (r : Sl w a1 p.data.length (p.data.map (Value.int .u8))) => spec_PacketBytes_any p a1 c1 w (by omega) r hb1
  have hV := fun (w : World) => spec_PacketValid_any p.num p.fr p.row p.part p.last a1 p.data.length c1 w (by omega)
  have hok : p.ok ↔ pval p.num p.fr p.row p.part p.data.length := Iff.rfl
  have hrd := fun h : p.ok => rd_pby h
  have hpl := fun h : p.ok => pby_len h
  have hpn := fun h : ¬ p.ok => pby_no h
  generalize pby p = B at *
  obtain ⟨num, fr, row, part, last, ds⟩ := p
  simp only [pkV] at hI hS hV hl1 own1 hok hrd hpl ⊢
  obtain ⟨m, hm⟩ : ∃ m, m = ds.length := ⟨_, rfl⟩
  obtain ⟨k, hk⟩ : ∃ k, k = B.length := ⟨_, rfl⟩
  rw [← hm] at hI hS hV hl1 own1 hok hpl ⊢
  rw [← hk] at hI hS hpl
  have HI := Lib.hid hI
  have HS := Lib.hid hS
  have HV := Lib.hid hV
  have Hk := Lib.hid hk
  have HBB := Lib.hid HPB
  have HOK := Lib.hid hok
  have HRD := Lib.hid hrd
  have HPL := Lib.hid hpl
  have HPN := Lib.hid hpn
  have H1 := Lib.hid hb1
  have Hm := Lib.hid hm
  have hs1 := E1.size
  clear hI hS hV hk HPB hok hrd hpl hpn hb1 hm
  have e2 := Ext.alloc w1 (.cells #[.int .i64 num, .int .i64 fr, .int .i64 row, .int .i64 part, .bool last, .slice a1 m c1] 27)
  have q2 := blk_new w1 (.cells #[.int .i64 num, .int .i64 fr, .int .i64 row, .int .i64 part, .bool last, .slice a1 m c1] 27)
  have own2 := owns_ext own1 e2
  have E2 := E1.trans e2
  clear own1 E1
  go_wp2_with fail
  refine (HI.out _ (Sl.of_owns own2)).mono ?_
  rintro e w3 ⟨a3, c3, rfl, own3, e3⟩
  have E3 := E2.trans e3
  have q3 := e3.blk q2
  have o3 := owns_ext own2 e3
  clear own2 e2 E2 q2 e3
  generalize w1.heap.size = Q at *
  obtain ⟨z, m0, m1, m2, m3, m4, m5⟩ := bx6 q3
  go_wp2_with fail
  have hext : ∀ (i : Nat) (own : Value) (ys : Nat → Value) (wa wb : World), Ext wa wb → (match i with | 0 => own = .slice a3 k c3 | 1 => own = .string (strOfNums B) | 2 => own = .agg #[.int .i64 num, .int .i64 fr, .int .i64 row, .int .i64 part, .bool last, .slice a1 m c1] | 3 => ∃ (a4 : Option Addr) (c4 : Nat), own = .slice a4 k c4 ∧ wa.ownsRow w3.heap.size 5 1 (.slice a4 k c4) k (B.map (Value.int .u8)) | 4 => own = .string (strOfNums B) | 5 => own = .bool false | _ => True) → (match i with | 0 => own = .slice a3 k c3 | 1 => own = .string (strOfNums B) | 2 => own = .agg #[.int .i64 num, .int .i64 fr, .int .i64 row, .int .i64 part, .bool last, .slice a1 m c1] | 3 => ∃ (a4 : Option Addr) (c4 : Nat), own = .slice a4 k c4 ∧ wb.ownsRow w3.heap.size 5 1 (.slice a4 k c4) k (B.map (Value.int .u8)) | 4 => own = .string (strOfNums B) | 5 => own = .bool false | _ => True) := by
    intro i own ys wa wb e h
    match i, h with
    | 0, h => exact h
    | 1, h => exact h
    | 2, h => exact h
    | 3, h => obtain ⟨a2, c2, h1, h2⟩ := h; exact ⟨a2, c2, h1, owns_ext h2 e⟩
    | 4, h => exact h
    | 5, h => exact h
    | _ + 6, _ => trivial
  have Hext := Lib.hid hext
  clear hext
  refine wp_region_inv2 (by kernel_rfl) [(14, 0), (15, 1), (16, 2), (17, 3), (18, 4), (19, 5)] [[], [0], [], [2], [2, 3], [0, 1, 2, 3, 4]] (fun i own ys wx => match i with | 0 => own = .slice a3 k c3 | 1 => own = .string (strOfNums B) | 2 => own = .agg #[.int .i64 num, .int .i64 fr, .int .i64 row, .int .i64 part, .bool last, .slice a1 m c1] | 3 => ∃ (a4 : Option Addr) (c4 : Nat), own = .slice a4 k c4 ∧ wx.ownsRow w3.heap.size 5 1 (.slice a4 k c4) k (B.map (Value.int .u8)) | 4 => own = .string (strOfNums B) | 5 => own = .bool false | _ => True) (fun kx wx => Ext w3 wx) (by kernel_rfl) (by kernel_rfl) (by kernel_rfl) ?g0_r1 ?gop_r1 ?gend_r1
  case g0_r1 => exact Ext.drewN _ 1
  case gop_r1 =>
    refine ⟨?_, ?_, ?_, ?_, ?_, ?_, trivial⟩
    · intro kx xs wx hk hG hD hI Qo Kx hK hQo
      clear hD
      clear hI
      simp only [patchS, Nat.reduceAdd, Nat.reduceEqDiff, ↓reduceIte] at hQo ⊢
      go_wp2
      exact hK.out _ _ ⟨rfl, hG, fun _ _ _ _ _ _ h => h⟩
    · intro kx xs wx hk hG hD hI Qo Kx hK hQo
      have d0 : (xs 0) = .slice a3 k c3 := hD 0 rfl
      clear hD
      clear hI
      simp only [patchS, Nat.reduceAdd, Nat.reduceEqDiff, ↓reduceIte] at hQo ⊢
      generalize xs 0 = y0 at *
      subst d0
      have hcv := conv_own wx _ a3 k c3 B (owns_ext own3 hG)
      go_wp2
      exact hK.out _ _ ⟨rfl, hG, fun _ _ _ _ _ _ h => h⟩
    · intro kx xs wx hk hG hD hI Qo Kx hK hQo
      clear hD
      clear hI
      simp only [patchS, Nat.reduceAdd, Nat.reduceEqDiff, ↓reduceIte] at hQo ⊢
      have k0 := cell_ext hG m0
      have k1 := cell_ext hG m1
      have k2 := cell_ext hG m2
      have k3 := cell_ext hG m3
      have k4 := cell_ext hG m4
      have k5 := cell_ext hG m5
      go_wp2
      exact hK.out _ _ ⟨rfl, hG, fun _ _ _ _ _ _ h => h⟩
    · intro kx xs wx hk hG hD hI Qo Kx hK hQo
      have d2 : (xs 2) = .agg #[.int .i64 num, .int .i64 fr, .int .i64 row, .int .i64 part, .bool last, .slice a1 m c1] := hD 2 rfl
      clear hD
      clear hI
      simp only [patchS, Nat.reduceAdd, Nat.reduceEqDiff, ↓reduceIte] at hQo ⊢
      generalize xs 2 = y2 at *
      subst d2
      go_wp2_with fail
      refine (HS.out _ ((Sl.of_owns o3).ext hG)).mono ?_
      rintro e w8 ⟨a8, c8, rfl, own8, e8⟩
      go_wp2
      exact hK.out _ _ ⟨⟨a8, c8, rfl, owns_mono own8 hG.size⟩, hG.trans e8, fun i _ _ _ own ys h => Hext.out i own ys _ _ e8 h⟩
    · intro kx xs wx hk hG hD hI Qo Kx hK hQo
      have d3 : ∃ (a4 : Option Addr) (c4 : Nat), (xs 3) = .slice a4 k c4 ∧ wx.ownsRow w3.heap.size 5 1 (.slice a4 k c4) k (B.map (Value.int .u8)) := hD 3 rfl
      clear hD
      clear hI
      simp only [patchS, Nat.reduceAdd, Nat.reduceEqDiff, ↓reduceIte] at hQo ⊢
      generalize xs 3 = y3 at *
      obtain ⟨a4, c4, rfl, o4⟩ := d3
      have hcv := conv_own wx _ a4 k c4 B o4
      go_wp2
      exact hK.out _ _ ⟨rfl, hG, fun _ _ _ _ _ _ h => h⟩
    · intro kx xs wx hk hG hD hI Qo Kx hK hQo
      have d1 : (xs 1) = .string (strOfNums B) := hD 1 rfl
      have d4 : (xs 4) = .string (strOfNums B) := hD 4 rfl
      clear hD
      clear hI
      simp only [patchS, Nat.reduceAdd, Nat.reduceEqDiff, ↓reduceIte] at hQo ⊢
      generalize xs 1 = y1 at *
      generalize xs 4 = y4 at *
      subst d1
      subst d4
      go_wp2
      exact hK.out _ _ ⟨rfl, hG, fun _ _ _ _ _ _ h => h⟩
  clear Hext
  intro xs wx hV hG
  have d0 : (xs 0) = .slice a3 k c3 := hV 0 (by decide)
  have d1 : (xs 1) = .string (strOfNums B) := hV 1 (by decide)
  have d2 : (xs 2) = .agg #[.int .i64 num, .int .i64 fr, .int .i64 row, .int .i64 part, .bool last, .slice a1 m c1] := hV 2 (by decide)
  have d3 : ∃ (a4 : Option Addr) (c4 : Nat), (xs 3) = .slice a4 k c4 ∧ wx.ownsRow w3.heap.size 5 1 (.slice a4 k c4) k (B.map (Value.int .u8)) := hV 3 (by decide)
  have d4 : (xs 4) = .string (strOfNums B) := hV 4 (by decide)
  have d5 : (xs 5) = .bool false := hV 5 (by decide)
  clear hV
  simp only [patchS, Nat.reduceAdd, Nat.reduceEqDiff, ↓reduceIte]
  generalize xs 0 = y0 at *
  generalize xs 1 = y1 at *
  generalize xs 2 = y2 at *
  generalize xs 3 = y3 at *
  generalize xs 4 = y4 at *
  generalize xs 5 = y5 at *
  replace hG : Ext w3 wx := hG
  clear d0 d1 d2 d3 d4
  subst d5
  have E4 := E3.trans hG
  have own5 := owns_ext own3 hG
  have o5 := owns_ext o3 hG
  have q5 := hG.blk q3
  clear E3 own3 o3 q3 hG m0 m1 m2 m3 m4 m5 z
  generalize wx = w4 at *
  obtain ⟨z, m0, m1, m2, m3, m4, m5⟩ := bx6 q5
  go_wp2_with fail
  refine (HV.out _).mono ?_
  rintro e w5 ⟨rfl, e5⟩
  have E5 := E4.trans e5
  have own6 := owns_ext own5 e5
  have o6 := owns_ext o5 e5
  have q6 := e5.blk q5
  clear E4 own5 o5 q5 m0 m1 m2 m3 m4 m5 z
  by_cases hok : Pkt.ok ⟨num, fr, row, part, last, ds⟩
  · have hv : pval num fr row part m := HOK.out.1 hok
    obtain ⟨hr1, hr2⟩ := HRD.out hok
    have hk9 := HPL.out hok
    rw [decide_eq_true hv]
    subst hk9
    have hcap := owns_cap own6
    unfold maxLen at hcap
    have hRP := fun (w : World) (r : Sl w a3 (m + 9) (B.map (Value.int .u8))) => impl_ReadPacket_any a3 c3 (m + 9) B w hcap (by omega) r HBB.out
    unfold RdR at hRP
    rw [rdP_yes hr1, hr2, decide_eq_true hr1] at hRP
    simp only [← Hm.out] at hRP
    have HRP := Lib.hid hRP
    clear hRP hr1 hr2 hok hv
    go_wp2_with fail
    refine (HRP.out _ (Sl.of_owns own6)).mono ?_
    rintro e w7 ⟨a7, c7, rfl, own7, e7⟩
    have e8 := Ext.alloc w7 (.cells #[.int .i64 num, .int .i64 fr, .int .i64 row, .int .i64 part, .bool last, .slice a7 m c7] 27)
    have q8 := blk_new w7 (.cells #[.int .i64 num, .int .i64 fr, .int .i64 row, .int .i64 part, .bool last, .slice a7 m c7] 27)
    have own8 := owns_ext own7 e8
    have e78 := e7.trans e8
    have q9 := e78.blk q6
    have o9 := owns_ext o6 e78
    have E9 := E5.trans e78
    clear own7 e7 e8 e78 q6 o6 E5 own6
    obtain ⟨z, m0, m1, m2, m3, m4, m5⟩ := bx6 q8
    obtain ⟨y, n0, n1, n2, n3, n4, n5⟩ := bx6 q9
    go_wp2_with fail
    generalize w7.alloc (.cells #[.int .i64 num, .int .i64 fr, .int .i64 row, .int .i64 part, .bool last, .slice a7 m c7] 27) = w8 at *
    refine (samePacket_same num fr row part last a7 a1 m c7 c1 ds _ (fun w' e => conv_own w' _ a7 m c7 ds (owns_ext own8 e)) (fun w' e => conv_own w' _ a1 m c1 ds (owns_ext o9 e))).mono ?_
    rintro e w9 ⟨rfl, e9⟩
    have q10 := e9.blk q9
    clear m0 m1 m2 m3 m4 m5 z y n0 n1 n2 n3 n4 n5 own8 o9 q8 q9
    obtain ⟨y, n0, n1, n2, n3, n4, n5⟩ := bx6 q10
    go_wp2
    go_ret
    exact ⟨by first | rfl | (simp; done) | (simp; omega), E9.trans e9⟩
  · have hv : ¬ pval num fr row part m := fun h => hok (HOK.out.2 h)
    rw [decide_eq_false hv]
    have hB := HPN.out hok
    have hk0 : k = 0 := by rw [Hk.out, hB]; rfl
    subst hk0
    go_wp2_with fail
    refine (alive_any _).mono ?_
    rintro e w7 ⟨rfl, e7⟩
    go_wp2
    go_ret
    exact ⟨rfl, E5.trans e7⟩
end Go.Proofs.Ytpjjadmjdafkeaa
