/- FnReadContainer: accepted containers are canonical: the walk of the law. -/
import Derived.Test.YtpjjadmjdafkeaaDoorLawK6
import Derived.Test.YtpjjadmjdafkeaaDoorRi
namespace Go.Proofs.YtpjjadmjdafkeaaDoor
open Go.RowKit
set_option maxHeartbeats 2000000
set_option maxRecDepth 100000 in
set_option maxHeartbeats 4000000 in
theorem law_FnReadContainer (a : Option Addr) (c n : Nat) (zs : List Int) (w : World) (hn0 : n ≤ c ∧ c ≤ maxLen) (sl : Sl w a n (zs.map (Value.int .u8))) (wf : ∀ z ∈ zs, (Lit.int .u8 z).wf = true) (h0 : ∃ b, w.cell? ⟨0, 0, none⟩ = some (.iface 82 (.pointer (some b)))) :
    Calls Tryd.prog 5 #[.slice a n c] w fun e w' => e = .returned (.bool true) ∧ Ext w w' := by
  have hn : n ≤ c ∧ c ≤ 9223372036854775807 := ⟨hn0.1, hn0.2⟩
  clear hn0
  obtain ⟨b, h0⟩ := h0
  have hz := Lib.hid (byte_range6 wf)
  clear wf
  by_cases hbig : 1048576 < n
  · go_enter Tryd.func5, Tryd.ntmps5
    go_wp2
    go_ret
    refine ⟨rfl, ?_⟩
    (repeat (first | with_reducible exact Below.refl _ _ | assumption | with_reducible refine below_drewN ?_ _ | with_reducible refine Below.drew ?_ | with_reducible refine Below.setCell ?_ (by simp <;> omega) _ | with_reducible refine Ext.trans ?_ (Ext.alloc _ _)))
  go_enter Tryd.func5, Tryd.ntmps5
  go_wp2_with fail
  refine (DrawReadContainer_any a c n zs _ hn.1 hn.2 (sl.ext (by (repeat (first | with_reducible exact Below.refl _ _ | assumption | with_reducible refine below_drewN ?_ _ | with_reducible refine Below.drew ?_ | with_reducible refine Below.setCell ?_ (by simp <;> omega) _ | with_reducible refine Ext.trans ?_ (Ext.alloc _ _))))) hz.out).mono ?_
  rintro e w1 ⟨g, m, c1, d, rfl, o1, hm, hb, e1⟩
  have E1 : Ext w w1 := by refine Ext.trans ?_ e1; (repeat (first | with_reducible exact Below.refl _ _ | assumption | with_reducible refine below_drewN ?_ _ | with_reducible refine Below.drew ?_ | with_reducible refine Below.setCell ?_ (by simp <;> omega) _ | with_reducible refine Ext.trans ?_ (Ext.alloc _ _)))
  have H0 := Lib.hid h0
  have Hb := Lib.hid hb
  have hcap := owns_cap o1
  unfold maxLen at hcap
  have hdl := (Sl.of_owns o1).int_len
  have HDL := Lib.hid hdl
  have hge := (o1.lt g rfl).1
  have hlt := (o1.lt g rfl).2
  have hRD := fun (wz : World) (e : Ext w1 wz) (E : Ext w wz) => impl_ReadContainer_any b (some ⟨g, 0, none⟩) c1 m d wz (cell_ext E H0.out) hcap (Sl.of_owns (owns_ext o1 e)) Hb.out (fun y hy => by cases hy; exact Nat.lt_of_lt_of_le hlt e.size) (fun w' e' => conv_own w' _ _ m c1 d (owns_ext (owns_ext o1 e) e'))
  have hSD := fun (wz : World) (e : Ext w1 wz) => spec_ReadContainer_any (some ⟨g, 0, none⟩) c1 m d wz hcap (by omega) (Sl.of_owns (owns_ext o1 e)) Hb.out
  unfold RcR at hRD hSD
  obtain ⟨L, hL⟩ : ∃ L, L = rcL d := ⟨_, rfl⟩
  obtain ⟨k, hk⟩ : ∃ k, k = L.length := ⟨_, rfl⟩
  obtain ⟨ok, hok⟩ : ∃ ok, ok = decide (rcOk d) := ⟨_, rfl⟩
  simp only [← hL, ← hk, ← hok] at hRD hSD
  have hk100 : k ≤ 255 := by
    rw [hk, hL]; unfold rcL
    split
    · rename_i h; rw [cL_len]; have := rcOk_num h; omega
    · simp
  have HRD := Lib.hid hRD
  have HSD := Lib.hid hSD
  have HL := Lib.hid hL
  have Hk := Lib.hid hk
  have HOK := Lib.hid hok
  clear sl hz e1 h0 hb hdl hRD hSD hL hk hok
  go_wp2_with fail
  refine (HRD.out _ (Below.refl _ _) E1).mono ?_
  rintro e w2 ⟨a2, c2, rfl, S2, e2⟩
  have o2 := owns_ext o1 e2
  have E2 := E1.trans e2
  go_wp2_with fail
  refine (HSD.out _ e2).mono ?_
  rintro e w3 ⟨a3, c3, rfl, S3, e3⟩
  have S4 := S2.ext e3
  have e13 := e2.trans e3
  have o3 := owns_ext o2 e3
  have E3 := E2.trans e3
  clear e2 e3 S2 o2 E2 E1 o1 HSD
  go_wp2_with fail
  have hnn : ok = ok := rfl
  refine (sameSamples_same a2 a3 k c2 c3 0 L _ (S4.mono (Nat.zero_le _)) (S3.mono (Nat.zero_le _))).mono ?_
  rintro e w4 ⟨rfl, e4⟩
  have e14 := e13.trans e4
  have o4 := owns_ext o3 e4
  have E4 := E3.trans e4
  have S5 := S4.ext e4
  clear e13 e4 o3 E3 S4 S3 hnn
  cases ok with
  | false =>
    have hno : ¬ rcOk d := of_decide_eq_false HOK.out.symm
    have hk0 : k = 0 := by rw [Hk.out, HL.out]; unfold rcL; rw [if_neg hno]; rfl
    subst hk0
    clear hno
    go_wp2_with fail
    refine (alive_any _).mono ?_
    rintro e w5 ⟨rfl, e5⟩
    go_wp2
    go_ret
    exact ⟨rfl, E4.trans e5⟩
  | true =>
    have hrc : rcOk d := of_decide_eq_true HOK.out.symm
    have HRC := Lib.hid hrc
    have hm1 : 1 ≤ m := by have := hrc.1.1; have := HDL.out; omega
    have hLc : L = cL d := by rw [HL.out]; unfold rcL; rw [if_pos hrc]
    have hsv : svalid L = true := by rw [hLc]; exact hrc.2.2.2
    have hwc : wcont L = d := by rw [hLc]; exact (rc_iff Hb.out hrc.1).2 hrc
    have HSV := Lib.hid hsv
    have HWC := Lib.hid hwc
    have oB := World.ownsRow_made (base := w4.heap.size) (e := 5) (size := 1) w4 #[] 0 (Nat.le_refl _) (by simp) rfl
    have eB := Ext.alloc w4 (.cells #[] 5)
    have sB := (Sl.of_owns o4).ext eB
    have hsB := eB.size
    clear hrc hLc hsv hwc
    go_wp2_with (at_builtin; refine wpList_apps _ oB hsB rfl _ _ 22 rfl (.int .u8 0) 1 Tryd.underlying22 info_uint8 rfl rfl (some ⟨g, 0, none⟩) m c1 _ rfl sB (by intro u hu; simp at hu; obtain ⟨z, -, rfl⟩ := hu; rfl) (by omega) (by omega) ?_; intro v7 w7 own7 gr7; refine Hid.out ?_)
    rw [Nat.zero_add, List.nil_append] at own7
    have e7 : Ext w4 w7 := Ext.grown eB gr7 (fun q hq => by simp [Value.ownBlock] at hq; omega)
    have hs7 := e7.size
    clear oB eB sB hsB gr7
    refine Lib.hid ?_
    have oC := World.ownsRow_lit (base := w4.heap.size) (e := 5) (size := 1) w7 #[.int .u8 0] 1 hs7 (by unfold maxLen; omega) rfl
    have eC := Ext.alloc w7 (.cells #[.int .u8 0] 5)
    have ownC := owns_ext own7 eC
    have hsC : w4.heap.size ≤ (w7.alloc (.cells #[.int .u8 0] 5)).heap.size := Nat.le_trans hs7 eC.size
    go_wp2_with (at_builtin; refine wpList_apps _ ownC hsC rfl _ _ 22 rfl (.int .u8 0) 1 Tryd.underlying22 info_uint8 rfl rfl _ 1 1 _ rfl (Sl.of_owns oC) (by intro u hu; simp at hu; subst hu; rfl) (by omega) (by omega) ?_; intro v8 w8 own8 gr8; refine Hid.out ?_)
    have e8 : Ext w4 w8 := Ext.grown (e7.trans eC) gr8 (owns_ge ownC)
    rw [show d.map (Value.int .u8) ++ [Value.int .u8 0] = (d ++ [0]).map (Value.int .u8) by simp] at own8
    obtain ⟨a8, c8, rfl⟩ := owns_form own8
    have E8 := E4.trans e8
    have e18 := e14.trans e8
    have S8 := S5.ext e8
    have o8 := owns_ext o4 e8
    have hcap8 := owns_cap own8
    unfold maxLen at hcap8
    have hRM := impl_ReadContainer_any b a8 c8 (m + 1) (d ++ [0]) w8 (cell_ext E8 H0.out) hcap8 (Sl.of_owns own8) (fun z hz => by rcases List.mem_append.1 hz with h | h; exact Hb.out z h; simp at h; omega) (fun y hy => (own8.lt y.block (by rw [hy]; rfl)).2) (fun w' e' => conv_own w' _ _ (m + 1) c8 _ (owns_ext own8 e'))
    unfold RcR at hRM
    rw [decide_eq_false (rc_more HRC.out 0)] at hRM
    have HRM := Lib.hid hRM
    clear hRM own8 gr8 oC eC ownC hsC own7 e7 hs7 E4 e14 S5 o4 e8
    refine Lib.hid ?_
    go_wp2_with fail
    refine HRM.out.mono ?_
    rintro e w9 ⟨a9, c9, rfl, -, e9⟩
    have E9 := E8.trans e9
    have e19 := e18.trans e9
    have S9 := S8.ext e9
    have o9 := owns_ext o8 e9
    clear E8 e18 S8 o8 e9 HRM
    have hm1I : (0 : Int) ≤ (m : Int) - 1 := by omega
    have hm1t : ((m : Int) - 1).toNat = m - 1 := by omega
    have u1 : IntKind.i64.wrap ((m : Int) - 1) = (m : Int) - 1 := IntWalk.i64_in _ (by omega)
    have o9' := owns_cut o9 (m := m - 1) (by omega)
    rw [← List.map_take] at o9'
    have hRL := impl_ReadContainer_any b (some ⟨g, 0, none⟩) c1 (m - 1) (d.take (m - 1)) w9 (cell_ext E9 H0.out) (by omega) (Sl.of_owns o9') (fun z hz => Hb.out z (List.mem_of_mem_take hz)) (fun y hy => by cases hy; exact Nat.lt_of_lt_of_le hlt e19.size) (fun w' e' => conv_own w' _ _ (m - 1) c1 _ (owns_ext o9' e'))
    unfold RcR at hRL
    rw [decide_eq_false (by have h9 := rc_less HRC.out; rw [HDL.out] at h9; exact h9)] at hRL
    have HRLs := Lib.hid hRL
    clear hRL o9'
    go_wp2_with fail
    refine HRLs.out.mono ?_
    rintro e w10 ⟨a10, c10, rfl, -, e10⟩
    have E10 := E9.trans e10
    have S10 := S9.ext e10
    have o10 := owns_ext o9 e10
    clear E9 S9 o9 e10 HRLs e19 u1
    have hI := fun (w : World) (r : SP w a2 k L) => impl_WriteContainer_any a2 c2 k L w (by omega) r
    have hV := fun (w : World) (r : SP w a2 k L) => impl_SamplesValid_any a2 c2 k L w (by omega) r
    simp only [HWC.out, HSV.out, HDL.out] at hI hV
    have HI := Lib.hid hI
    have HV := Lib.hid hV
    clear hI hV
    rw [← Hk.out] at *
    go_wp2_with fail
    have hext : ∀ (i : Nat) (own : Value) (ys : Nat → Value) (wa wb : World), Ext wa wb → (match i with | 0 => own = .slice a2 k c2 | 1 => own = .bool true | 2 => own = .bool true | 3 => own = .slice a2 k c2 | 4 => ∃ (a4 : Option Addr) (c4 : Nat), own = .slice a4 m c4 ∧ wa.ownsRow w10.heap.size 5 1 (.slice a4 m c4) m (d.map (Value.int .u8)) | 5 => own = .string (strOfNums d) | 6 => own = .slice (some ⟨g, 0, none⟩) m c1 | 7 => own = .string (strOfNums d) | 8 => own = .bool true | 9 => own = .bool true | 10 => own = .bool true | 11 => own = .bool false | 12 => own = .bool true | 13 => own = .bool true | 14 => own = .bool true | 15 => own = .bool false | 16 => own = .bool true | 17 => own = .bool true | 18 => own = .bool true | _ => True) → (match i with | 0 => own = .slice a2 k c2 | 1 => own = .bool true | 2 => own = .bool true | 3 => own = .slice a2 k c2 | 4 => ∃ (a4 : Option Addr) (c4 : Nat), own = .slice a4 m c4 ∧ wb.ownsRow w10.heap.size 5 1 (.slice a4 m c4) m (d.map (Value.int .u8)) | 5 => own = .string (strOfNums d) | 6 => own = .slice (some ⟨g, 0, none⟩) m c1 | 7 => own = .string (strOfNums d) | 8 => own = .bool true | 9 => own = .bool true | 10 => own = .bool true | 11 => own = .bool false | 12 => own = .bool true | 13 => own = .bool true | 14 => own = .bool true | 15 => own = .bool false | 16 => own = .bool true | 17 => own = .bool true | 18 => own = .bool true | _ => True) := by
      intro i own ys wa wb e h
      match i, h with
      | 0, h => exact h
      | 1, h => exact h
      | 2, h => exact h
      | 3, h => exact h
      | 4, h => obtain ⟨a2, c2, h1, h2⟩ := h; exact ⟨a2, c2, h1, owns_ext h2 e⟩
      | 5, h => exact h
      | 6, h => exact h
      | 7, h => exact h
      | 8, h => exact h
      | 9, h => exact h
      | 10, h => exact h
      | 11, h => exact h
      | 12, h => exact h
      | 13, h => exact h
      | 14, h => exact h
      | 15, h => exact h
      | 16, h => exact h
      | 17, h => exact h
      | 18, h => exact h
      | _ + 19, _ => trivial
    have Hext := Lib.hid hext
    clear hext
    refine wp_region_inv2 (by kernel_rfl) [(2, 18), (62, 0), (63, 1), (64, 2), (65, 3), (66, 4), (67, 5), (68, 6), (69, 7), (70, 8), (71, 9), (72, 10), (73, 11), (74, 12), (75, 13), (76, 14), (77, 15), (78, 16), (79, 17)] [[], [0], [0, 1], [0, 1, 2], [0, 1, 2, 3], [0, 1, 2, 3, 4], [0, 1, 2], [0, 1, 2, 6], [0, 1, 2, 3, 4, 5, 6, 7], [0, 1, 2, 3, 4, 5, 6, 7, 8], [0, 1, 2, 3, 4, 5, 6, 7, 8, 9], [0, 1, 2, 3, 4, 5, 6, 7, 8, 9, 10], [0, 1, 2, 3, 4, 5, 6, 7, 8, 9, 10, 11], [0, 1, 2, 3, 4, 5, 6, 7, 8, 9, 10, 11, 12], [0, 1, 2, 3, 4, 5, 6, 7, 8, 9, 10, 11, 12, 13], [0, 1, 2, 3, 4, 5, 6, 7, 8, 9, 10, 11, 12, 13, 14], [0, 1, 2, 3, 4, 5, 6, 7, 8, 9, 10, 11, 12, 13, 14, 15], [0, 1, 2, 3, 4, 5, 6, 7, 8, 9, 10, 11, 12, 13, 14, 15, 16], [0, 1, 2, 3, 4, 5, 6, 7, 8, 9, 10, 11, 12, 13, 14, 15, 16, 17]] (fun i own ys wx => match i with | 0 => own = .slice a2 k c2 | 1 => own = .bool true | 2 => own = .bool true | 3 => own = .slice a2 k c2 | 4 => ∃ (a4 : Option Addr) (c4 : Nat), own = .slice a4 m c4 ∧ wx.ownsRow w10.heap.size 5 1 (.slice a4 m c4) m (d.map (Value.int .u8)) | 5 => own = .string (strOfNums d) | 6 => own = .slice (some ⟨g, 0, none⟩) m c1 | 7 => own = .string (strOfNums d) | 8 => own = .bool true | 9 => own = .bool true | 10 => own = .bool true | 11 => own = .bool false | 12 => own = .bool true | 13 => own = .bool true | 14 => own = .bool true | 15 => own = .bool false | 16 => own = .bool true | 17 => own = .bool true | 18 => own = .bool true | _ => True) (fun kx wx => Ext w10 wx) (by kernel_rfl) (by kernel_rfl) (by kernel_rfl) ?g0_r1 ?gop_r1 ?gend_r1
    case g0_r1 => exact Ext.drewN _ 1
    case gop_r1 =>
      refine ⟨?_, ?_, ?_, ?_, ?_, ?_, ?_, ?_, ?_, ?_, ?_, ?_, ?_, ?_, ?_, ?_, ?_, ?_, ?_, trivial⟩
      · intro kx xs wx hk hG hD hI Qo Kx hK hQo
        clear hD
        clear hI
        simp only [patchS, Nat.reduceAdd, Nat.reduceEqDiff, ↓reduceIte] at hQo ⊢
        go_wp2
        exact hK.out _ _ ⟨rfl, hG, fun _ _ _ _ _ _ h => h⟩
      · intro kx xs wx hk hG hD hI Qo Kx hK hQo
        have d0 : (xs 0) = .slice a2 k c2 := hD 0 rfl
        clear hD
        clear hI
        simp only [patchS, Nat.reduceAdd, Nat.reduceEqDiff, ↓reduceIte] at hQo ⊢
        generalize xs 0 = y0 at *
        subst d0
        go_wp2_with fail
        refine (HV.out _ (S10.toSP.ext hG)).mono ?_
        rintro e w6 ⟨rfl, e6⟩
        go_wp2
        exact hK.out _ _ ⟨rfl, hG.trans e6, fun i _ _ _ own ys h => Hext.out i own ys _ _ e6 h⟩
      · intro kx xs wx hk hG hD hI Qo Kx hK hQo
        have d1 : (xs 1) = .bool true := hD 1 rfl
        clear hD
        clear hI
        simp only [patchS, Nat.reduceAdd, Nat.reduceEqDiff, ↓reduceIte] at hQo ⊢
        generalize xs 1 = y1 at *
        subst d1
        go_wp2
        exact hK.out _ _ ⟨rfl, hG, fun _ _ _ _ _ _ h => h⟩
      · intro kx xs wx hk hG hD hI Qo Kx hK hQo
        have d2 : (xs 2) = .bool true := hD 2 rfl
        clear hD
        clear hI
        simp only [patchS, Nat.reduceAdd, Nat.reduceEqDiff, ↓reduceIte] at hQo ⊢
        generalize xs 2 = y2 at *
        subst d2
        go_wp2
        exact hK.out _ _ ⟨rfl, hG, fun _ _ _ _ _ _ h => h⟩
      · intro kx xs wx hk hG hD hI Qo Kx hK hQo
        have d3 : (xs 3) = .slice a2 k c2 := hD 3 rfl
        have d2 : (xs 2) = .bool true := hD 2 rfl
        clear hD
        clear hI
        simp only [patchS, Nat.reduceAdd, Nat.reduceEqDiff, ↓reduceIte] at hQo ⊢
        generalize xs 3 = y3 at *
        generalize xs 2 = y2 at *
        subst d3
        subst d2
        go_wp2_with fail
        refine (HI.out _ (S10.toSP.ext hG)).mono ?_
        rintro e w8 ⟨a8, c8, rfl, own8, e8⟩
        go_wp2
        exact hK.out _ _ ⟨⟨a8, c8, rfl, owns_mono own8 hG.size⟩, hG.trans e8, fun i _ _ _ own ys h => Hext.out i own ys _ _ e8 h⟩
      · intro kx xs wx hk hG hD hI Qo Kx hK hQo
        have d4 : ∃ (a4 : Option Addr) (c4 : Nat), (xs 4) = .slice a4 m c4 ∧ wx.ownsRow w10.heap.size 5 1 (.slice a4 m c4) m (d.map (Value.int .u8)) := hD 4 rfl
        have d2 : (xs 2) = .bool true := hD 2 rfl
        clear hD
        clear hI
        simp only [patchS, Nat.reduceAdd, Nat.reduceEqDiff, ↓reduceIte] at hQo ⊢
        generalize xs 4 = y4 at *
        generalize xs 2 = y2 at *
        obtain ⟨a4, c4, rfl, o4⟩ := d4
        subst d2
        have hcv := conv_own wx _ a4 m c4 d o4
        go_wp2
        exact hK.out _ _ ⟨rfl, hG, fun _ _ _ _ _ _ h => h⟩
      · intro kx xs wx hk hG hD hI Qo Kx hK hQo
        have d2 : (xs 2) = .bool true := hD 2 rfl
        clear hD
        clear hI
        simp only [patchS, Nat.reduceAdd, Nat.reduceEqDiff, ↓reduceIte] at hQo ⊢
        generalize xs 2 = y2 at *
        subst d2
        go_wp2
        exact hK.out _ _ ⟨rfl, hG, fun _ _ _ _ _ _ h => h⟩
      · intro kx xs wx hk hG hD hI Qo Kx hK hQo
        have d6 : (xs 6) = .slice (some ⟨g, 0, none⟩) m c1 := hD 6 rfl
        have d2 : (xs 2) = .bool true := hD 2 rfl
        clear hD
        clear hI
        simp only [patchS, Nat.reduceAdd, Nat.reduceEqDiff, ↓reduceIte] at hQo ⊢
        generalize xs 6 = y6 at *
        generalize xs 2 = y2 at *
        subst d6
        subst d2
        have hcv := conv_own wx _ _ m c1 d (owns_ext o10 hG)
        go_wp2
        exact hK.out _ _ ⟨rfl, hG, fun _ _ _ _ _ _ h => h⟩
      · intro kx xs wx hk hG hD hI Qo Kx hK hQo
        have d5 : (xs 5) = .string (strOfNums d) := hD 5 rfl
        have d7 : (xs 7) = .string (strOfNums d) := hD 7 rfl
        have d2 : (xs 2) = .bool true := hD 2 rfl
        clear hD
        clear hI
        simp only [patchS, Nat.reduceAdd, Nat.reduceEqDiff, ↓reduceIte] at hQo ⊢
        generalize xs 5 = y5 at *
        generalize xs 7 = y7 at *
        generalize xs 2 = y2 at *
        subst d5
        subst d7
        subst d2
        go_wp2
        exact hK.out _ _ ⟨rfl, hG, fun _ _ _ _ _ _ h => h⟩
      · intro kx xs wx hk hG hD hI Qo Kx hK hQo
        have d2 : (xs 2) = .bool true := hD 2 rfl
        have d8 : (xs 8) = .bool true := hD 8 rfl
        clear hD
        clear hI
        simp only [patchS, Nat.reduceAdd, Nat.reduceEqDiff, ↓reduceIte] at hQo ⊢
        generalize xs 2 = y2 at *
        generalize xs 8 = y8 at *
        subst d2
        subst d8
        go_wp2
        exact hK.out _ _ ⟨rfl, hG, fun _ _ _ _ _ _ h => h⟩
      · intro kx xs wx hk hG hD hI Qo Kx hK hQo
        have d9 : (xs 9) = .bool true := hD 9 rfl
        clear hD
        clear hI
        simp only [patchS, Nat.reduceAdd, Nat.reduceEqDiff, ↓reduceIte] at hQo ⊢
        generalize xs 9 = y9 at *
        subst d9
        go_wp2
        exact hK.out _ _ ⟨rfl, hG, fun _ _ _ _ _ _ h => h⟩
      · intro kx xs wx hk hG hD hI Qo Kx hK hQo
        have d10 : (xs 10) = .bool true := hD 10 rfl
        clear hD
        clear hI
        simp only [patchS, Nat.reduceAdd, Nat.reduceEqDiff, ↓reduceIte] at hQo ⊢
        generalize xs 10 = y10 at *
        subst d10
        go_wp2
        exact hK.out _ _ ⟨rfl, hG, fun _ _ _ _ _ _ h => h⟩
      · intro kx xs wx hk hG hD hI Qo Kx hK hQo
        have d11 : (xs 11) = .bool false := hD 11 rfl
        have d10 : (xs 10) = .bool true := hD 10 rfl
        clear hD
        clear hI
        simp only [patchS, Nat.reduceAdd, Nat.reduceEqDiff, ↓reduceIte] at hQo ⊢
        generalize xs 11 = y11 at *
        generalize xs 10 = y10 at *
        subst d11
        subst d10
        go_wp2
        exact hK.out _ _ ⟨rfl, hG, fun _ _ _ _ _ _ h => h⟩
      · intro kx xs wx hk hG hD hI Qo Kx hK hQo
        have d10 : (xs 10) = .bool true := hD 10 rfl
        have d12 : (xs 12) = .bool true := hD 12 rfl
        clear hD
        clear hI
        simp only [patchS, Nat.reduceAdd, Nat.reduceEqDiff, ↓reduceIte] at hQo ⊢
        generalize xs 10 = y10 at *
        generalize xs 12 = y12 at *
        subst d10
        subst d12
        go_wp2
        exact hK.out _ _ ⟨rfl, hG, fun _ _ _ _ _ _ h => h⟩
      · intro kx xs wx hk hG hD hI Qo Kx hK hQo
        have d13 : (xs 13) = .bool true := hD 13 rfl
        clear hD
        clear hI
        simp only [patchS, Nat.reduceAdd, Nat.reduceEqDiff, ↓reduceIte] at hQo ⊢
        generalize xs 13 = y13 at *
        subst d13
        go_wp2
        exact hK.out _ _ ⟨rfl, hG, fun _ _ _ _ _ _ h => h⟩
      · intro kx xs wx hk hG hD hI Qo Kx hK hQo
        have d14 : (xs 14) = .bool true := hD 14 rfl
        clear hD
        clear hI
        simp only [patchS, Nat.reduceAdd, Nat.reduceEqDiff, ↓reduceIte] at hQo ⊢
        generalize xs 14 = y14 at *
        subst d14
        go_wp2
        exact hK.out _ _ ⟨rfl, hG, fun _ _ _ _ _ _ h => h⟩
      · intro kx xs wx hk hG hD hI Qo Kx hK hQo
        have d15 : (xs 15) = .bool false := hD 15 rfl
        have d14 : (xs 14) = .bool true := hD 14 rfl
        clear hD
        clear hI
        simp only [patchS, Nat.reduceAdd, Nat.reduceEqDiff, ↓reduceIte] at hQo ⊢
        generalize xs 15 = y15 at *
        generalize xs 14 = y14 at *
        subst d15
        subst d14
        go_wp2
        exact hK.out _ _ ⟨rfl, hG, fun _ _ _ _ _ _ h => h⟩
      · intro kx xs wx hk hG hD hI Qo Kx hK hQo
        have d14 : (xs 14) = .bool true := hD 14 rfl
        have d16 : (xs 16) = .bool true := hD 16 rfl
        clear hD
        clear hI
        simp only [patchS, Nat.reduceAdd, Nat.reduceEqDiff, ↓reduceIte] at hQo ⊢
        generalize xs 14 = y14 at *
        generalize xs 16 = y16 at *
        subst d14
        subst d16
        go_wp2
        exact hK.out _ _ ⟨rfl, hG, fun _ _ _ _ _ _ h => h⟩
      · intro kx xs wx hk hG hD hI Qo Kx hK hQo
        have d17 : (xs 17) = .bool true := hD 17 rfl
        clear hD
        clear hI
        simp only [patchS, Nat.reduceAdd, Nat.reduceEqDiff, ↓reduceIte] at hQo ⊢
        generalize xs 17 = y17 at *
        subst d17
        go_wp2
        exact hK.out _ _ ⟨rfl, hG, fun _ _ _ _ _ _ h => h⟩
    clear Hext
    intro xs wx hV hG
    have d0 : (xs 0) = .slice a2 k c2 := hV 0 (by decide)
    have d1 : (xs 1) = .bool true := hV 1 (by decide)
    have d2 : (xs 2) = .bool true := hV 2 (by decide)
    have d3 : (xs 3) = .slice a2 k c2 := hV 3 (by decide)
    have d4 : ∃ (a4 : Option Addr) (c4 : Nat), (xs 4) = .slice a4 m c4 ∧ wx.ownsRow w10.heap.size 5 1 (.slice a4 m c4) m (d.map (Value.int .u8)) := hV 4 (by decide)
    have d5 : (xs 5) = .string (strOfNums d) := hV 5 (by decide)
    have d6 : (xs 6) = .slice (some ⟨g, 0, none⟩) m c1 := hV 6 (by decide)
    have d7 : (xs 7) = .string (strOfNums d) := hV 7 (by decide)
    have d8 : (xs 8) = .bool true := hV 8 (by decide)
    have d9 : (xs 9) = .bool true := hV 9 (by decide)
    have d10 : (xs 10) = .bool true := hV 10 (by decide)
    have d11 : (xs 11) = .bool false := hV 11 (by decide)
    have d12 : (xs 12) = .bool true := hV 12 (by decide)
    have d13 : (xs 13) = .bool true := hV 13 (by decide)
    have d14 : (xs 14) = .bool true := hV 14 (by decide)
    have d15 : (xs 15) = .bool false := hV 15 (by decide)
    have d16 : (xs 16) = .bool true := hV 16 (by decide)
    have d17 : (xs 17) = .bool true := hV 17 (by decide)
    have d18 : (xs 18) = .bool true := hV 18 (by decide)
    clear hV
    simp only [patchS, Nat.reduceAdd, Nat.reduceEqDiff, ↓reduceIte]
    generalize xs 0 = y0 at *
    generalize xs 1 = y1 at *
    generalize xs 2 = y2 at *
    generalize xs 3 = y3 at *
    generalize xs 4 = y4 at *
    generalize xs 5 = y5 at *
    generalize xs 6 = y6 at *
    generalize xs 7 = y7 at *
    generalize xs 8 = y8 at *
    generalize xs 9 = y9 at *
    generalize xs 10 = y10 at *
    generalize xs 11 = y11 at *
    generalize xs 12 = y12 at *
    generalize xs 13 = y13 at *
    generalize xs 14 = y14 at *
    generalize xs 15 = y15 at *
    generalize xs 16 = y16 at *
    generalize xs 17 = y17 at *
    generalize xs 18 = y18 at *
    replace hG : Ext w10 wx := hG
    clear d0 d1 d2 d3 d4 d5 d6 d7 d8 d9 d10 d11 d12 d13 d14 d15 d16 d17
    subst d18
    go_wp2
    go_ret
    exact ⟨rfl, E10.trans hG⟩
end Go.Proofs.YtpjjadmjdafkeaaDoor
