/- FnRequantizeMacro: requantizing to the same index changes nothing; the walk of the law. -/
import Derived.Test.YtlmoeabchiddnaaDoorNa
import Derived.Test.YtlmoeabchiddnaaDoorNp
import Derived.Test.YtlmoeabchiddnaaDoorRs
import Derived.Test.YtlmoeabchiddnaaDoorEs
import Derived.Test.YtlmoeabchiddnaaDoorV
namespace Go.Proofs.YtlmoeabchiddnaaDoor
open Go.RowKit
set_option maxHeartbeats 1000000
theorem laws_abs_any (c : Int) (w : World) (h1 : -1099511627776 ≤ c) (h2 : c ≤ 1099511627776) :
    Calls Tryd.prog 37 #[.int .i64 c] w fun e w' => e = .returned (.int .i64 (absI c)) ∧ w = w' := by
  unfold absI
  go_enter Tryd.func37, Tryd.ntmps37
  by_cases hc : c < 0
  · rw [if_pos hc]
    go_wp2
    go_ret
    first | exact ⟨rfl, rfl⟩ | exact ⟨by simp; omega, rfl⟩
  · rw [if_neg hc]
    go_wp2
    go_ret
    first | exact ⟨rfl, rfl⟩ | exact ⟨by simp; omega, rfl⟩
theorem impl_QuantStep_in (q : Nat) (w : World) (hT : TabQ w) (hq : q < 16) :
    Calls Tryd.prog 38 #[.int .i64 q] w fun e w' => e = .returned (.int .i64 (stp q)) ∧ w = w' := by
  have ht := hT q hq
  have hs := stp_rng hq
  generalize stp q = s at *
  go_enter Tryd.func38, Tryd.ntmps38
  go_wp2_with fail
  refine (qualityValid_in _ _ (by omega) (by omega)).mono ?_
  rintro e w1 ⟨rfl, rfl⟩
  go_wp2
  go_ret
  exact ⟨rfl, rfl⟩
theorem bdI_sub {B : Int} {zs : List Int} (h : bdI B zs) (o n : Nat) (hl : o + n ≤ zs.length) : bdI B (sub zs o n) := by
  intro j hj
  rw [sub_len _ _ _ hl] at hj
  rw [nth_sub _ _ _ _ hj]
  exact h _ (by omega)
theorem byte_rangeN {L : List Int} (h : ∀ z ∈ L, (Lit.int .u8 z).wf = true) : ∀ z ∈ L, 0 ≤ z ∧ z ≤ 255 := by
  intro z hz
  have := h z hz
  simp [Lit.wf, IntKind.min, IntKind.max, IntKind.signed, IntKind.bits] at this
  exact ⟨by omega, by omega⟩
theorem zero_Macn : Tryd.zeroCells33 = ic (zl 71) := by kernel_rfl
/-- All levels before n are small. -/
def smallL (m : Mac) (f : Nat) (n : Nat) : Prop := ∀ j, j < n → absI (nth m.lv j) * stp f ≤ 4080
theorem smallL_succ {m : Mac} {f n : Nat} (h : smallL m f n) (h1 : absI (nth m.lv n) * stp f ≤ 4080) : smallL m f (n + 1) := by
  intro j hj
  rcases Nat.lt_succ_iff_lt_or_eq.1 hj with h2 | rfl
  · exact h j h2
  · exact h1
set_option maxRecDepth 100000 in
set_option maxHeartbeats 2000000 in
theorem law_FnRequantizeMacro (a : Option Addr) (c n : Nat) (zs : List Int) (w : World) (hT : TabQ w) (hn0 : n ≤ c ∧ c ≤ maxLen) (sl : Sl w a n (zs.map (Value.int .u8))) (wf : ∀ z ∈ zs, (Lit.int .u8 z).wf = true) :
    Calls Tryd.prog 8 #[.slice a n c] w fun e w' => e = .returned (.bool true) ∧ Ext w w' := by
  have hn : n ≤ c ∧ c ≤ 9223372036854775807 := ⟨hn0.1, hn0.2⟩
  clear hn0
  by_cases hbig : 1048576 < n
  · clear sl wf hT
    go_enter Tryd.func8, Tryd.ntmps8
    go_wp2
    go_ret
    exact ⟨rfl, Below.refl _ _⟩
  have hz := byte_rangeN wf
  clear wf
  go_enter Tryd.func8, Tryd.ntmps8
  go_wp2_with fail
  refine (DrawRequantizeMacro_any a c n zs _ hn.1 hn.2 sl hz).mono ?_
  rintro e w1 ⟨m, f, t, rfl, hm, hbd, hf0, hf1, ht0, ht1, E1⟩
  have Hl := Lib.hid (Mac.zs_len hm)
  have Hm := Lib.hid hm
  have Hbd := Lib.hid hbd
  have HS := Lib.hid (fun (w : World) => spec_RequantizeMacro_any m f t w hm)
  have HI := Lib.hid (fun (w : World) (hT : TabQ w) => impl_RequantizeMacro_any m f t w hT hm)
  have HI2 := Lib.hid (fun (w : World) (hT : TabQ w) => impl_RequantizeMacro_any m f f w hT hm)
  have Hrl := Lib.hid (Mac.zs_len (reqM_ok hm f t))
  have Hro := Lib.hid (reqM_ok hm f t)
  obtain ⟨R, hR⟩ : ∃ R, R = reqM m f t := ⟨_, rfl⟩
  rw [← hR] at HS HI Hrl Hro
  have HR := Lib.hid hR
  clear hR hm hbd sl hz
  -- the macroblock and its requantized form lie in boxes
  obtain ⟨q, hq⟩ : ∃ q, q = w1.heap.size := ⟨_, rfl⟩
  have Q2 := IB.new w1 33 (zl 71)
  have E2 := E1.trans (Ext.alloc w1 (.cells (ic (zl 71)) 33))
  have hqw := E1.size
  go_wp2_with (first | (refine wpList_iallocz 33 rfl rfl 71 zero_Macz ?_; (try simp only [World.size_alloc])) | (refine wpList_istore 33 _ _ rfl rfl Q2 0 71 rfl _ rfl m.zs rfl size_Macro Hl.out (by simp [zl]) ?_; intro w3 p3 g3; refine Hid.out ?_))
  rw [spl_all (by rw [Hl.out, zl_len])] at p3
  rw [← hq] at p3 g3 hqw ⊢
  have E3 : Ext w w3 := Ext.grown E2 g3 (fun k hk => by cases hk; omega)
  clear Q2 E2 g3 E1 hq
  refine Lib.hid ?_
  go_wp2_with (refine wpList_iload 33 _ rfl rfl p3 0 71 rfl _ Tryd.underlying33 rfl size_Macro (by rw [Hl.out]; omega) _ (by rw [sub_all _ _ Hl.out]) ?_)
  refine (HI.out _ (hT.ext E3)).mono ?_
  rintro e w4 ⟨rfl, e4⟩
  have p4 := p3.ext e4
  have E4 := E3.trans e4
  clear p3 E3 e4
  obtain ⟨u, hu⟩ : ∃ u, u = w4.heap.size := ⟨_, rfl⟩
  have Q5 := IB.new w4 33 (zl 71)
  have E5 := E4.trans (Ext.alloc w4 (.cells (ic (zl 71)) 33))
  have p5 := p4.alloc (.cells (ic (zl 71)) 33)
  have huw := E4.size
  have hqu := p4.lt
  go_wp2_with (first | (refine wpList_iallocz 33 rfl rfl 71 zero_Macz ?_; (try simp only [World.size_alloc])) | (refine wpList_istore 33 _ _ rfl rfl Q5 0 71 rfl _ rfl R.zs rfl size_Macro Hrl.out (by simp [zl]) ?_; intro w6 r6 g6; refine Hid.out ?_))
  rw [spl_all (by rw [Hrl.out, zl_len])] at r6
  rw [← hu] at r6 g6 huw hqu ⊢
  have E6 : Ext w w6 := Ext.grown E5 g6 (fun k hk => by cases hk; omega)
  have p6 := p5.gr g6 (by simp; omega)
  clear Q5 E5 p5 p4 E4 g6 hu
  refine Lib.hid ?_
  go_upto_region 5 with fail
  have hext : ∀ (i : Nat) (own : Value) (ys : Nat → Value) (wa wb : World), Ext wa wb → (match i with | 0 => own = .agg (ic R.zs) | 1 => own = .agg (ic m.zs) | 2 => own = .int .i64 f | 3 => own = .int .i64 t | 4 => own = .agg (ic R.zs) | 5 => own = .bool false | _ => True) → (match i with | 0 => own = .agg (ic R.zs) | 1 => own = .agg (ic m.zs) | 2 => own = .int .i64 f | 3 => own = .int .i64 t | 4 => own = .agg (ic R.zs) | 5 => own = .bool false | _ => True) := by
    intro i own ys wa wb e h
    match i, h with
    | 0, h => exact h
    | 1, h => exact h
    | 2, h => exact h
    | 3, h => exact h
    | 4, h => exact h
    | 5, h => exact h
    | _ + 6, _ => trivial
  have Hext := Lib.hid hext
  clear hext
  refine wp_region_inv2 (by kernel_rfl) [(23, 0), (24, 1), (25, 2), (26, 3), (27, 4), (28, 5)] [[], [], [], [], [1, 2, 3], [0, 1, 2, 3, 4]] (fun i own ys wx => match i with | 0 => own = .agg (ic R.zs) | 1 => own = .agg (ic m.zs) | 2 => own = .int .i64 f | 3 => own = .int .i64 t | 4 => own = .agg (ic R.zs) | 5 => own = .bool false | _ => True) (fun kx wx => Ext w6 wx) (by kernel_rfl) (by kernel_rfl) (by kernel_rfl) ?g0_r1 ?gop_r1 ?gend_r1
  case g0_r1 => exact Ext.drewN _ 1
  case gop_r1 =>
    refine ⟨?_, ?_, ?_, ?_, ?_, ?_, trivial⟩
    · intro kx xs wx hk hG hD hI Qo Kx hK hQo
      clear hD
      clear hI
      simp only [patchS, Nat.reduceAdd, Nat.reduceEqDiff, ↓reduceIte] at hQo ⊢
      have rx := r6.ext hG
      go_wp2_with (refine wpList_iload 33 _ rfl rfl rx 0 71 rfl _ Tryd.underlying33 rfl size_Macro (by rw [Hrl.out]; omega) _ (by rw [sub_all _ _ Hrl.out]) ?_)
      exact hK.out _ _ ⟨rfl, hG, fun _ _ _ _ _ _ h => h⟩
    · intro kx xs wx hk hG hD hI Qo Kx hK hQo
      clear hD
      clear hI
      simp only [patchS, Nat.reduceAdd, Nat.reduceEqDiff, ↓reduceIte] at hQo ⊢
      have px := p6.ext hG
      go_wp2_with (refine wpList_iload 33 _ rfl rfl px 0 71 rfl _ Tryd.underlying33 rfl size_Macro (by rw [Hl.out]; omega) _ (by rw [sub_all _ _ Hl.out]) ?_)
      exact hK.out _ _ ⟨rfl, hG, fun _ _ _ _ _ _ h => h⟩
    · intro kx xs wx hk hG hD hI Qo Kx hK hQo
      clear hD
      clear hI
      simp only [patchS, Nat.reduceAdd, Nat.reduceEqDiff, ↓reduceIte] at hQo ⊢
      go_wp2
      exact hK.out _ _ ⟨rfl, hG, fun _ _ _ _ _ _ h => h⟩
    · intro kx xs wx hk hG hD hI Qo Kx hK hQo
      clear hD
      clear hI
      simp only [patchS, Nat.reduceAdd, Nat.reduceEqDiff, ↓reduceIte] at hQo ⊢
      go_wp2
      exact hK.out _ _ ⟨rfl, hG, fun _ _ _ _ _ _ h => h⟩
    · intro kx xs wx hk hG hD hI Qo Kx hK hQo
      have d1 : (xs 1) = .agg (ic m.zs) := hD 1 rfl
      have d2 : (xs 2) = .int .i64 f := hD 2 rfl
      have d3 : (xs 3) = .int .i64 t := hD 3 rfl
      clear hD
      clear hI
      simp only [patchS, Nat.reduceAdd, Nat.reduceEqDiff, ↓reduceIte] at hQo ⊢
      generalize xs 1 = y1 at *
      generalize xs 2 = y2 at *
      generalize xs 3 = y3 at *
      subst d1
      subst d2
      subst d3
      go_wp2_with fail
      refine (HS.out _).mono ?_
      rintro e w7 ⟨rfl, e7⟩
      go_wp2
      exact hK.out _ _ ⟨rfl, hG.trans e7, fun i _ _ _ own ys h => Hext.out i own ys _ _ e7 h⟩
    · intro kx xs wx hk hG hD hI Qo Kx hK hQo
      have d0 : (xs 0) = .agg (ic R.zs) := hD 0 rfl
      have d4 : (xs 4) = .agg (ic R.zs) := hD 4 rfl
      clear hD
      clear hI
      simp only [patchS, Nat.reduceAdd, Nat.reduceEqDiff, ↓reduceIte] at hQo ⊢
      generalize xs 0 = y0 at *
      generalize xs 4 = y4 at *
      subst d0
      subst d4
      go_wp2_with (refine wpList_sneq 33 _ _ _ rfl rfl _ _ rfl rfl R.zs R.zs rfl rfl Tryd.underlying33 hpM (eqM Tryd.underlying33) Hrl.out Hrl.out hmM true (by simp) ?_)
      exact hK.out _ _ ⟨rfl, hG, fun _ _ _ _ _ _ h => h⟩
  clear Hext
  intro xs wx hV hG
  have d0 : (xs 0) = .agg (ic R.zs) := hV 0 (by decide)
  have d1 : (xs 1) = .agg (ic m.zs) := hV 1 (by decide)
  have d2 : (xs 2) = .int .i64 f := hV 2 (by decide)
  have d3 : (xs 3) = .int .i64 t := hV 3 (by decide)
  have d4 : (xs 4) = .agg (ic R.zs) := hV 4 (by decide)
  have d5 : (xs 5) = .bool false := hV 5 (by decide)
  clear hV
  simp only [patchS, Nat.reduceAdd, Nat.reduceEqDiff, ↓reduceIte]
  generalize xs 0 = y0 at *
  generalize xs 1 = y1 at *
  generalize xs 2 = y2 at *
  generalize xs 3 = y3 at *
  generalize xs 4 = y4 at *
  generalize xs 5 = y5 at *
  replace hG : Ext w6 wx := hG
  clear d0 d1 d2 d3 d4
  subst d5
  have E7 := E6.trans hG
  have p7 := p6.ext hG
  have r7 := r6.ext hG
  clear E6 p6 r6 hG
  generalize wx = w7 at *
  -- is the macroblock valid?
  go_wp2_with (refine wpList_iload 33 _ rfl rfl p7 0 71 rfl _ Tryd.underlying33 rfl size_Macro (by rw [Hl.out]; omega) _ (by rw [sub_all _ _ Hl.out]) ?_)
  refine (spec_MacroValid_any m _ Hm.out).mono ?_
  rintro e w8 ⟨rfl, e8⟩
  have E8 := E7.trans e8
  have p8 := p7.ext e8
  have r8 := r7.ext e8
  clear E7 p7 r7 e8
  by_cases hv : m.valid ∧ (0 ≤ f ∧ f ≤ 15) ∧ (0 ≤ t ∧ t ≤ 15)
  · obtain ⟨h1, hf, ht⟩ := hv
    rw [decide_eq_true h1]
    have hx := HR.out
    unfold reqM at hx
    rw [if_pos ⟨h1, hf, ht⟩] at hx
    obtain ⟨F, rfl⟩ : ∃ F : Nat, f = (F : Int) := ⟨f.toNat, by omega⟩
    obtain ⟨T, rfl⟩ : ∃ T : Nat, t = (T : Int) := ⟨t.toNat, by omega⟩
    rw [Int.toNat_natCast, Int.toNat_natCast] at hx
    have hF : F < 16 := by omega
    have hT16 : T < 16 := by omega
    have Hv := Lib.hid h1
    have Hrv := Lib.hid (done_valid Hm.out h1 (f := F) hT16)
    have Hfew := Lib.hid (fun k (hk : k < 4) => runs_fewer Hm.out (f := F) hT16 hk)
    have HI3 := Lib.hid (fun (h : smallL m F 64) (w : World) (hT : TabQ w) => by
      have h2 := HI2.out w hT
      unfold reqM at h2
      rw [if_pos ⟨h1, hf, hf⟩, Int.toNat_natCast, done_self Hm.out hF h] at h2
      exact h2)
    have hs := stp_rng hF
    have HRv := Lib.hid (show R.valid by rw [hx]; exact Hrv.out)
    have Hfew2 := Lib.hid (show ∀ k, k < 4 → (runsL (sub R.lv (k * 16) 16)).length ≤ (runsL (sub m.lv (k * 16) 16)).length by rw [hx]; exact Hfew.out)
    clear hx Hrv Hfew HI2 HR HI HS h1
    go_wp2_with fail
    go_loopw [7, 8, 9] (fun s i _ wr => ∃ k : Nat, k ≤ 4 ∧ i = .int .i64 k ∧ (∃ sb : Bool, s = .bool sb ∧ (sb = true → smallL m F (k * 16))) ∧ Ext w wr ∧ IB wr q 33 m.zs ∧ IB wr u 33 R.zs) (fun _ i _ _ => 4 - (intOf i).toNat)
    case atStart => exact ⟨0, by omega, rfl, ⟨true, rfl, fun _ j hj => by omega⟩, E8, p8, r8⟩
    case round =>
      obtain ⟨k, hk, rfl, ⟨sb, rfl, hsb⟩, E9, p9, r9⟩ := hrel
      clear E8 p8 r8
      have Hsb := Lib.hid hsb
      clear hsb
      by_cases hlt : k < 4
      · have hd4 : decide ((k : Int) < 4) = true := by simp; omega
        go_wp2_with fail
        go_loopw [7, 9] (fun s i wr2 => ∃ j : Nat, j ≤ 16 ∧ i = .int .i64 j ∧ (∃ sc : Bool, s = .bool sc ∧ (sc = true → smallL m F (k * 16 + j))) ∧ Ext w wr2 ∧ IB wr2 q 33 m.zs ∧ IB wr2 u 33 R.zs) (fun _ i _ => 16 - (intOf i).toNat)
        case atStart => exact ⟨0, by omega, rfl, ⟨sb, rfl, Hsb.out⟩, E9, p9, r9⟩
        case round =>
          obtain ⟨j, hj, rfl, ⟨sc, rfl, hsc⟩, E10, p10, r10⟩ := hrel
          clear E9 p9 r9
          have Hsc := Lib.hid hsc
          clear hsc
          by_cases hlt2 : j < 16
          · have hd16 : decide ((j : Int) < 16) = true := by simp; omega
            cases sc
            · go_wp2
              go_roundw
              case rel => exact ⟨j + 1, by omega, by go_num, ⟨false, rfl, fun h => by cases h⟩, E10, p10, r10⟩
              case measure => simp [intOf]; omega
            · have hn : k * 16 + j < 64 := by omega
              have hc := p10.cell (i := 7 + (k * 16 + j)) (by rw [Hl.out]; omega)
              have hb := Hbd.out (7 + (k * 16 + j)) (by rw [Hl.out]; omega)
              rw [Mac.nth_lv Hm.out _ hn] at hc hb
              rw [← Nat.add_assoc] at hc
              have hsm := fun h => smallL_succ (Hsc.out rfl) h
              have Hsm := Lib.hid hsm
              clear hsm
              generalize nth m.lv (k * 16 + j) = lv at *
              have hT10 := hT.ext E10
              have ha0 := absI_nn lv
              have ha1 : absI lv ≤ 10000 := by unfold absI; split <;> omega
              have hLa := Lib.hid (fun w => laws_abs_any lv w (by omega) (by omega))
              generalize absI lv = al at *
              have hLq := Lib.hid (impl_QuantStep_in F wr hT10 hF)
              generalize stp F = s at *
              have hp0 : 0 ≤ al * s := Int.mul_nonneg ha0 (by omega)
              have hp1 : al * s ≤ 5120000 := by
                have := Int.mul_le_mul ha1 hs.2 (by omega) (by omega)
                omega
              go_wp2_with fail
              refine (hLa.out _).mono ?_
              rintro e w11 ⟨rfl, rfl⟩
              go_wp2_with fail
              refine hLq.out.mono ?_
              rintro e w11 ⟨rfl, rfl⟩
              go_wp2
              go_roundw
              case rel => exact ⟨j + 1, by omega, by go_num, ⟨_, rfl, fun h => Hsm.out (of_decide_eq_true h)⟩, E10, p10, r10⟩
              case measure => simp [intOf]; omega
          · obtain rfl : j = 16 := by omega
            have hAB := Hfew2.out k hlt
            have hBm : bdI 10000 (sub m.lv (k * 16) 16) := by
              rw [← Mac.zs_blk Hm.out k hlt]; exact bdI_sub Hbd.out _ _ (by rw [Hl.out]; omega)
            have hBr : bdI 4080 (sub R.lv (k * 16) 16) := bdI_sub (fun j hj => inB_iff.1 HRv.out.2.2.2.2.2.2 j hj) _ _ (by rw [Hro.out.lv]; omega)
            have HNm := Lib.hid (fun w => NonzeroCount_any (sub m.lv (k * 16) 16) w (sub_len _ _ _ (by rw [Hm.out.lv]; omega)) 10000 hBm)
            have HNr := Lib.hid (fun w => NonzeroCount_any (sub R.lv (k * 16) 16) w (sub_len _ _ _ (by rw [Hro.out.lv]; omega)) 4080 hBr)
            have hlm := runsL_len (sub m.lv (k * 16) 16)
            have hlr := runsL_len (sub R.lv (k * 16) 16)
            have Bm := Lib.hid (Mac.zs_blk Hm.out k hlt)
            have Br := Lib.hid (Mac.zs_blk Hro.out k hlt)
            clear hBm hBr
            obtain ⟨Lm, hLm⟩ : ∃ Lm, Lm = sub m.lv (k * 16) 16 := ⟨_, rfl⟩
            obtain ⟨Lr, hLr⟩ : ∃ Lr, Lr = sub R.lv (k * 16) 16 := ⟨_, rfl⟩
            rw [← hLm] at HNm hlm hAB Bm
            rw [← hLr] at HNr hlr hAB Br
            clear hLm hLr
            generalize (runsL Lm).length = nB at *
            generalize (runsL Lr).length = nA at *
            have hd5 : decide (nB < nA) = false := by simpa using hAB
            go_upto_region 17 with fail
            have hext : ∀ (i : Nat) (own : Value) (ys : Nat → Value) (wa wb : World), Ext wa wb → (match i with | 0 => own = .int .i64 k | 1 => own = .pointer (some ⟨u, 7, none⟩) | 2 => own = .pointer (some ⟨u, 7 + k * 16, none⟩) | 3 => own = .agg (ic Lr) | 4 => own = .int .i64 (nA : Nat) | 5 => own = .int .i64 k | 6 => own = .pointer (some ⟨q, 7, none⟩) | 7 => own = .pointer (some ⟨q, 7 + k * 16, none⟩) | 8 => own = .agg (ic Lm) | 9 => own = .int .i64 (nB : Nat) | 10 => own = .bool false | _ => True) → (match i with | 0 => own = .int .i64 k | 1 => own = .pointer (some ⟨u, 7, none⟩) | 2 => own = .pointer (some ⟨u, 7 + k * 16, none⟩) | 3 => own = .agg (ic Lr) | 4 => own = .int .i64 (nA : Nat) | 5 => own = .int .i64 k | 6 => own = .pointer (some ⟨q, 7, none⟩) | 7 => own = .pointer (some ⟨q, 7 + k * 16, none⟩) | 8 => own = .agg (ic Lm) | 9 => own = .int .i64 (nB : Nat) | 10 => own = .bool false | _ => True) := by
              intro i own ys wa wb e h
              match i, h with
              | 0, h => exact h
              | 1, h => exact h
              | 2, h => exact h
              | 3, h => exact h
              | 4, h => exact h
              | 5, h => exact h
              | 6, h => exact h
              | 7, h => exact h
              | 8, h => exact h
              | 9, h => exact h
              | 10, h => exact h
              | _ + 11, _ => trivial
            have Hext := Lib.hid hext
            clear hext
            refine wp_region_inv2 (by kernel_rfl) [(76, 0), (77, 1), (78, 2), (79, 3), (80, 4), (81, 5), (82, 6), (83, 7), (84, 8), (85, 9), (86, 10)] [[], [], [0, 1], [0, 1, 2], [0, 1, 2, 3], [], [], [5, 6], [5, 6, 7], [0, 1, 2, 3, 4, 5, 6, 7, 8], [0, 1, 2, 3, 4, 5, 6, 7, 8, 9]] (fun i own ys wx => match i with | 0 => own = .int .i64 k | 1 => own = .pointer (some ⟨u, 7, none⟩) | 2 => own = .pointer (some ⟨u, 7 + k * 16, none⟩) | 3 => own = .agg (ic Lr) | 4 => own = .int .i64 (nA : Nat) | 5 => own = .int .i64 k | 6 => own = .pointer (some ⟨q, 7, none⟩) | 7 => own = .pointer (some ⟨q, 7 + k * 16, none⟩) | 8 => own = .agg (ic Lm) | 9 => own = .int .i64 (nB : Nat) | 10 => own = .bool false | _ => True) (fun kx wx => Ext wr wx) (by kernel_rfl) (by kernel_rfl) (by kernel_rfl) ?g0_r2 ?gop_r2 ?gend_r2
            case g0_r2 => exact Ext.drewN _ 1
            case gop_r2 =>
              refine ⟨?_, ?_, ?_, ?_, ?_, ?_, ?_, ?_, ?_, ?_, ?_, trivial⟩
              · intro kx xs wx hk hG hD hI Qo Kx hK hQo
                clear hD
                clear hI
                simp only [patchS, Nat.reduceAdd, Nat.reduceEqDiff, ↓reduceIte] at hQo ⊢
                go_wp2
                exact hK.out _ _ ⟨rfl, hG, fun _ _ _ _ _ _ h => h⟩
              · intro kx xs wx hk hG hD hI Qo Kx hK hQo
                clear hD
                clear hI
                simp only [patchS, Nat.reduceAdd, Nat.reduceEqDiff, ↓reduceIte] at hQo ⊢
                go_wp2
                exact hK.out _ _ ⟨rfl, hG, fun _ _ _ _ _ _ h => h⟩
              · intro kx xs wx hk hG hD hI Qo Kx hK hQo
                have d0 : (xs 0) = .int .i64 k := hD 0 rfl
                have d1 : (xs 1) = .pointer (some ⟨u, 7, none⟩) := hD 1 rfl
                clear hD
                clear hI
                simp only [patchS, Nat.reduceAdd, Nat.reduceEqDiff, ↓reduceIte] at hQo ⊢
                generalize xs 0 = y0 at *
                generalize xs 1 = y1 at *
                subst d0
                subst d1
                go_wp2
                exact hK.out _ _ ⟨rfl, hG, fun _ _ _ _ _ _ h => h⟩
              · intro kx xs wx hk hG hD hI Qo Kx hK hQo
                have d2 : (xs 2) = .pointer (some ⟨u, 7 + k * 16, none⟩) := hD 2 rfl
                clear hD
                clear hI
                simp only [patchS, Nat.reduceAdd, Nat.reduceEqDiff, ↓reduceIte] at hQo ⊢
                generalize xs 2 = y2 at *
                subst d2
                have rx := r10.ext hG
                go_wp2_with (refine wpList_iload 25 _ rfl rfl rx (7 + k * 16) 16 rfl _ Tryd.underlying25 rfl size_A16 (by rw [Hrl.out]; omega) _ (by rw [Br.out]) ?_)
                exact hK.out _ _ ⟨rfl, hG, fun _ _ _ _ _ _ h => h⟩
              · intro kx xs wx hk hG hD hI Qo Kx hK hQo
                have d3 : (xs 3) = .agg (ic Lr) := hD 3 rfl
                clear hD
                clear hI
                simp only [patchS, Nat.reduceAdd, Nat.reduceEqDiff, ↓reduceIte] at hQo ⊢
                generalize xs 3 = y3 at *
                subst d3
                go_wp2_with fail
                refine (HNr.out _).mono ?_
                rintro e w11 ⟨rfl, e11⟩
                go_wp2
                exact hK.out _ _ ⟨rfl, hG.trans e11, fun i _ _ _ own ys h => Hext.out i own ys _ _ e11 h⟩
              · intro kx xs wx hk hG hD hI Qo Kx hK hQo
                clear hD
                clear hI
                simp only [patchS, Nat.reduceAdd, Nat.reduceEqDiff, ↓reduceIte] at hQo ⊢
                go_wp2
                exact hK.out _ _ ⟨rfl, hG, fun _ _ _ _ _ _ h => h⟩
              · intro kx xs wx hk hG hD hI Qo Kx hK hQo
                clear hD
                clear hI
                simp only [patchS, Nat.reduceAdd, Nat.reduceEqDiff, ↓reduceIte] at hQo ⊢
                go_wp2
                exact hK.out _ _ ⟨rfl, hG, fun _ _ _ _ _ _ h => h⟩
              · intro kx xs wx hk hG hD hI Qo Kx hK hQo
                have d5 : (xs 5) = .int .i64 k := hD 5 rfl
                have d6 : (xs 6) = .pointer (some ⟨q, 7, none⟩) := hD 6 rfl
                clear hD
                clear hI
                simp only [patchS, Nat.reduceAdd, Nat.reduceEqDiff, ↓reduceIte] at hQo ⊢
                generalize xs 5 = y5 at *
                generalize xs 6 = y6 at *
                subst d5
                subst d6
                go_wp2
                exact hK.out _ _ ⟨rfl, hG, fun _ _ _ _ _ _ h => h⟩
              · intro kx xs wx hk hG hD hI Qo Kx hK hQo
                have d7 : (xs 7) = .pointer (some ⟨q, 7 + k * 16, none⟩) := hD 7 rfl
                clear hD
                clear hI
                simp only [patchS, Nat.reduceAdd, Nat.reduceEqDiff, ↓reduceIte] at hQo ⊢
                generalize xs 7 = y7 at *
                subst d7
                have px := p10.ext hG
                go_wp2_with (refine wpList_iload 25 _ rfl rfl px (7 + k * 16) 16 rfl _ Tryd.underlying25 rfl size_A16 (by rw [Hl.out]; omega) _ (by rw [Bm.out]) ?_)
                exact hK.out _ _ ⟨rfl, hG, fun _ _ _ _ _ _ h => h⟩
              · intro kx xs wx hk hG hD hI Qo Kx hK hQo
                have d8 : (xs 8) = .agg (ic Lm) := hD 8 rfl
                clear hD
                clear hI
                simp only [patchS, Nat.reduceAdd, Nat.reduceEqDiff, ↓reduceIte] at hQo ⊢
                generalize xs 8 = y8 at *
                subst d8
                go_wp2_with fail
                refine (HNm.out _).mono ?_
                rintro e w11 ⟨rfl, e11⟩
                go_wp2
                exact hK.out _ _ ⟨rfl, hG.trans e11, fun i _ _ _ own ys h => Hext.out i own ys _ _ e11 h⟩
              · intro kx xs wx hk hG hD hI Qo Kx hK hQo
                have d4 : (xs 4) = .int .i64 (nA : Nat) := hD 4 rfl
                have d9 : (xs 9) = .int .i64 (nB : Nat) := hD 9 rfl
                clear hD
                clear hI
                simp only [patchS, Nat.reduceAdd, Nat.reduceEqDiff, ↓reduceIte] at hQo ⊢
                generalize xs 4 = y4 at *
                generalize xs 9 = y9 at *
                subst d4
                subst d9
                go_wp2
                exact hK.out _ _ ⟨rfl, hG, fun _ _ _ _ _ _ h => h⟩
            clear Hext
            intro xs wx hV hG
            have d0 : (xs 0) = .int .i64 k := hV 0 (by decide)
            have d1 : (xs 1) = .pointer (some ⟨u, 7, none⟩) := hV 1 (by decide)
            have d2 : (xs 2) = .pointer (some ⟨u, 7 + k * 16, none⟩) := hV 2 (by decide)
            have d3 : (xs 3) = .agg (ic Lr) := hV 3 (by decide)
            have d4 : (xs 4) = .int .i64 (nA : Nat) := hV 4 (by decide)
            have d5 : (xs 5) = .int .i64 k := hV 5 (by decide)
            have d6 : (xs 6) = .pointer (some ⟨q, 7, none⟩) := hV 6 (by decide)
            have d7 : (xs 7) = .pointer (some ⟨q, 7 + k * 16, none⟩) := hV 7 (by decide)
            have d8 : (xs 8) = .agg (ic Lm) := hV 8 (by decide)
            have d9 : (xs 9) = .int .i64 (nB : Nat) := hV 9 (by decide)
            have d10 : (xs 10) = .bool false := hV 10 (by decide)
            clear hV
            simp only [patchS, Nat.reduceAdd, Nat.reduceEqDiff, ↓reduceIte]
            generalize xs 0 = y0 at *
            generalize xs 1 = y1 at *
            generalize xs 2 = y2 at *
            generalize xs 3 = y3 at *
            generalize xs 4 = y4 at *
            generalize xs 5 = y5 at *
            generalize xs 6 = y6 at *
            generalize xs 7 = y7 at *
            generalize xs 8 = y8 at *
            generalize xs 9 = y9 at *
            generalize xs 10 = y10 at *
            replace hG : Ext wr wx := hG
            clear d0 d1 d2 d3 d4 d5 d6 d7 d8 d9
            subst d10
            have E12 := E10.trans hG
            have p12 := p10.ext hG
            have r12 := r10.ext hG
            clear E10 p10 r10 hG
            go_wp2
            go_roundw
            case rel => exact ⟨k + 1, by omega, by go_num, ⟨sc, rfl, fun h => by have := Hsc.out h; rwa [Nat.succ_mul]⟩, E12, p12, r12⟩
            case measure => simp [intOf]; omega
      · obtain rfl : k = 4 := by omega
        have HV := Lib.hid (fun (w : World) => impl_MacroValid_any R w Hro.out)
        cases sb
        · go_upto_region 19 with fail
          have hext : ∀ (i : Nat) (own : Value) (ys : Nat → Value) (wa wb : World), Ext wa wb → (match i with | 0 => own = .agg (ic R.zs) | 1 => own = .bool true | 2 => own = .bool true | 3 => own = .bool false | 4 => own = .bool true | 5 => own = .bool true | 6 => True | 7 => True | 8 => True | 9 => True | 10 => True | 11 => True | 12 => own = .bool true | 13 => own = .bool true | 14 => own = .bool true | _ => True) → (match i with | 0 => own = .agg (ic R.zs) | 1 => own = .bool true | 2 => own = .bool true | 3 => own = .bool false | 4 => own = .bool true | 5 => own = .bool true | 6 => True | 7 => True | 8 => True | 9 => True | 10 => True | 11 => True | 12 => own = .bool true | 13 => own = .bool true | 14 => own = .bool true | _ => True) := by
            intro i own ys wa wb e h
            match i, h with
            | 0, h => exact h
            | 1, h => exact h
            | 2, h => exact h
            | 3, h => exact h
            | 4, h => exact h
            | 5, h => exact h
            | 6, h => exact h
            | 7, h => exact h
            | 8, h => exact h
            | 9, h => exact h
            | 10, h => exact h
            | 11, h => exact h
            | 12, h => exact h
            | 13, h => exact h
            | 14, h => exact h
            | _ + 15, _ => trivial
          have Hext := Lib.hid hext
          clear hext
          refine wp_region_inv2 (by kernel_rfl) [(2, 14), (87, 0), (88, 1), (89, 2), (90, 3), (91, 4), (92, 5), (93, 6), (94, 7), (95, 8), (96, 9), (97, 10), (98, 11), (99, 12), (100, 13)] [[], [0], [0, 1], [0, 1, 2], [0, 1, 2, 3], [0, 1, 2, 3, 4], [0, 1, 2, 3, 4, 5], [0, 1, 2, 3, 4, 5], [0, 1, 2, 3, 4, 5], [0, 1, 2, 3, 4, 5, 6, 7, 8], [0, 1, 2, 3, 4, 5], [0, 1, 2, 3, 4, 5, 6, 7, 8, 9, 10], [0, 1, 2, 3, 4, 5, 6, 7, 8, 9, 10, 11], [0, 1, 2, 3, 4, 5, 6, 7, 8, 9, 10, 11, 12], [0, 1, 2, 3, 4, 5, 6, 7, 8, 9, 10, 11, 12, 13]] (fun i own ys wx => match i with | 0 => own = .agg (ic R.zs) | 1 => own = .bool true | 2 => own = .bool true | 3 => own = .bool false | 4 => own = .bool true | 5 => own = .bool true | 6 => True | 7 => True | 8 => True | 9 => True | 10 => True | 11 => True | 12 => own = .bool true | 13 => own = .bool true | 14 => own = .bool true | _ => True) (fun kx wx => Ext wr wx) (by kernel_rfl) (by kernel_rfl) (by kernel_rfl) ?g0_r3 ?gop_r3 ?gend_r3
          case g0_r3 => exact Ext.drewN _ 1
          case gop_r3 =>
            refine ⟨?_, ?_, ?_, ?_, ?_, ?_, ?_, ?_, ?_, ?_, ?_, ?_, ?_, ?_, ?_, trivial⟩
            · intro kx xs wx hk hG hD hI Qo Kx hK hQo
              clear hD
              clear hI
              simp only [patchS, Nat.reduceAdd, Nat.reduceEqDiff, ↓reduceIte] at hQo ⊢
              have rx := r9.ext hG
              go_wp2_with (refine wpList_iload 33 _ rfl rfl rx 0 71 rfl _ Tryd.underlying33 rfl size_Macro (by rw [Hrl.out]; omega) _ (by rw [sub_all _ _ Hrl.out]) ?_)
              exact hK.out _ _ ⟨rfl, hG, fun _ _ _ _ _ _ h => h⟩
            · intro kx xs wx hk hG hD hI Qo Kx hK hQo
              have d0 : (xs 0) = .agg (ic R.zs) := hD 0 rfl
              clear hD
              clear hI
              simp only [patchS, Nat.reduceAdd, Nat.reduceEqDiff, ↓reduceIte] at hQo ⊢
              generalize xs 0 = y0 at *
              subst d0
              go_wp2_with fail
              refine (HV.out _).mono ?_
              rw [decide_eq_true HRv.out]
              rintro e w11 ⟨rfl, e11⟩
              go_wp2
              exact hK.out _ _ ⟨rfl, hG.trans e11, fun i _ _ _ own ys h => Hext.out i own ys _ _ e11 h⟩
            · intro kx xs wx hk hG hD hI Qo Kx hK hQo
              have d1 : (xs 1) = .bool true := hD 1 rfl
              clear hD
              clear hI
              simp only [patchS, Nat.reduceAdd, Nat.reduceEqDiff, ↓reduceIte] at hQo ⊢
              generalize xs 1 = y1 at *
              subst d1
              go_wp2
              exact hK.out _ _ ⟨rfl, hG, fun _ _ _ _ _ _ h => h⟩
            · intro kx xs wx hk hG hD hI Qo Kx hK hQo
              have d2 : (xs 2) = .bool true := hD 2 rfl
              clear hD
              clear hI
              simp only [patchS, Nat.reduceAdd, Nat.reduceEqDiff, ↓reduceIte] at hQo ⊢
              generalize xs 2 = y2 at *
              subst d2
              go_wp2
              exact hK.out _ _ ⟨rfl, hG, fun _ _ _ _ _ _ h => h⟩
            · intro kx xs wx hk hG hD hI Qo Kx hK hQo
              have d3 : (xs 3) = .bool false := hD 3 rfl
              have d2 : (xs 2) = .bool true := hD 2 rfl
              clear hD
              clear hI
              simp only [patchS, Nat.reduceAdd, Nat.reduceEqDiff, ↓reduceIte] at hQo ⊢
              generalize xs 3 = y3 at *
              generalize xs 2 = y2 at *
              subst d3
              subst d2
              go_wp2
              exact hK.out _ _ ⟨rfl, hG, fun _ _ _ _ _ _ h => h⟩
            · intro kx xs wx hk hG hD hI Qo Kx hK hQo
              have d4 : (xs 4) = .bool true := hD 4 rfl
              have d2 : (xs 2) = .bool true := hD 2 rfl
              clear hD
              clear hI
              simp only [patchS, Nat.reduceAdd, Nat.reduceEqDiff, ↓reduceIte] at hQo ⊢
              generalize xs 4 = y4 at *
              generalize xs 2 = y2 at *
              subst d4
              subst d2
              go_wp2
              exact hK.out _ _ ⟨rfl, hG, fun _ _ _ _ _ _ h => h⟩
            · intro kx xs wx hk hG hD hI Qo Kx hK hQo
              have d5 : (xs 5) = .bool true := hD 5 rfl
              clear hD
              clear hI
              simp only [patchS, Nat.reduceAdd, Nat.reduceEqDiff, ↓reduceIte] at hQo ⊢
              generalize xs 5 = y5 at *
              subst d5
              go_wp2
              exact hK.out _ _ ⟨trivial, hG, fun _ _ _ _ _ _ h => h⟩
            · intro kx xs wx hk hG hD hI Qo Kx hK hQo
              have d5 : (xs 5) = .bool true := hD 5 rfl
              clear hD
              clear hI
              simp only [patchS, Nat.reduceAdd, Nat.reduceEqDiff, ↓reduceIte] at hQo ⊢
              generalize xs 5 = y5 at *
              subst d5
              go_wp2
              exact hK.out _ _ ⟨trivial, hG, fun _ _ _ _ _ _ h => h⟩
            · intro kx xs wx hk hG hD hI Qo Kx hK hQo
              have d5 : (xs 5) = .bool true := hD 5 rfl
              clear hD
              clear hI
              simp only [patchS, Nat.reduceAdd, Nat.reduceEqDiff, ↓reduceIte] at hQo ⊢
              generalize xs 5 = y5 at *
              subst d5
              go_wp2
              exact hK.out _ _ ⟨trivial, hG, fun _ _ _ _ _ _ h => h⟩
            · intro kx xs wx hk hG hD hI Qo Kx hK hQo
              have d6 : True := hD 6 rfl
              have d7 : True := hD 7 rfl
              have d8 : True := hD 8 rfl
              have d5 : (xs 5) = .bool true := hD 5 rfl
              clear hD
              clear hI
              simp only [patchS, Nat.reduceAdd, Nat.reduceEqDiff, ↓reduceIte] at hQo ⊢
              generalize xs 6 = y6 at *
              generalize xs 7 = y7 at *
              generalize xs 8 = y8 at *
              generalize xs 5 = y5 at *
              subst d5
              go_wp2
              exact hK.out _ _ ⟨trivial, hG, fun _ _ _ _ _ _ h => h⟩
            · intro kx xs wx hk hG hD hI Qo Kx hK hQo
              have d5 : (xs 5) = .bool true := hD 5 rfl
              clear hD
              clear hI
              simp only [patchS, Nat.reduceAdd, Nat.reduceEqDiff, ↓reduceIte] at hQo ⊢
              generalize xs 5 = y5 at *
              subst d5
              go_wp2
              exact hK.out _ _ ⟨trivial, hG, fun _ _ _ _ _ _ h => h⟩
            · intro kx xs wx hk hG hD hI Qo Kx hK hQo
              have d9 : True := hD 9 rfl
              have d10 : True := hD 10 rfl
              have d5 : (xs 5) = .bool true := hD 5 rfl
              clear hD
              clear hI
              simp only [patchS, Nat.reduceAdd, Nat.reduceEqDiff, ↓reduceIte] at hQo ⊢
              generalize xs 9 = y9 at *
              generalize xs 10 = y10 at *
              generalize xs 5 = y5 at *
              subst d5
              go_wp2
              exact hK.out _ _ ⟨trivial, hG, fun _ _ _ _ _ _ h => h⟩
            · intro kx xs wx hk hG hD hI Qo Kx hK hQo
              have d5 : (xs 5) = .bool true := hD 5 rfl
              have d11 : True := hD 11 rfl
              have d2 : (xs 2) = .bool true := hD 2 rfl
              clear hD
              clear hI
              simp only [patchS, Nat.reduceAdd, Nat.reduceEqDiff, ↓reduceIte] at hQo ⊢
              generalize xs 5 = y5 at *
              generalize xs 11 = y11 at *
              generalize xs 2 = y2 at *
              subst d5
              subst d2
              go_wp2
              exact hK.out _ _ ⟨rfl, hG, fun _ _ _ _ _ _ h => h⟩
            · intro kx xs wx hk hG hD hI Qo Kx hK hQo
              have d2 : (xs 2) = .bool true := hD 2 rfl
              have d12 : (xs 12) = .bool true := hD 12 rfl
              clear hD
              clear hI
              simp only [patchS, Nat.reduceAdd, Nat.reduceEqDiff, ↓reduceIte] at hQo ⊢
              generalize xs 2 = y2 at *
              generalize xs 12 = y12 at *
              subst d2
              subst d12
              go_wp2
              exact hK.out _ _ ⟨rfl, hG, fun _ _ _ _ _ _ h => h⟩
            · intro kx xs wx hk hG hD hI Qo Kx hK hQo
              have d13 : (xs 13) = .bool true := hD 13 rfl
              clear hD
              clear hI
              simp only [patchS, Nat.reduceAdd, Nat.reduceEqDiff, ↓reduceIte] at hQo ⊢
              generalize xs 13 = y13 at *
              subst d13
              go_wp2
              exact hK.out _ _ ⟨rfl, hG, fun _ _ _ _ _ _ h => h⟩
          clear Hext
          intro xs wx hV hG
          have d0 : (xs 0) = .agg (ic R.zs) := hV 0 (by decide)
          have d1 : (xs 1) = .bool true := hV 1 (by decide)
          have d2 : (xs 2) = .bool true := hV 2 (by decide)
          have d3 : (xs 3) = .bool false := hV 3 (by decide)
          have d4 : (xs 4) = .bool true := hV 4 (by decide)
          have d5 : (xs 5) = .bool true := hV 5 (by decide)
          have d12 : (xs 12) = .bool true := hV 12 (by decide)
          have d13 : (xs 13) = .bool true := hV 13 (by decide)
          have d14 : (xs 14) = .bool true := hV 14 (by decide)
          clear hV
          simp only [patchS, Nat.reduceAdd, Nat.reduceEqDiff, ↓reduceIte]
          generalize xs 0 = y0 at *
          generalize xs 1 = y1 at *
          generalize xs 2 = y2 at *
          generalize xs 3 = y3 at *
          generalize xs 4 = y4 at *
          generalize xs 5 = y5 at *
          generalize xs 6 = y6 at *
          generalize xs 7 = y7 at *
          generalize xs 8 = y8 at *
          generalize xs 9 = y9 at *
          generalize xs 10 = y10 at *
          generalize xs 11 = y11 at *
          generalize xs 12 = y12 at *
          generalize xs 13 = y13 at *
          generalize xs 14 = y14 at *
          replace hG : Ext wr wx := hG
          clear d0 d1 d2 d3 d4 d5 d12 d13
          subst d14
          go_wp2
          go_ret
          exact ⟨rfl, E9.trans hG⟩
        · have HJ := Lib.hid (HI3.out (Hsb.out rfl))
          go_upto_region 19 with fail
          have hext : ∀ (i : Nat) (own : Value) (ys : Nat → Value) (wa wb : World), Ext wa wb → (match i with | 0 => own = .agg (ic R.zs) | 1 => own = .bool true | 2 => own = .bool true | 3 => own = .bool true | 4 => own = .bool false | 5 => own = .bool false | 6 => own = .agg (ic m.zs) | 7 => own = .int .i64 F | 8 => own = .int .i64 F | 9 => own = .agg (ic m.zs) | 10 => own = .agg (ic m.zs) | 11 => own = .bool true | 12 => own = .bool true | 13 => own = .bool true | 14 => own = .bool true | _ => True) → (match i with | 0 => own = .agg (ic R.zs) | 1 => own = .bool true | 2 => own = .bool true | 3 => own = .bool true | 4 => own = .bool false | 5 => own = .bool false | 6 => own = .agg (ic m.zs) | 7 => own = .int .i64 F | 8 => own = .int .i64 F | 9 => own = .agg (ic m.zs) | 10 => own = .agg (ic m.zs) | 11 => own = .bool true | 12 => own = .bool true | 13 => own = .bool true | 14 => own = .bool true | _ => True) := by
            intro i own ys wa wb e h
            match i, h with
            | 0, h => exact h
            | 1, h => exact h
            | 2, h => exact h
            | 3, h => exact h
            | 4, h => exact h
            | 5, h => exact h
            | 6, h => exact h
            | 7, h => exact h
            | 8, h => exact h
            | 9, h => exact h
            | 10, h => exact h
            | 11, h => exact h
            | 12, h => exact h
            | 13, h => exact h
            | 14, h => exact h
            | _ + 15, _ => trivial
          have Hext := Lib.hid hext
          clear hext
          refine wp_region_inv2 (by kernel_rfl) [(2, 14), (87, 0), (88, 1), (89, 2), (90, 3), (91, 4), (92, 5), (93, 6), (94, 7), (95, 8), (96, 9), (97, 10), (98, 11), (99, 12), (100, 13)] [[], [0], [0, 1], [0, 1, 2], [0, 1, 2, 3], [0, 1, 2, 3, 4], [0, 1, 2, 3, 4, 5], [0, 1, 2, 3, 4, 5], [0, 1, 2, 3, 4, 5], [0, 1, 2, 3, 4, 5, 6, 7, 8], [0, 1, 2, 3, 4, 5], [0, 1, 2, 3, 4, 5, 6, 7, 8, 9, 10], [0, 1, 2, 3, 4, 5, 6, 7, 8, 9, 10, 11], [0, 1, 2, 3, 4, 5, 6, 7, 8, 9, 10, 11, 12], [0, 1, 2, 3, 4, 5, 6, 7, 8, 9, 10, 11, 12, 13]] (fun i own ys wx => match i with | 0 => own = .agg (ic R.zs) | 1 => own = .bool true | 2 => own = .bool true | 3 => own = .bool true | 4 => own = .bool false | 5 => own = .bool false | 6 => own = .agg (ic m.zs) | 7 => own = .int .i64 F | 8 => own = .int .i64 F | 9 => own = .agg (ic m.zs) | 10 => own = .agg (ic m.zs) | 11 => own = .bool true | 12 => own = .bool true | 13 => own = .bool true | 14 => own = .bool true | _ => True) (fun kx wx => Ext wr wx) (by kernel_rfl) (by kernel_rfl) (by kernel_rfl) ?g0_r4 ?gop_r4 ?gend_r4
          case g0_r4 => exact Ext.drewN _ 1
          case gop_r4 =>
            refine ⟨?_, ?_, ?_, ?_, ?_, ?_, ?_, ?_, ?_, ?_, ?_, ?_, ?_, ?_, ?_, trivial⟩
            · intro kx xs wx hk hG hD hI Qo Kx hK hQo
              clear hD
              clear hI
              simp only [patchS, Nat.reduceAdd, Nat.reduceEqDiff, ↓reduceIte] at hQo ⊢
              have rx := r9.ext hG
              go_wp2_with (refine wpList_iload 33 _ rfl rfl rx 0 71 rfl _ Tryd.underlying33 rfl size_Macro (by rw [Hrl.out]; omega) _ (by rw [sub_all _ _ Hrl.out]) ?_)
              exact hK.out _ _ ⟨rfl, hG, fun _ _ _ _ _ _ h => h⟩
            · intro kx xs wx hk hG hD hI Qo Kx hK hQo
              have d0 : (xs 0) = .agg (ic R.zs) := hD 0 rfl
              clear hD
              clear hI
              simp only [patchS, Nat.reduceAdd, Nat.reduceEqDiff, ↓reduceIte] at hQo ⊢
              generalize xs 0 = y0 at *
              subst d0
              go_wp2_with fail
              refine (HV.out _).mono ?_
              rw [decide_eq_true HRv.out]
              rintro e w11 ⟨rfl, e11⟩
              go_wp2
              exact hK.out _ _ ⟨rfl, hG.trans e11, fun i _ _ _ own ys h => Hext.out i own ys _ _ e11 h⟩
            · intro kx xs wx hk hG hD hI Qo Kx hK hQo
              have d1 : (xs 1) = .bool true := hD 1 rfl
              clear hD
              clear hI
              simp only [patchS, Nat.reduceAdd, Nat.reduceEqDiff, ↓reduceIte] at hQo ⊢
              generalize xs 1 = y1 at *
              subst d1
              go_wp2
              exact hK.out _ _ ⟨rfl, hG, fun _ _ _ _ _ _ h => h⟩
            · intro kx xs wx hk hG hD hI Qo Kx hK hQo
              have d2 : (xs 2) = .bool true := hD 2 rfl
              clear hD
              clear hI
              simp only [patchS, Nat.reduceAdd, Nat.reduceEqDiff, ↓reduceIte] at hQo ⊢
              generalize xs 2 = y2 at *
              subst d2
              go_wp2
              exact hK.out _ _ ⟨rfl, hG, fun _ _ _ _ _ _ h => h⟩
            · intro kx xs wx hk hG hD hI Qo Kx hK hQo
              have d3 : (xs 3) = .bool true := hD 3 rfl
              have d2 : (xs 2) = .bool true := hD 2 rfl
              clear hD
              clear hI
              simp only [patchS, Nat.reduceAdd, Nat.reduceEqDiff, ↓reduceIte] at hQo ⊢
              generalize xs 3 = y3 at *
              generalize xs 2 = y2 at *
              subst d3
              subst d2
              go_wp2
              exact hK.out _ _ ⟨rfl, hG, fun _ _ _ _ _ _ h => h⟩
            · intro kx xs wx hk hG hD hI Qo Kx hK hQo
              have d4 : (xs 4) = .bool false := hD 4 rfl
              have d2 : (xs 2) = .bool true := hD 2 rfl
              clear hD
              clear hI
              simp only [patchS, Nat.reduceAdd, Nat.reduceEqDiff, ↓reduceIte] at hQo ⊢
              generalize xs 4 = y4 at *
              generalize xs 2 = y2 at *
              subst d4
              subst d2
              go_wp2
              exact hK.out _ _ ⟨rfl, hG, fun _ _ _ _ _ _ h => h⟩
            · intro kx xs wx hk hG hD hI Qo Kx hK hQo
              have d5 : (xs 5) = .bool false := hD 5 rfl
              clear hD
              clear hI
              simp only [patchS, Nat.reduceAdd, Nat.reduceEqDiff, ↓reduceIte] at hQo ⊢
              generalize xs 5 = y5 at *
              subst d5
              have px := p9.ext hG
              go_wp2_with (refine wpList_iload 33 _ rfl rfl px 0 71 rfl _ Tryd.underlying33 rfl size_Macro (by rw [Hl.out]; omega) _ (by rw [sub_all _ _ Hl.out]) ?_)
              exact hK.out _ _ ⟨rfl, hG, fun _ _ _ _ _ _ h => h⟩
            · intro kx xs wx hk hG hD hI Qo Kx hK hQo
              have d5 : (xs 5) = .bool false := hD 5 rfl
              clear hD
              clear hI
              simp only [patchS, Nat.reduceAdd, Nat.reduceEqDiff, ↓reduceIte] at hQo ⊢
              generalize xs 5 = y5 at *
              subst d5
              go_wp2
              exact hK.out _ _ ⟨rfl, hG, fun _ _ _ _ _ _ h => h⟩
            · intro kx xs wx hk hG hD hI Qo Kx hK hQo
              have d5 : (xs 5) = .bool false := hD 5 rfl
              clear hD
              clear hI
              simp only [patchS, Nat.reduceAdd, Nat.reduceEqDiff, ↓reduceIte] at hQo ⊢
              generalize xs 5 = y5 at *
              subst d5
              go_wp2
              exact hK.out _ _ ⟨rfl, hG, fun _ _ _ _ _ _ h => h⟩
            · intro kx xs wx hk hG hD hI Qo Kx hK hQo
              have d6 : (xs 6) = .agg (ic m.zs) := hD 6 rfl
              have d7 : (xs 7) = .int .i64 F := hD 7 rfl
              have d8 : (xs 8) = .int .i64 F := hD 8 rfl
              have d5 : (xs 5) = .bool false := hD 5 rfl
              clear hD
              clear hI
              simp only [patchS, Nat.reduceAdd, Nat.reduceEqDiff, ↓reduceIte] at hQo ⊢
              generalize xs 6 = y6 at *
              generalize xs 7 = y7 at *
              generalize xs 8 = y8 at *
              generalize xs 5 = y5 at *
              subst d6
              subst d7
              subst d8
              subst d5
              go_wp2_with fail
              refine (HJ.out _ (hT.ext (E9.trans hG))).mono ?_
              rintro e w11 ⟨rfl, e11⟩
              go_wp2
              exact hK.out _ _ ⟨rfl, hG.trans e11, fun i _ _ _ own ys h => Hext.out i own ys _ _ e11 h⟩
            · intro kx xs wx hk hG hD hI Qo Kx hK hQo
              have d5 : (xs 5) = .bool false := hD 5 rfl
              clear hD
              clear hI
              simp only [patchS, Nat.reduceAdd, Nat.reduceEqDiff, ↓reduceIte] at hQo ⊢
              generalize xs 5 = y5 at *
              subst d5
              have px := p9.ext hG
              go_wp2_with (refine wpList_iload 33 _ rfl rfl px 0 71 rfl _ Tryd.underlying33 rfl size_Macro (by rw [Hl.out]; omega) _ (by rw [sub_all _ _ Hl.out]) ?_)
              exact hK.out _ _ ⟨rfl, hG, fun _ _ _ _ _ _ h => h⟩
            · intro kx xs wx hk hG hD hI Qo Kx hK hQo
              have d9 : (xs 9) = .agg (ic m.zs) := hD 9 rfl
              have d10 : (xs 10) = .agg (ic m.zs) := hD 10 rfl
              have d5 : (xs 5) = .bool false := hD 5 rfl
              clear hD
              clear hI
              simp only [patchS, Nat.reduceAdd, Nat.reduceEqDiff, ↓reduceIte] at hQo ⊢
              generalize xs 9 = y9 at *
              generalize xs 10 = y10 at *
              generalize xs 5 = y5 at *
              subst d9
              subst d10
              subst d5
              go_wp2_with (refine wpList_seql 33 _ _ _ rfl rfl _ _ rfl rfl m.zs m.zs rfl rfl Tryd.underlying33 hpM (eqM Tryd.underlying33) Hl.out Hl.out hmM true (by simp) ?_)
              exact hK.out _ _ ⟨rfl, hG, fun _ _ _ _ _ _ h => h⟩
            · intro kx xs wx hk hG hD hI Qo Kx hK hQo
              have d5 : (xs 5) = .bool false := hD 5 rfl
              have d11 : (xs 11) = .bool true := hD 11 rfl
              have d2 : (xs 2) = .bool true := hD 2 rfl
              clear hD
              clear hI
              simp only [patchS, Nat.reduceAdd, Nat.reduceEqDiff, ↓reduceIte] at hQo ⊢
              generalize xs 5 = y5 at *
              generalize xs 11 = y11 at *
              generalize xs 2 = y2 at *
              subst d5
              subst d11
              subst d2
              go_wp2
              exact hK.out _ _ ⟨rfl, hG, fun _ _ _ _ _ _ h => h⟩
            · intro kx xs wx hk hG hD hI Qo Kx hK hQo
              have d2 : (xs 2) = .bool true := hD 2 rfl
              have d12 : (xs 12) = .bool true := hD 12 rfl
              clear hD
              clear hI
              simp only [patchS, Nat.reduceAdd, Nat.reduceEqDiff, ↓reduceIte] at hQo ⊢
              generalize xs 2 = y2 at *
              generalize xs 12 = y12 at *
              subst d2
              subst d12
              go_wp2
              exact hK.out _ _ ⟨rfl, hG, fun _ _ _ _ _ _ h => h⟩
            · intro kx xs wx hk hG hD hI Qo Kx hK hQo
              have d13 : (xs 13) = .bool true := hD 13 rfl
              clear hD
              clear hI
              simp only [patchS, Nat.reduceAdd, Nat.reduceEqDiff, ↓reduceIte] at hQo ⊢
              generalize xs 13 = y13 at *
              subst d13
              go_wp2
              exact hK.out _ _ ⟨rfl, hG, fun _ _ _ _ _ _ h => h⟩
          clear Hext
          intro xs wx hV hG
          have d0 : (xs 0) = .agg (ic R.zs) := hV 0 (by decide)
          have d1 : (xs 1) = .bool true := hV 1 (by decide)
          have d2 : (xs 2) = .bool true := hV 2 (by decide)
          have d3 : (xs 3) = .bool true := hV 3 (by decide)
          have d4 : (xs 4) = .bool false := hV 4 (by decide)
          have d5 : (xs 5) = .bool false := hV 5 (by decide)
          have d6 : (xs 6) = .agg (ic m.zs) := hV 6 (by decide)
          have d7 : (xs 7) = .int .i64 F := hV 7 (by decide)
          have d8 : (xs 8) = .int .i64 F := hV 8 (by decide)
          have d9 : (xs 9) = .agg (ic m.zs) := hV 9 (by decide)
          have d10 : (xs 10) = .agg (ic m.zs) := hV 10 (by decide)
          have d11 : (xs 11) = .bool true := hV 11 (by decide)
          have d12 : (xs 12) = .bool true := hV 12 (by decide)
          have d13 : (xs 13) = .bool true := hV 13 (by decide)
          have d14 : (xs 14) = .bool true := hV 14 (by decide)
          clear hV
          simp only [patchS, Nat.reduceAdd, Nat.reduceEqDiff, ↓reduceIte]
          generalize xs 0 = y0 at *
          generalize xs 1 = y1 at *
          generalize xs 2 = y2 at *
          generalize xs 3 = y3 at *
          generalize xs 4 = y4 at *
          generalize xs 5 = y5 at *
          generalize xs 6 = y6 at *
          generalize xs 7 = y7 at *
          generalize xs 8 = y8 at *
          generalize xs 9 = y9 at *
          generalize xs 10 = y10 at *
          generalize xs 11 = y11 at *
          generalize xs 12 = y12 at *
          generalize xs 13 = y13 at *
          generalize xs 14 = y14 at *
          replace hG : Ext wr wx := hG
          clear d0 d1 d2 d3 d4 d5 d6 d7 d8 d9 d10 d11 d12 d13
          subst d14
          go_wp2
          go_ret
          exact ⟨rfl, E9.trans hG⟩
  · have hx := HR.out
    unfold reqM at hx
    rw [if_neg hv] at hx
    subst hx
    have HZ := Lib.hid (show mac0.zs = zl 71 from mac0_z)
    by_cases h1 : m.valid
    · rw [decide_eq_true h1]
      have hft : (decide (f < 0) = true) ∨ (decide (f < 0) = false ∧ decide (15 < f) = true) ∨ (decide (f < 0) = false ∧ decide (15 < f) = false ∧ decide (t < 0) = true) ∨ (decide (f < 0) = false ∧ decide (15 < f) = false ∧ decide (t < 0) = false ∧ decide (15 < t) = true) := by
        simp only [decide_eq_true_eq, decide_eq_false_iff_not]
        refine Classical.byContradiction fun hc => hv ⟨h1, by omega, by omega⟩
      clear hv h1 HI HI2 HS
      rcases hft with d1 | ⟨d1, d2⟩ | ⟨d1, d2, d3⟩ | ⟨d1, d2, d3, d4⟩
      all_goals
        go_wp2_with (first | (refine wpList_iload 33 _ rfl rfl r8 0 71 rfl _ Tryd.underlying33 rfl size_Macro (by rw [Hrl.out]; omega) _ (by rw [sub_all _ _ Hrl.out]) ?_) | (refine wpList_seql 33 _ _ _ rfl rfl _ _ rfl rfl mac0.zs (zl 71) rfl zero_Macn Tryd.underlying33 hpM (eqM Tryd.underlying33) Hrl.out (zl_len 71) hmM true (by rw [HZ.out]; simp) ?_))
        refine (alive_any _).mono ?_
        rintro e w9 ⟨rfl, e9⟩
        go_wp2
        go_ret
        exact ⟨rfl, E8.trans e9⟩
    · rw [decide_eq_false h1]
      clear hv h1
      go_wp2_with (first | (refine wpList_iload 33 _ rfl rfl r8 0 71 rfl _ Tryd.underlying33 rfl size_Macro (by rw [Hrl.out]; omega) _ (by rw [sub_all _ _ Hrl.out]) ?_) | (refine wpList_seql 33 _ _ _ rfl rfl _ _ rfl rfl mac0.zs (zl 71) rfl zero_Macn Tryd.underlying33 hpM (eqM Tryd.underlying33) Hrl.out (zl_len 71) hmM true (by rw [HZ.out]; simp) ?_))
      refine (alive_any _).mono ?_
      rintro e w9 ⟨rfl, e9⟩
      go_wp2
      go_ret
      exact ⟨rfl, E8.trans e9⟩
end Go.Proofs.YtlmoeabchiddnaaDoor
