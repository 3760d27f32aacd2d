/- RequantizeMacro: the program's side. -/
import Derived.Test.YtlmoeabchiddnaaDoorRq
namespace Go.Proofs.YtlmoeabchiddnaaDoor
open Go.RowKit
set_option maxHeartbeats 1000000
theorem mac0_z : mac0.zs = zl 71 := by decide
noncomputable def reqM (m : Mac) (f t : Int) : Mac := if m.valid ∧ (0 ≤ f ∧ f ≤ 15) ∧ (0 ≤ t ∧ t ≤ 15) then m.done f.toNat t.toNat 64 else mac0
theorem reqM_ok {m : Mac} (h : m.ok) (f t : Int) : (reqM m f t).ok := by
  unfold reqM
  split
  · exact Mac.done_ok h _ _ _
  · exact mac0_ok
theorem spec_RequantizeMacro_any (m : Mac) (f t : Int) (w : World) (hm : m.ok) :
    Calls Tryd.prog 32 #[.agg (ic m.zs), .int .i64 f, .int .i64 t] w fun e w' => e = .returned (.agg (ic (reqM m f t).zs)) ∧ Ext w w' := by
  unfold reqM
  by_cases hv : m.valid
  · by_cases hf : 0 ≤ f ∧ f ≤ 15
    · by_cases ht : 0 ≤ t ∧ t ≤ 15
      · rw [if_pos ⟨hv, hf, ht⟩]
        have h := spec_RequantizeMacro_yes m f.toNat t.toNat w hm hv (by omega) (by omega)
        rw [show ((f.toNat : Nat) : Int) = f by omega, show ((t.toNat : Nat) : Int) = t by omega] at h
        exact h
      · rw [if_neg (fun h => ht h.2.2), mac0_z]
        exact spec_RequantizeMacro_noT m f t w hm hv hf.1 hf.2 (by omega)
    · rw [if_neg (fun h => hf h.2.1), mac0_z]
      exact spec_RequantizeMacro_noF m f t w hm hv (by omega)
  · rw [if_neg (fun h => hv h.1), mac0_z]
    exact spec_RequantizeMacro_noM m f t w hm hv
set_option maxRecDepth 100000 in
theorem requantized_any (m : Mac) (f t : Nat) (w : World) (hT : TabQ w) (hm : m.ok) (hv : m.valid) (hf : f < 16) (ht : t < 16) :
    Calls Tryd.prog 79 #[.agg (ic m.zs), .int .i64 f, .int .i64 t] w fun e w' => e = .returned (.agg (ic (m.done f t 64).zs)) ∧ Ext w w' := by
  have Hl := Lib.hid (Mac.zs_len hm)
  have Hm := Lib.hid hm
  have hlv : ∀ j, j < 64 → -4080 ≤ nth m.lv j ∧ nth m.lv j ≤ 4080 := fun j hj => inB_iff.1 hv.2.2.2.2.2.2 j (by rw [hm.lv]; exact hj)
  have Hlv := Lib.hid hlv
  clear hm hv hlv
  go_enter Tryd.func79, Tryd.ntmps79
  have p1 := (IB.new w 33 m.zs).alloc (.cells (ic (zl 71)) 33)
  have r1 := IB.new (w.alloc (.cells (ic m.zs) 33)) 33 (zl 71)
  have E1 := (Ext.alloc w (.cells (ic m.zs) 33)).trans (Ext.alloc _ (.cells (ic (zl 71)) 33))
  simp only [World.size_alloc] at r1
  go_wp2_with (refine wpList_iallocz 33 rfl rfl 71 zero_Macq ?_; (try simp only [World.size_alloc]))
  go_loopw [10] (fun i wr => ∃ k : Nat, k ≤ 4 ∧ i = .int .i64 k ∧ Ext w wr ∧ IB wr (w.heap.size + 1) 33 (zl 71) ∧ IB wr w.heap.size 33 (m.done f t (k * 16)).zs) (fun i _ => 4 - (intOf i).toNat)
  case atStart => exact ⟨0, by omega, rfl, E1, r1, by rw [Nat.zero_mul, Mac.done_zero]; exact p1⟩
  case round =>
    obtain ⟨k, hk, rfl, E2, r2, p2⟩ := hrel
    clear p1 r1 E1
    by_cases hlt : k < 4
    · have hd4 : decide ((k : Int) < 4) = true := by simp; omega
      have hzl := Mac.zs_len (Mac.done_ok Hm.out f t (k * 16))
      obtain ⟨row, hrow⟩ : ∃ row, row = sub (m.done f t (k * 16)).zs (7 + k * 16) 16 := ⟨_, rfl⟩
      have hrl : row.length = 16 := by rw [hrow, sub_len _ _ _ (by omega)]
      have hrn : ∀ u, u < 16 → nth row u = nth m.lv (k * 16 + u) := fun u hu => by
        rw [hrow, nth_sub _ _ _ _ hu, Nat.add_assoc]
        exact Mac.done_nth Hm.out f t _ _ (by omega) (by omega)
      have Hzl := Lib.hid hzl
      have Hrow := Lib.hid hrow
      have Hrl := Lib.hid hrl
      have Hrn := Lib.hid hrn
      clear hzl hrow hrl hrn
      go_wp2_with (refine wpList_iload 25 _ rfl rfl p2 (7 + k * 16) 16 rfl _ Tryd.underlying25 rfl size_A16 (by rw [Hzl.out]; omega) _ (by rw [← Hrow.out]) ?_)
      go_loopw [17] (fun j wr2 => ∃ u : Nat, u ≤ 16 ∧ j = .int .i64 u ∧ Ext w wr2 ∧ IB wr2 (w.heap.size + 1) 33 (zl 71) ∧ IB wr2 w.heap.size 33 (m.done f t (k * 16 + u)).zs) (fun j _ => 16 - (intOf j).toNat)
      case atStart => exact ⟨0, by omega, rfl, E2, r2, p2⟩
      case round =>
        obtain ⟨u, hu, rfl, E3, r3, p3⟩ := hrel
        clear E2 r2 p2
        by_cases hlt2 : u < 16
        · have hd16 : decide ((u : Int) < 16) = true := by simp; omega
          have hn : k * 16 + u < 64 := by omega
          obtain ⟨hlo, hhi⟩ := Hlv.out _ hn
          have hz := Mac.done_step Hm.out f t (k * 16 + u) hn
          have hrn := Hrn.out u hlt2
          have hZl : (m.done f t (k * 16 + u)).zs.length = 71 := Mac.zs_len (Mac.done_ok Hm.out f t _)
          unfold rqz at hz
          have hdr := dq_rng (nth m.lv (k * 16 + u)) f
          generalize nth m.lv (k * 16 + u) = lv at *
          obtain ⟨dv, hdv⟩ : ∃ dv, dv = dq lv f := ⟨_, rfl⟩
          have Hdv := Lib.hid hdv
          rw [← hdv] at hz hdr
          obtain ⟨qv, hqv⟩ : ∃ qv, qv = qz dv t := ⟨_, rfl⟩
          have Hqv := Lib.hid hqv
          rw [← hqv] at hz
          obtain ⟨Z, hZd⟩ : ∃ Z, Z = (m.done f t (k * 16 + u)).zs := ⟨_, rfl⟩
          rw [← hZd] at hz p3 hZl
          obtain ⟨Z2, hZd2⟩ : ∃ Z2, Z2 = (m.done f t (k * 16 + u + 1)).zs := ⟨_, rfl⟩
          rw [← hZd2] at hz
          have HZl := Lib.hid hZl
          have HZd2 := Lib.hid hZd2
          have Hz := Lib.hid hz
          have Hrn2 := Lib.hid hrn
          clear hZd hZd2 hz hdv hqv hrn hZl
          go_wp2_with (refine wpList_iindex 25 _ _ rfl rfl row rfl u 16 _ rfl rfl 3 Tryd.underlying25 Tryd.underlying3 size_int hlt2 Hrl.out ?_; rw [Hrn2.out])
          have hext : ∀ (i : Nat) (own : Value) (ys : Nat → Value) (wa wb : World), Ext wa wb → (match i with | 0 => own = .int .i64 k | 1 => own = .int .i64 u | 2 => own = .int .i64 lv | 3 => own = .int .i64 f | 4 => own = .int .i64 dv | 5 => own = .int .i64 t | 6 => own = .int .i64 qv | 7 => own = .pointer (some ⟨w.heap.size, 7, none⟩) | 8 => own = .pointer (some ⟨w.heap.size, 7 + k * 16, none⟩) | 9 => own = .pointer (some ⟨w.heap.size, 7 + k * 16 + u, none⟩) | 10 => True | _ => True) → (match i with | 0 => own = .int .i64 k | 1 => own = .int .i64 u | 2 => own = .int .i64 lv | 3 => own = .int .i64 f | 4 => own = .int .i64 dv | 5 => own = .int .i64 t | 6 => own = .int .i64 qv | 7 => own = .pointer (some ⟨w.heap.size, 7, none⟩) | 8 => own = .pointer (some ⟨w.heap.size, 7 + k * 16, none⟩) | 9 => own = .pointer (some ⟨w.heap.size, 7 + k * 16 + u, none⟩) | 10 => True | _ => True) := by
            intro i own ys wa wb e h
            match i, h with
            | 0, h => exact h
            | 1, h => exact h
            | 2, h => exact h
            | 3, h => exact h
            | 4, h => exact h
            | 5, h => exact h
            | 6, h => exact h
            | 7, h => exact h
            | 8, h => exact h
            | 9, h => exact h
            | 10, h => exact h
            | _ + 11, _ => trivial
          have Hext := Lib.hid hext
          clear hext
          refine wp_region_inv2l 11 (by kernel_rfl) rfl [(21, 0), (22, 1), (23, 2), (24, 3), (25, 4), (26, 5), (27, 6), (28, 7), (29, 8), (30, 9)] [[], [], [], [], [2, 3], [], [2, 3, 4, 5], [], [0, 7], [0, 1, 2, 3, 4, 5, 6, 7, 8], [0, 1, 2, 3, 4, 5, 6, 7, 8, 9]] (fun i own ys wx => match i with | 0 => own = .int .i64 k | 1 => own = .int .i64 u | 2 => own = .int .i64 lv | 3 => own = .int .i64 f | 4 => own = .int .i64 dv | 5 => own = .int .i64 t | 6 => own = .int .i64 qv | 7 => own = .pointer (some ⟨w.heap.size, 7, none⟩) | 8 => own = .pointer (some ⟨w.heap.size, 7 + k * 16, none⟩) | 9 => own = .pointer (some ⟨w.heap.size, 7 + k * 16 + u, none⟩) | 10 => True | _ => True) (fun kx wx => SG w w.heap.size (w.heap.size + 1) 33 11 Z Z2 (zl 71) kx wx) (by kernel_rfl) (by kernel_rfl) (by kernel_rfl) ?g0_r1 ?gop_r1 ?gend_r1
          case g0_r1 => exact (SG.init E3 r3 p3 (by omega)).ext (Ext.drewN _ 1)
          case gop_r1 =>
            refine ⟨?_, ?_, ?_, ?_, ?_, ?_, ?_, ?_, ?_, ?_, ?_, trivial⟩
            · intro kx xs wx hk hG hD hI hl hf Qo Kx hK hQo
              replace hl : kx + 1 < 11 := hl 10 (by decide) (by decide)
              clear hf
              clear hD
              clear hI
              simp only [patchS, Nat.reduceAdd, Nat.reduceEqDiff, ↓reduceIte] at hQo ⊢
              go_wp2
              exact hK.out _ _ ⟨rfl, hG.step hl, fun _ _ _ _ _ _ h => h⟩
            · intro kx xs wx hk hG hD hI hl hf Qo Kx hK hQo
              replace hl : kx + 1 < 11 := hl 10 (by decide) (by decide)
              clear hf
              clear hD
              clear hI
              simp only [patchS, Nat.reduceAdd, Nat.reduceEqDiff, ↓reduceIte] at hQo ⊢
              go_wp2
              exact hK.out _ _ ⟨rfl, hG.step hl, fun _ _ _ _ _ _ h => h⟩
            · intro kx xs wx hk hG hD hI hl hf Qo Kx hK hQo
              replace hl : kx + 1 < 11 := hl 10 (by decide) (by decide)
              clear hf
              clear hD
              clear hI
              simp only [patchS, Nat.reduceAdd, Nat.reduceEqDiff, ↓reduceIte] at hQo ⊢
              go_wp2
              exact hK.out _ _ ⟨rfl, hG.step hl, fun _ _ _ _ _ _ h => h⟩
            · intro kx xs wx hk hG hD hI hl hf Qo Kx hK hQo
              replace hl : kx + 1 < 11 := hl 10 (by decide) (by decide)
              clear hf
              clear hD
              clear hI
              simp only [patchS, Nat.reduceAdd, Nat.reduceEqDiff, ↓reduceIte] at hQo ⊢
              go_wp2
              exact hK.out _ _ ⟨rfl, hG.step hl, fun _ _ _ _ _ _ h => h⟩
            · intro kx xs wx hk hG hD hI hl hf Qo Kx hK hQo
              replace hl : kx + 1 < 11 := hl 10 (by decide) (by decide)
              clear hf
              have d2 : (xs 2) = .int .i64 lv := hD 2 rfl
              have d3 : (xs 3) = .int .i64 f := hD 3 rfl
              clear hD
              clear hI
              simp only [patchS, Nat.reduceAdd, Nat.reduceEqDiff, ↓reduceIte] at hQo ⊢
              generalize xs 2 = y2 at *
              generalize xs 3 = y3 at *
              subst d2
              subst d3
              go_wp2_with fail
              refine (impl_Dequantize_in lv f _ (hT.ext hG.1) hlo hhi hf).mono ?_
              rintro e w4 ⟨rfl, rfl⟩
              rw [← Hdv.out]
              go_wp2
              exact hK.out _ _ ⟨rfl, hG.step hl, fun _ _ _ _ _ _ h => h⟩
            · intro kx xs wx hk hG hD hI hl hf Qo Kx hK hQo
              replace hl : kx + 1 < 11 := hl 10 (by decide) (by decide)
              clear hf
              clear hD
              clear hI
              simp only [patchS, Nat.reduceAdd, Nat.reduceEqDiff, ↓reduceIte] at hQo ⊢
              go_wp2
              exact hK.out _ _ ⟨rfl, hG.step hl, fun _ _ _ _ _ _ h => h⟩
            · intro kx xs wx hk hG hD hI hl hf Qo Kx hK hQo
              replace hl : kx + 1 < 11 := hl 10 (by decide) (by decide)
              clear hf
              have d4 : (xs 4) = .int .i64 dv := hD 4 rfl
              have d5 : (xs 5) = .int .i64 t := hD 5 rfl
              clear hD
              clear hI
              simp only [patchS, Nat.reduceAdd, Nat.reduceEqDiff, ↓reduceIte] at hQo ⊢
              generalize xs 4 = y4 at *
              generalize xs 5 = y5 at *
              subst d4
              subst d5
              go_wp2_with fail
              refine (impl_Quantize_in dv t _ (hT.ext hG.1) hdr.1 hdr.2 ht).mono ?_
              rintro e w4 ⟨rfl, n4, rfl⟩
              have e4 : Ext wx (wx.drewN n4) := Ext.drewN _ _
              rw [← Hqv.out]
              go_wp2
              exact hK.out _ _ ⟨rfl, (hG.ext e4).step hl, fun i _ _ _ own ys h => Hext.out i own ys _ _ e4 h⟩
            · intro kx xs wx hk hG hD hI hl hf Qo Kx hK hQo
              replace hl : kx + 1 < 11 := hl 10 (by decide) (by decide)
              clear hf
              clear hD
              clear hI
              simp only [patchS, Nat.reduceAdd, Nat.reduceEqDiff, ↓reduceIte] at hQo ⊢
              go_wp2
              exact hK.out _ _ ⟨rfl, hG.step hl, fun _ _ _ _ _ _ h => h⟩
            · intro kx xs wx hk hG hD hI hl hf Qo Kx hK hQo
              replace hl : kx + 1 < 11 := hl 10 (by decide) (by decide)
              clear hf
              have d0 : (xs 0) = .int .i64 k := hD 0 rfl
              have d7 : (xs 7) = .pointer (some ⟨w.heap.size, 7, none⟩) := hD 7 rfl
              clear hD
              clear hI
              simp only [patchS, Nat.reduceAdd, Nat.reduceEqDiff, ↓reduceIte] at hQo ⊢
              generalize xs 0 = y0 at *
              generalize xs 7 = y7 at *
              subst d0
              subst d7
              go_wp2
              exact hK.out _ _ ⟨rfl, hG.step hl, fun _ _ _ _ _ _ h => h⟩
            · intro kx xs wx hk hG hD hI hl hf Qo Kx hK hQo
              replace hl : kx + 1 < 11 := hl 10 (by decide) (by decide)
              clear hf
              have d1 : (xs 1) = .int .i64 u := hD 1 rfl
              have d8 : (xs 8) = .pointer (some ⟨w.heap.size, 7 + k * 16, none⟩) := hD 8 rfl
              clear hD
              clear hI
              simp only [patchS, Nat.reduceAdd, Nat.reduceEqDiff, ↓reduceIte] at hQo ⊢
              generalize xs 1 = y1 at *
              generalize xs 8 = y8 at *
              subst d1
              subst d8
              go_wp2
              exact hK.out _ _ ⟨rfl, hG.step hl, fun _ _ _ _ _ _ h => h⟩
            · intro kx xs wx hk hG hD hI hl hf Qo Kx hK hQo
              clear hl
              replace hl : kx + 1 = 11 := hf (by decide)
              clear hf
              have d6 : (xs 6) = .int .i64 qv := hD 6 rfl
              have d9 : (xs 9) = .pointer (some ⟨w.heap.size, 7 + k * 16 + u, none⟩) := hD 9 rfl
              clear hD
              clear hI
              simp only [patchS, Nat.reduceAdd, Nat.reduceEqDiff, ↓reduceIte] at hQo ⊢
              generalize xs 6 = y6 at *
              generalize xs 9 = y9 at *
              subst d6
              subst d9
              have hc := (hG.now (by omega)).cell (i := 7 + k * 16 + u) (by rw [HZl.out]; omega)
              have hfr := (hG.now (by omega)).frozen (7 + k * 16 + u)
              go_wp2
              exact hQo undef _ (hK.out _ _ ⟨trivial, hG.set hl (Nat.le_refl _) (by omega) (by rw [← Hz.out, ← Nat.add_assoc]), fun _ _ _ _ _ _ h => h⟩)
          clear Hext
          intro xs wx hV hG
          have d0 : (xs 0) = .int .i64 k := hV 0 (by decide)
          have d1 : (xs 1) = .int .i64 u := hV 1 (by decide)
          have d2 : (xs 2) = .int .i64 lv := hV 2 (by decide)
          have d3 : (xs 3) = .int .i64 f := hV 3 (by decide)
          have d4 : (xs 4) = .int .i64 dv := hV 4 (by decide)
          have d5 : (xs 5) = .int .i64 t := hV 5 (by decide)
          have d6 : (xs 6) = .int .i64 qv := hV 6 (by decide)
          have d7 : (xs 7) = .pointer (some ⟨w.heap.size, 7, none⟩) := hV 7 (by decide)
          have d8 : (xs 8) = .pointer (some ⟨w.heap.size, 7 + k * 16, none⟩) := hV 8 (by decide)
          have d9 : (xs 9) = .pointer (some ⟨w.heap.size, 7 + k * 16 + u, none⟩) := hV 9 (by decide)
          clear hV
          simp only [patchS, Nat.reduceAdd, Nat.reduceEqDiff, ↓reduceIte]
          generalize xs 0 = y0 at *
          generalize xs 1 = y1 at *
          generalize xs 2 = y2 at *
          generalize xs 3 = y3 at *
          generalize xs 4 = y4 at *
          generalize xs 5 = y5 at *
          generalize xs 6 = y6 at *
          generalize xs 7 = y7 at *
          generalize xs 8 = y8 at *
          generalize xs 9 = y9 at *
          generalize xs 10 = y10 at *
          replace hG : SG w w.heap.size (w.heap.size + 1) 33 11 Z Z2 (zl 71) 11 wx := hG
          clear d1 d2 d3 d4 d5 d6 d7 d8 d9
          subst d0
          have E4 := hG.1
          have r4 := hG.2.1
          have p4 := hG.end
          rw [HZd2.out] at p4
          go_wp2
          go_roundw
          case rel => exact ⟨u + 1, by omega, by go_num, E4, r4, p4⟩
          case measure => simp [intOf]; omega
        · obtain rfl : u = 16 := by omega
          go_wp2
          go_roundw
          case rel => exact ⟨k + 1, by omega, by go_num, E3, r3, by rw [Nat.succ_mul]; exact p3⟩
          case measure => simp [intOf]; omega
    · obtain rfl : k = 4 := by omega
      have Hl2 := Lib.hid (Mac.zs_len (Mac.done_ok Hm.out f t 64))
      have p3 : IB wr w.heap.size 33 (m.done f t 64).zs := p2
      clear p2
      obtain ⟨ZF, hZF⟩ : ∃ ZF, ZF = (m.done f t 64).zs := ⟨_, rfl⟩
      rw [← hZF] at Hl2 p3
      have HZF := Lib.hid hZF
      clear hZF
      go_wp2_with (first | (refine wpList_iload 33 _ rfl rfl p3 0 71 rfl _ Tryd.underlying33 rfl size_Macro (by rw [Hl2.out]; omega) _ (by rw [sub_all _ _ Hl2.out]) ?_) | (refine wpList_istore 33 _ _ rfl rfl r2 0 71 rfl _ rfl ZF rfl size_Macro Hl2.out (by simp [zl]) ?_; intro wf pf gf; refine Hid.out ?_))
      rw [spl_all (by rw [Hl2.out, zl_len])] at pf
      have Ef : Ext w wf := Ext.grown E2 gf (fun q hq => by cases hq; omega)
      refine Lib.hid ?_
      go_wp2
      exact bodyPost_ret (v := .agg (ic ZF)) (results_cell_row rfl _ _ (w.heap.size + 1) 33 (ic ZF) (0, 0) _ rfl pf Tryd.underlying33 rfl (by rw [ic_size, Hl2.out]; exact size_Macro)) rfl ⟨by rw [HZF.out], Ef⟩
end Go.Proofs.YtlmoeabchiddnaaDoor
