/- Containers: contracts of WriteContainer. -/
import Derived.Test.YtpjjadmjdafkeaaDoorK3
import Derived.Test.YtpjjadmjdafkeaaDoorCt
namespace Go.Proofs.YtpjjadmjdafkeaaDoor
open Go.RowKit
set_option maxHeartbeats 1000000
theorem impl_WriteContainer_no (a : Option Addr) (c n : Nat) (L : List Smp) (w : World) (hn : n ≤ 9223372036854775807) (r : SP w a n L) (hv : svalid L = false) :
    Calls Tryd.prog 7 #[.slice a n c] w fun e w' => e = .returned (.slice none 0 0) ∧ Ext w w' := by
  go_enter Tryd.func7, Tryd.ntmps7
  go_wp2_with fail
  refine (impl_SamplesValid_any a c n L _ hn r).mono ?_
  rintro e w1 ⟨rfl, e1⟩
  rw [hv]
  go_wp2
  go_ret
  exact ⟨rfl, e1⟩
set_option maxRecDepth 100000 in
theorem impl_WriteContainer_yes (a : Option Addr) (c n : Nat) (L : List Smp) (w : World) (hn : n ≤ 9223372036854775807) (r : SP w a n L) (hv : svalid L = true) :
    Calls Tryd.prog 7 #[.slice a n c] w fun e w' => ∃ a' c', e = .returned (.slice a' (wcont L).length c') ∧ w'.ownsRow w.heap.size 5 1 (.slice a' (wcont L).length c') (wcont L).length ((wcont L).map (Value.int .u8)) ∧ Ext w w' := by
  have HV := Lib.hid hv
  have HL := Lib.hid r.1
  have hn100 : n ≤ 100 := by have := (svalid_iff.1 hv).1; rw [r.1] at this; exact this
  go_enter Tryd.func7, Tryd.ntmps7
  go_wp2_with fail
  refine (impl_SamplesValid_any a c n L _ hn r).mono ?_
  rintro e w1 ⟨rfl, E1⟩
  rw [hv]
  have r1 := r.ext E1
  have hw8 : IntKind.u8.wrap (n : Int) = (n : Int) := wrap8 (by omega) (by omega)
  have o2 := World.ownsRow_lit (base := w1.heap.size) (e := 5) (size := 1) w1 #[.int .u8 (n : Int)] 1 (Nat.le_refl _) (by unfold maxLen; omega) rfl
  have E2 := Ext.alloc w1 (.cells #[.int .u8 (n : Int)] 5)
  have hs1 := E1.size
  clear hv r
  go_wp2_with fail
  go_loopw [3, 5, 17] (fun v _ i wr => ∃ (k : Nat), k ≤ n ∧ i = .int .i64 k ∧ Ext w1 wr ∧ wr.ownsRow w1.heap.size 5 1 v (1 + 5 * k) ((wpre L k).map (Value.int .u8))) (fun _ _ i _ => n - (intOf i).toNat)
  case atStart => exact ⟨0, by omega, rfl, E2, by rw [wpre_zero, HL.out]; exact o2⟩
  case round =>
    obtain ⟨k, hk, rfl, E3, o3⟩ := hrel
    clear o2 E2
    by_cases hlt : k < n
    · obtain ⟨b1, o1, rfl, aa, nn, cc, g0, g1, g2, s4, h5, h6, -⟩ := (r1.ext E3).2 k hlt
      have hsk := (svalid_iff.1 HV.out).2 k (by rw [HL.out]; exact hlt)
      obtain ⟨t0, t1, t2, -⟩ := hsk
      have hnn := s4.int_len
      have hW : Hid (wpre L (k + 1) = wpre L k ++ [(sget L k).1 / 256, (sget L k).1 % 256, flag (sget L k).2.1, (nn : Int) / 256, (nn : Int) % 256]) := Lib.hid (by rw [wpre_succ L (by rw [HL.out]; exact hlt), ← hnn]; rfl)
      have hnn5 : nn ≤ 5000 := by omega
      generalize (sget L k).1 = tm at *
      generalize (sget L k).2.1 = ky at *
      generalize wpre L k = W at *
      clear s4 hnn t2
      obtain ⟨a3, c3, rfl⟩ := owns_form o3
      have eB := Ext.alloc wr (.cells #[.int .i64 tm, .bool ky, .slice aa nn cc] 40)
      have qB := blk_new wr (.cells #[.int .i64 tm, .bool ky, .slice aa nn cc] 40)
      have oB := owns_ext o3 eB
      have EB := E3.trans eB
      clear o3 E3
      go_wp2_with fail
      generalize wr.alloc (.cells #[.int .i64 tm, .bool ky, .slice aa nn cc] 40) = wB at *
      generalize wr.heap.size = Q at *
      have hext : ∀ (i : Nat) (own : Value) (ys : Nat → Value) (wa wb : World), Ext wa wb → (match i with | 0 => own = .slice a3 (1 + 5 * k) c3 | 1 => own = .pointer (some ⟨Q, 0, none⟩) | 2 => own = .int .i64 tm | 3 => ∃ (ax : Option Addr) (cx : Nat), own = .slice ax (1 + 5 * k + 2) cx ∧ wa.ownsRow w1.heap.size 5 1 (.slice ax (1 + 5 * k + 2) cx) (1 + 5 * k + 2) ((W ++ pair tm).map (Value.int .u8)) | 4 => own = .pointer (some ⟨Q, 1, none⟩) | 5 => own = .bool ky | 6 => own = .int .u8 (flag ky) | 7 => ∃ (q : Nat), own = .slice (some ⟨q, 0, none⟩) 1 1 ∧ wa.ownsRow w1.heap.size 5 1 (.slice (some ⟨q, 0, none⟩) 1 1) 1 [.int .u8 (flag ky)] | 8 => ∃ (ax : Option Addr) (cx : Nat), own = .slice ax (1 + 5 * k + 2 + 1) cx ∧ wa.ownsRow w1.heap.size 5 1 (.slice ax (1 + 5 * k + 2 + 1) cx) (1 + 5 * k + 2 + 1) ((W ++ pair tm ++ [flag ky]).map (Value.int .u8)) | 9 => ∃ (ax : Option Addr) (cx : Nat), own = .slice ax (1 + 5 * k + 2 + 1) cx ∧ wa.ownsRow w1.heap.size 5 1 (.slice ax (1 + 5 * k + 2 + 1) cx) (1 + 5 * k + 2 + 1) ((W ++ pair tm ++ [flag ky]).map (Value.int .u8)) | _ => True) → (match i with | 0 => own = .slice a3 (1 + 5 * k) c3 | 1 => own = .pointer (some ⟨Q, 0, none⟩) | 2 => own = .int .i64 tm | 3 => ∃ (ax : Option Addr) (cx : Nat), own = .slice ax (1 + 5 * k + 2) cx ∧ wb.ownsRow w1.heap.size 5 1 (.slice ax (1 + 5 * k + 2) cx) (1 + 5 * k + 2) ((W ++ pair tm).map (Value.int .u8)) | 4 => own = .pointer (some ⟨Q, 1, none⟩) | 5 => own = .bool ky | 6 => own = .int .u8 (flag ky) | 7 => ∃ (q : Nat), own = .slice (some ⟨q, 0, none⟩) 1 1 ∧ wb.ownsRow w1.heap.size 5 1 (.slice (some ⟨q, 0, none⟩) 1 1) 1 [.int .u8 (flag ky)] | 8 => ∃ (ax : Option Addr) (cx : Nat), own = .slice ax (1 + 5 * k + 2 + 1) cx ∧ wb.ownsRow w1.heap.size 5 1 (.slice ax (1 + 5 * k + 2 + 1) cx) (1 + 5 * k + 2 + 1) ((W ++ pair tm ++ [flag ky]).map (Value.int .u8)) | 9 => ∃ (ax : Option Addr) (cx : Nat), own = .slice ax (1 + 5 * k + 2 + 1) cx ∧ wb.ownsRow w1.heap.size 5 1 (.slice ax (1 + 5 * k + 2 + 1) cx) (1 + 5 * k + 2 + 1) ((W ++ pair tm ++ [flag ky]).map (Value.int .u8)) | _ => True) := by
        intro i own ys wa wb e h
        match i, h with
        | 0, h => exact h
        | 1, h => exact h
        | 2, h => exact h
        | 3, h => obtain ⟨a2, c2, h1, h2⟩ := h; exact ⟨a2, c2, h1, owns_ext h2 e⟩
        | 4, h => exact h
        | 5, h => exact h
        | 6, h => exact h
        | 7, h => obtain ⟨q, h1, h2⟩ := h; exact ⟨q, h1, owns_ext h2 e⟩
        | 8, h => obtain ⟨a2, c2, h1, h2⟩ := h; exact ⟨a2, c2, h1, owns_ext h2 e⟩
        | 9, h => obtain ⟨a2, c2, h1, h2⟩ := h; exact ⟨a2, c2, h1, owns_ext h2 e⟩
        | _ + 10, _ => trivial
      have Hext := Lib.hid hext
      clear hext
      refine wp_region_inv2 (by kernel_rfl) [(3, 9), (21, 0), (22, 1), (23, 2), (24, 3), (25, 4), (26, 5), (27, 6), (28, 7), (29, 8)] [[], [], [1], [0, 1, 2], [], [4], [0, 1, 2, 3, 4, 5], [0, 1, 2, 3, 4, 5, 6], [0, 1, 2, 3, 4, 5, 6, 7], [0, 1, 2, 3, 4, 5, 6, 7, 8]] (fun i own ys wx => match i with | 0 => own = .slice a3 (1 + 5 * k) c3 | 1 => own = .pointer (some ⟨Q, 0, none⟩) | 2 => own = .int .i64 tm | 3 => ∃ (ax : Option Addr) (cx : Nat), own = .slice ax (1 + 5 * k + 2) cx ∧ wx.ownsRow w1.heap.size 5 1 (.slice ax (1 + 5 * k + 2) cx) (1 + 5 * k + 2) ((W ++ pair tm).map (Value.int .u8)) | 4 => own = .pointer (some ⟨Q, 1, none⟩) | 5 => own = .bool ky | 6 => own = .int .u8 (flag ky) | 7 => ∃ (q : Nat), own = .slice (some ⟨q, 0, none⟩) 1 1 ∧ wx.ownsRow w1.heap.size 5 1 (.slice (some ⟨q, 0, none⟩) 1 1) 1 [.int .u8 (flag ky)] | 8 => ∃ (ax : Option Addr) (cx : Nat), own = .slice ax (1 + 5 * k + 2 + 1) cx ∧ wx.ownsRow w1.heap.size 5 1 (.slice ax (1 + 5 * k + 2 + 1) cx) (1 + 5 * k + 2 + 1) ((W ++ pair tm ++ [flag ky]).map (Value.int .u8)) | 9 => ∃ (ax : Option Addr) (cx : Nat), own = .slice ax (1 + 5 * k + 2 + 1) cx ∧ wx.ownsRow w1.heap.size 5 1 (.slice ax (1 + 5 * k + 2 + 1) cx) (1 + 5 * k + 2 + 1) ((W ++ pair tm ++ [flag ky]).map (Value.int .u8)) | _ => True) (fun kx wx => Ext w1 wx ∧ wx.heap[Q]? = some (.cells #[.int .i64 tm, .bool ky, .slice aa nn cc] 40 (0, 0)) ∧ wx.ownsRow w1.heap.size 5 1 (.slice a3 (1 + 5 * k) c3) (1 + 5 * k) (W.map (Value.int .u8))) (by kernel_rfl) (by kernel_rfl) (by kernel_rfl) ?g0_r1 ?gop_r1 ?gend_r1
      case g0_r1 => exact ⟨EB.trans (Ext.drewN _ 1), (Ext.drewN wB 1).blk qB, owns_ext oB (Ext.drewN _ 1)⟩
      case gop_r1 =>
        refine ⟨?_, ?_, ?_, ?_, ?_, ?_, ?_, ?_, ?_, ?_, trivial⟩
        · intro kx xs wx hk hG hD hI Qo Kx hK hQo
          clear hD
          have i9 := hI 9 3 rfl rfl
          simp only [List.getD_cons_succ, List.getD_cons_zero] at i9
          clear hI
          simp only [patchS, Nat.reduceAdd, Nat.reduceEqDiff, ↓reduceIte] at hQo ⊢
          rw [i9] at hQo ⊢
          clear i9
          go_wp2
          exact hK.out _ _ ⟨rfl, hG, fun _ _ _ _ _ _ h => h⟩
        · intro kx xs wx hk hG hD hI Qo Kx hK hQo
          clear hD
          clear hI
          simp only [patchS, Nat.reduceAdd, Nat.reduceEqDiff, ↓reduceIte] at hQo ⊢
          go_wp2
          exact hK.out _ _ ⟨rfl, hG, fun _ _ _ _ _ _ h => h⟩
        · intro kx xs wx hk hG hD hI Qo Kx hK hQo
          have d1 : (xs 1) = .pointer (some ⟨Q, 0, none⟩) := hD 1 rfl
          clear hD
          clear hI
          simp only [patchS, Nat.reduceAdd, Nat.reduceEqDiff, ↓reduceIte] at hQo ⊢
          generalize xs 1 = y1 at *
          subst d1
          obtain ⟨z, k0, k1, k2, -⟩ := bx3 hG.2.1
          go_wp2
          exact hK.out _ _ ⟨rfl, hG, fun _ _ _ _ _ _ h => h⟩
        · intro kx xs wx hk hG hD hI Qo Kx hK hQo
          have d0 : (xs 0) = .slice a3 (1 + 5 * k) c3 := hD 0 rfl
          have d2 : (xs 2) = .int .i64 tm := hD 2 rfl
          clear hD
          clear hI
          simp only [patchS, Nat.reduceAdd, Nat.reduceEqDiff, ↓reduceIte] at hQo ⊢
          generalize xs 0 = y0 at *
          generalize xs 2 = y2 at *
          subst d0
          subst d2
          go_wp2_with fail
          refine (appendPair_any _ _ _ tm w1.heap.size wx hG.2.2 hG.1.size (by omega) t0 (by omega)).mono ?_
          rintro e w6 ⟨a6, c6, rfl, own6, gr6, keep6⟩
          go_wp2
          have hst : ∀ (wy : World), (∀ b' n' own xs', n' ≤ 1 + 5 * k → wx.ownsRow b' 5 1 own n' xs' → wy.ownsRow b' 5 1 own n' xs') → ∀ (ii : Nat), ii < 10 → ii ≠ 3 → ([[], [], [1], [0, 1, 2], [], [4], [0, 1, 2, 3, 4, 5], [0, 1, 2, 3, 4, 5, 6], [0, 1, 2, 3, 4, 5, 6, 7], [0, 1, 2, 3, 4, 5, 6, 7, 8]].getD ii []).contains 3 = false → ∀ (own : Value) (ys : Nat → Value), (match ii with | 0 => own = .slice a3 (1 + 5 * k) c3 | 1 => own = .pointer (some ⟨Q, 0, none⟩) | 2 => own = .int .i64 tm | 3 => ∃ (ax : Option Addr) (cx : Nat), own = .slice ax (1 + 5 * k + 2) cx ∧ wx.ownsRow w1.heap.size 5 1 (.slice ax (1 + 5 * k + 2) cx) (1 + 5 * k + 2) ((W ++ pair tm).map (Value.int .u8)) | 4 => own = .pointer (some ⟨Q, 1, none⟩) | 5 => own = .bool ky | 6 => own = .int .u8 (flag ky) | 7 => ∃ (q : Nat), own = .slice (some ⟨q, 0, none⟩) 1 1 ∧ wx.ownsRow w1.heap.size 5 1 (.slice (some ⟨q, 0, none⟩) 1 1) 1 [.int .u8 (flag ky)] | 8 => ∃ (ax : Option Addr) (cx : Nat), own = .slice ax (1 + 5 * k + 2 + 1) cx ∧ wx.ownsRow w1.heap.size 5 1 (.slice ax (1 + 5 * k + 2 + 1) cx) (1 + 5 * k + 2 + 1) ((W ++ pair tm ++ [flag ky]).map (Value.int .u8)) | 9 => ∃ (ax : Option Addr) (cx : Nat), own = .slice ax (1 + 5 * k + 2 + 1) cx ∧ wx.ownsRow w1.heap.size 5 1 (.slice ax (1 + 5 * k + 2 + 1) cx) (1 + 5 * k + 2 + 1) ((W ++ pair tm ++ [flag ky]).map (Value.int .u8)) | _ => True) → (match ii with | 0 => own = .slice a3 (1 + 5 * k) c3 | 1 => own = .pointer (some ⟨Q, 0, none⟩) | 2 => own = .int .i64 tm | 3 => ∃ (ax : Option Addr) (cx : Nat), own = .slice ax (1 + 5 * k + 2) cx ∧ wy.ownsRow w1.heap.size 5 1 (.slice ax (1 + 5 * k + 2) cx) (1 + 5 * k + 2) ((W ++ pair tm).map (Value.int .u8)) | 4 => own = .pointer (some ⟨Q, 1, none⟩) | 5 => own = .bool ky | 6 => own = .int .u8 (flag ky) | 7 => ∃ (q : Nat), own = .slice (some ⟨q, 0, none⟩) 1 1 ∧ wy.ownsRow w1.heap.size 5 1 (.slice (some ⟨q, 0, none⟩) 1 1) 1 [.int .u8 (flag ky)] | 8 => ∃ (ax : Option Addr) (cx : Nat), own = .slice ax (1 + 5 * k + 2 + 1) cx ∧ wy.ownsRow w1.heap.size 5 1 (.slice ax (1 + 5 * k + 2 + 1) cx) (1 + 5 * k + 2 + 1) ((W ++ pair tm ++ [flag ky]).map (Value.int .u8)) | 9 => ∃ (ax : Option Addr) (cx : Nat), own = .slice ax (1 + 5 * k + 2 + 1) cx ∧ wy.ownsRow w1.heap.size 5 1 (.slice ax (1 + 5 * k + 2 + 1) cx) (1 + 5 * k + 2 + 1) ((W ++ pair tm ++ [flag ky]).map (Value.int .u8)) | _ => True) := by
            intro wy hy ii hii hne hc own ys h
            match ii, h with
            | 0, h => exact h
            | 1, h => exact h
            | 2, h => exact h
            | 3, h => exact absurd rfl hne
            | 4, h => exact h
            | 5, h => exact h
            | 6, h => exact absurd hc (by decide)
            | 7, h => exact absurd hc (by decide)
            | 8, h => exact absurd hc (by decide)
            | 9, h => exact absurd hc (by decide)
            | _ + 10, _ => trivial
          exact hK.out _ _ ⟨⟨a6, c6, rfl, own6⟩, ⟨Ext.grown hG.1 gr6 (owns_ge hG.2.2), blk_gr hG.2.1 gr6 (by rcases own_ne_blk hG.2.2 hG.2.1 (by decide) with h | h; (rw [h]; simp); exact h), keep6 _ _ _ _ (by omega) hG.2.2⟩, hst _ keep6⟩
        · intro kx xs wx hk hG hD hI Qo Kx hK hQo
          clear hD
          clear hI
          simp only [patchS, Nat.reduceAdd, Nat.reduceEqDiff, ↓reduceIte] at hQo ⊢
          go_wp2
          exact hK.out _ _ ⟨rfl, hG, fun _ _ _ _ _ _ h => h⟩
        · intro kx xs wx hk hG hD hI Qo Kx hK hQo
          have d4 : (xs 4) = .pointer (some ⟨Q, 1, none⟩) := hD 4 rfl
          clear hD
          clear hI
          simp only [patchS, Nat.reduceAdd, Nat.reduceEqDiff, ↓reduceIte] at hQo ⊢
          generalize xs 4 = y4 at *
          subst d4
          obtain ⟨z, k0, k1, k2, -⟩ := bx3 hG.2.1
          go_wp2
          exact hK.out _ _ ⟨rfl, hG, fun _ _ _ _ _ _ h => h⟩
        · intro kx xs wx hk hG hD hI Qo Kx hK hQo
          have d5 : (xs 5) = .bool ky := hD 5 rfl
          clear hD
          clear hI
          simp only [patchS, Nat.reduceAdd, Nat.reduceEqDiff, ↓reduceIte] at hQo ⊢
          generalize xs 5 = y5 at *
          subst d5
          go_wp2_with fail
          refine (flagByte_any ky _).mono ?_
          rintro e w6 ⟨rfl, rfl⟩
          go_wp2
          exact hK.out _ _ ⟨rfl, hG, fun _ _ _ _ _ _ h => h⟩
        · intro kx xs wx hk hG hD hI Qo Kx hK hQo
          have d6 : (xs 6) = .int .u8 (flag ky) := hD 6 rfl
          clear hD
          clear hI
          simp only [patchS, Nat.reduceAdd, Nat.reduceEqDiff, ↓reduceIte] at hQo ⊢
          generalize xs 6 = y6 at *
          subst d6
          have e5 := Ext.alloc wx (.cells #[.int .u8 (flag ky)] 5)
          have o5 := World.ownsRow_lit (base := w1.heap.size) (e := 5) (size := 1) wx #[.int .u8 (flag ky)] 1 hG.1.size (by unfold maxLen; omega) rfl
          go_wp2
          exact hK.out _ _ ⟨⟨_, rfl, o5⟩, ⟨hG.1.trans e5, e5.blk hG.2.1, owns_ext hG.2.2 e5⟩, fun i _ _ _ own ys h => Hext.out i own ys _ _ e5 h⟩
        · intro kx xs wx hk hG hD hI Qo Kx hK hQo
          have d3 : ∃ (ax : Option Addr) (cx : Nat), (xs 3) = .slice ax (1 + 5 * k + 2) cx ∧ wx.ownsRow w1.heap.size 5 1 (.slice ax (1 + 5 * k + 2) cx) (1 + 5 * k + 2) ((W ++ pair tm).map (Value.int .u8)) := hD 3 rfl
          have d7 : ∃ (q : Nat), (xs 7) = .slice (some ⟨q, 0, none⟩) 1 1 ∧ wx.ownsRow w1.heap.size 5 1 (.slice (some ⟨q, 0, none⟩) 1 1) 1 [.int .u8 (flag ky)] := hD 7 rfl
          clear hD
          clear hI
          simp only [patchS, Nat.reduceAdd, Nat.reduceEqDiff, ↓reduceIte] at hQo ⊢
          generalize xs 3 = y3 at *
          generalize xs 7 = y7 at *
          obtain ⟨a4, c4, rfl, o4⟩ := d3
          obtain ⟨q, rfl, o10⟩ := d7
          refine wpList_appk _ rfl o4 hG.1.size _ _ _ rfl (.int .u8 0) 1 Tryd.underlying22 info_uint8 rfl (by decide) rfl ⟨q, 0, none⟩ 1 1 _ rfl rfl (o10.cells rfl) (by intro u hu; simp at hu; subst hu; rfl) (by omega) (by omega) ?_
          intro v14 w14 own14 gr14 keep14
          obtain ⟨a14, c14, rfl⟩ := owns_form own14
          have hst : ∀ (wy : World), (∀ b' n' own xs', n' ≤ 1 + 5 * k + 2 → wx.ownsRow b' 5 1 own n' xs' → wy.ownsRow b' 5 1 own n' xs') → ∀ (ii : Nat), ii < 10 → ii ≠ 8 → ([[], [], [1], [0, 1, 2], [], [4], [0, 1, 2, 3, 4, 5], [0, 1, 2, 3, 4, 5, 6], [0, 1, 2, 3, 4, 5, 6, 7], [0, 1, 2, 3, 4, 5, 6, 7, 8]].getD ii []).contains 8 = false → ∀ (own : Value) (ys : Nat → Value), (match ii with | 0 => own = .slice a3 (1 + 5 * k) c3 | 1 => own = .pointer (some ⟨Q, 0, none⟩) | 2 => own = .int .i64 tm | 3 => ∃ (ax : Option Addr) (cx : Nat), own = .slice ax (1 + 5 * k + 2) cx ∧ wx.ownsRow w1.heap.size 5 1 (.slice ax (1 + 5 * k + 2) cx) (1 + 5 * k + 2) ((W ++ pair tm).map (Value.int .u8)) | 4 => own = .pointer (some ⟨Q, 1, none⟩) | 5 => own = .bool ky | 6 => own = .int .u8 (flag ky) | 7 => ∃ (q : Nat), own = .slice (some ⟨q, 0, none⟩) 1 1 ∧ wx.ownsRow w1.heap.size 5 1 (.slice (some ⟨q, 0, none⟩) 1 1) 1 [.int .u8 (flag ky)] | 8 => ∃ (ax : Option Addr) (cx : Nat), own = .slice ax (1 + 5 * k + 2 + 1) cx ∧ wx.ownsRow w1.heap.size 5 1 (.slice ax (1 + 5 * k + 2 + 1) cx) (1 + 5 * k + 2 + 1) ((W ++ pair tm ++ [flag ky]).map (Value.int .u8)) | 9 => ∃ (ax : Option Addr) (cx : Nat), own = .slice ax (1 + 5 * k + 2 + 1) cx ∧ wx.ownsRow w1.heap.size 5 1 (.slice ax (1 + 5 * k + 2 + 1) cx) (1 + 5 * k + 2 + 1) ((W ++ pair tm ++ [flag ky]).map (Value.int .u8)) | _ => True) → (match ii with | 0 => own = .slice a3 (1 + 5 * k) c3 | 1 => own = .pointer (some ⟨Q, 0, none⟩) | 2 => own = .int .i64 tm | 3 => ∃ (ax : Option Addr) (cx : Nat), own = .slice ax (1 + 5 * k + 2) cx ∧ wy.ownsRow w1.heap.size 5 1 (.slice ax (1 + 5 * k + 2) cx) (1 + 5 * k + 2) ((W ++ pair tm).map (Value.int .u8)) | 4 => own = .pointer (some ⟨Q, 1, none⟩) | 5 => own = .bool ky | 6 => own = .int .u8 (flag ky) | 7 => ∃ (q : Nat), own = .slice (some ⟨q, 0, none⟩) 1 1 ∧ wy.ownsRow w1.heap.size 5 1 (.slice (some ⟨q, 0, none⟩) 1 1) 1 [.int .u8 (flag ky)] | 8 => ∃ (ax : Option Addr) (cx : Nat), own = .slice ax (1 + 5 * k + 2 + 1) cx ∧ wy.ownsRow w1.heap.size 5 1 (.slice ax (1 + 5 * k + 2 + 1) cx) (1 + 5 * k + 2 + 1) ((W ++ pair tm ++ [flag ky]).map (Value.int .u8)) | 9 => ∃ (ax : Option Addr) (cx : Nat), own = .slice ax (1 + 5 * k + 2 + 1) cx ∧ wy.ownsRow w1.heap.size 5 1 (.slice ax (1 + 5 * k + 2 + 1) cx) (1 + 5 * k + 2 + 1) ((W ++ pair tm ++ [flag ky]).map (Value.int .u8)) | _ => True) := by
            intro wy hy ii hii hne hc own ys h
            match ii, h with
            | 0, h => exact h
            | 1, h => exact h
            | 2, h => exact h
            | 3, h => obtain ⟨a2, c2, h1, h2⟩ := h; exact ⟨a2, c2, h1, hy _ _ _ _ (by omega) h2⟩
            | 4, h => exact h
            | 5, h => exact h
            | 6, h => exact h
            | 7, h => obtain ⟨q, h1, h2⟩ := h; exact ⟨q, h1, hy _ _ _ _ (by omega) h2⟩
            | 8, h => exact absurd rfl hne
            | 9, h => exact absurd hc (by decide)
            | _ + 10, _ => trivial
          exact hQo _ _ (hK.out _ _ ⟨⟨_, _, rfl, by rw [List.map_append]; exact own14⟩, ⟨Ext.grown hG.1 gr14 (owns_ge o4), blk_gr hG.2.1 gr14 (by rcases own_ne_blk o4 hG.2.1 (by decide) with h | h; (rw [h]; simp); exact h), keep14 _ _ _ _ (by omega) hG.2.2⟩, hst _ keep14⟩)
        · intro kx xs wx hk hG hD hI Qo Kx hK hQo
          have d8 : ∃ (ax : Option Addr) (cx : Nat), (xs 8) = .slice ax (1 + 5 * k + 2 + 1) cx ∧ wx.ownsRow w1.heap.size 5 1 (.slice ax (1 + 5 * k + 2 + 1) cx) (1 + 5 * k + 2 + 1) ((W ++ pair tm ++ [flag ky]).map (Value.int .u8)) := hD 8 rfl
          clear hD
          clear hI
          simp only [patchS, Nat.reduceAdd, Nat.reduceEqDiff, ↓reduceIte] at hQo ⊢
          generalize xs 8 = y8 at *
          obtain ⟨a8, c8, rfl, o8⟩ := d8
          go_wp2
          exact hK.out _ _ ⟨⟨_, _, rfl, o8⟩, hG, fun _ _ _ _ _ _ h => h⟩
      clear Hext
      intro xs wx hV hG
      have d0 : (xs 0) = .slice a3 (1 + 5 * k) c3 := hV 0 (by decide)
      have d1 : (xs 1) = .pointer (some ⟨Q, 0, none⟩) := hV 1 (by decide)
      have d2 : (xs 2) = .int .i64 tm := hV 2 (by decide)
      have d3 : ∃ (ax : Option Addr) (cx : Nat), (xs 3) = .slice ax (1 + 5 * k + 2) cx ∧ wx.ownsRow w1.heap.size 5 1 (.slice ax (1 + 5 * k + 2) cx) (1 + 5 * k + 2) ((W ++ pair tm).map (Value.int .u8)) := hV 3 (by decide)
      have d4 : (xs 4) = .pointer (some ⟨Q, 1, none⟩) := hV 4 (by decide)
      have d5 : (xs 5) = .bool ky := hV 5 (by decide)
      have d6 : (xs 6) = .int .u8 (flag ky) := hV 6 (by decide)
      have d7 : ∃ (q : Nat), (xs 7) = .slice (some ⟨q, 0, none⟩) 1 1 ∧ wx.ownsRow w1.heap.size 5 1 (.slice (some ⟨q, 0, none⟩) 1 1) 1 [.int .u8 (flag ky)] := hV 7 (by decide)
      have d8 : ∃ (ax : Option Addr) (cx : Nat), (xs 8) = .slice ax (1 + 5 * k + 2 + 1) cx ∧ wx.ownsRow w1.heap.size 5 1 (.slice ax (1 + 5 * k + 2 + 1) cx) (1 + 5 * k + 2 + 1) ((W ++ pair tm ++ [flag ky]).map (Value.int .u8)) := hV 8 (by decide)
      have d9 : ∃ (ax : Option Addr) (cx : Nat), (xs 9) = .slice ax (1 + 5 * k + 2 + 1) cx ∧ wx.ownsRow w1.heap.size 5 1 (.slice ax (1 + 5 * k + 2 + 1) cx) (1 + 5 * k + 2 + 1) ((W ++ pair tm ++ [flag ky]).map (Value.int .u8)) := hV 9 (by decide)
      clear hV
      simp only [patchS, Nat.reduceAdd, Nat.reduceEqDiff, ↓reduceIte]
      generalize xs 0 = y0 at *
      generalize xs 1 = y1 at *
      generalize xs 2 = y2 at *
      generalize xs 3 = y3 at *
      generalize xs 4 = y4 at *
      generalize xs 5 = y5 at *
      generalize xs 6 = y6 at *
      generalize xs 7 = y7 at *
      generalize xs 8 = y8 at *
      generalize xs 9 = y9 at *
      replace hG : Ext w1 wx ∧ wx.heap[Q]? = some (.cells #[.int .i64 tm, .bool ky, .slice aa nn cc] 40 (0, 0)) ∧ wx.ownsRow w1.heap.size 5 1 (.slice a3 (1 + 5 * k) c3) (1 + 5 * k) (W.map (Value.int .u8)) := hG
      clear d0 d1 d2 d3 d4 d5 d6 d7 d8
      obtain ⟨a9, c9, rfl, o9⟩ := d9
      obtain ⟨EW, qW, -⟩ := hG
      obtain ⟨z, k0, k1, k2, -⟩ := bx3 qW
      have hsW := EW.size
      clear qB oB EB eB
      go_wp2_with fail
      refine (appendPair_any _ _ _ (nn : Int) w1.heap.size _ o9 hsW (by omega) (by omega) (by omega)).mono ?_
      rintro e w6 ⟨a6, c6, rfl, own6, gr6, -⟩
      have E6 : Ext w1 w6 := Ext.grown EW gr6 (owns_ge o9)
      have hlen6 : 1 + 5 * k + 2 + 1 + 2 = 1 + 5 * (k + 1) := by omega
      rw [hlen6] at own6
      have hW6 : Hid (wpre L (k + 1) = W ++ pair tm ++ [flag ky] ++ pair (nn : Int)) := Lib.hid (by rw [hW.out]; simp [pair])
      rw [← hW6.out] at own6
      clear o9 gr6 EW qW k0 k1 k2
      go_wp2_with fail
      go_roundw
      case rel => exact ⟨k + 1, by omega, by go_num, E6, by first | exact own6 | simpa using own6⟩
      case measure => simp [intOf]; omega
    · obtain rfl : k = n := by omega
      have hlw : (wall L 0).length = 1 + 5 * k := by rw [wall_zero, wpre_len L _ (Nat.le_refl _), HL.out]
      have o4 : wr.ownsRow w1.heap.size 5 1 u3 (wall L 0).length ((wall L 0).map (Value.int .u8)) := by rw [hlw, wall_zero, HL.out]; exact o3
      clear o3 hlw
      go_wp2_with fail
      go_loopw [3, 7, 38] (fun v _ i wr => ∃ (j : Nat), j ≤ k ∧ i = .int .i64 j ∧ Ext w1 wr ∧ wr.ownsRow w1.heap.size 5 1 v (wall L j).length ((wall L j).map (Value.int .u8))) (fun _ _ i _ => k - (intOf i).toNat)
      case atStart => exact ⟨0, by omega, rfl, E3, o4⟩
      case round =>
        obtain ⟨j, hj, rfl, E5, o5⟩ := hrel
        clear o4 E3
        by_cases hlt2 : j < k
        · obtain ⟨b1, o1, rfl, aa, nn, cc, g0, g1, g2, s4, h5, h6, -⟩ := (r1.ext E5).2 j hlt2
          have hnn := s4.int_len
          have hW : Hid (wall L (j + 1) = wall L j ++ (sget L j).2.2) := Lib.hid (wall_succ L (by rw [HL.out]; exact hlt2))
          have hWl : (wall L j).length ≤ 600000 := wall_len L HV.out j (by rw [HL.out]; omega)
          have hnn5 : nn ≤ 5000 := by have := ((svalid_iff.1 HV.out).2 j (by rw [HL.out]; exact hlt2)).2.2.1; omega
          have hWn : Hid ((wall L (j + 1)).length = (wall L j).length + nn) := Lib.hid (by rw [hW.out, List.length_append, hnn])
          obtain ⟨a3, c3, rfl⟩ := owns_form o5
          have eB := Ext.alloc wr (.cells #[.int .i64 (sget L j).1, .bool (sget L j).2.1, .slice aa nn cc] 40)
          have oB := owns_ext o5 eB
          have sB := s4.ext eB
          have EB := E5.trans eB
          have hsB := EB.size
          generalize (sget L j).1 = tm at *
          generalize (sget L j).2.1 = ky at *
          generalize (sget L j).2.2 = ds at *
          generalize (wall L j).length = Wl at *
          generalize wall L j = W at *
          clear s4 hnn o5 eB
          go_wp2_with (at_builtin; refine wpList_apps _ oB hsB rfl _ _ 22 rfl (.int .u8 0) 1 Tryd.underlying22 info_uint8 rfl rfl aa nn cc _ rfl sB (by intro u hu; simp at hu; obtain ⟨z, -, rfl⟩ := hu; rfl) (by omega) (by omega) ?_; intro v8 w8 own8 gr8)
          have E8 : Ext w1 w8 := Ext.grown EB gr8 (owns_ge oB)
          rw [← List.map_append, ← hW.out, ← hWn.out] at own8
          clear oB sB EB gr8 g0 g1 g2
          go_wp2_with fail
          go_roundw
          case rel => exact ⟨j + 1, by omega, by go_num, E8, own8⟩
          case measure => simp [intOf]; omega
        · obtain rfl : j = k := by omega
          go_wp2
          go_ret
          rw [wcont_yes HV.out, HL.out]
          obtain ⟨a9, c9, rfl⟩ := owns_form o5
          exact ⟨a9, c9, rfl, owns_mono o5 hs1, E1.trans E5⟩
theorem impl_WriteContainer_any (a : Option Addr) (c n : Nat) (L : List Smp) (w : World) (hn : n ≤ 9223372036854775807) (r : SP w a n L) :
    Calls Tryd.prog 7 #[.slice a n c] w fun e w' => ∃ a' c', e = .returned (.slice a' (wcont L).length c') ∧ w'.ownsRow w.heap.size 5 1 (.slice a' (wcont L).length c') (wcont L).length ((wcont L).map (Value.int .u8)) ∧ Ext w w' := by
  cases hv : svalid L with
  | true => exact impl_WriteContainer_yes a c n L w hn r hv
  | false =>
    rw [wcont_no hv]
    refine (impl_WriteContainer_no a c n L w hn r hv).mono ?_
    rintro e w1 ⟨rfl, e1⟩
    exact ⟨none, 0, rfl, World.ownsRow_nil _ _ _ _, e1⟩
end Go.Proofs.YtpjjadmjdafkeaaDoor
