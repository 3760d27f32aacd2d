/- MotionBlock on valid arguments; the laws' comparisons. | The intra macroblock: the reference's; both sides for all arguments. | Equality of structs of integers: macroblocks compared. | Words of the laws of macroblocks. -/
import Derived.Test.YtbnhaegidfbgbaaDoorQd19
namespace Go.Proofs.YtbnhaegidfbgbaaDoor
open Go.RowKit
set_option maxHeartbeats 1000000
set_option maxRecDepth 100000 in
theorem MotionBlock_yes (p : Pic) (x y : Nat) (vx vy : Int) (a : Option Addr) (c n : Nat) (w : World) (hv : p.valid) (hn : n = p.px.length) (s : Sl w a n (p.px.map (Value.int .i64))) (hvv : vv vx vy) (hb : (0 ≤ (x : Int)) ∧ ((x : Int) < p.w) ∧ ((x : Int) % 8 = 0) ∧ (0 ≤ (y : Int)) ∧ ((y : Int) < p.h) ∧ ((y : Int) % 8 = 0)) :
 Calls Tryd.prog 16 #[.agg #[.int .i64 p.w, .int .i64 p.h, .slice a n c], .int .i64 (x : Nat), .int .i64 (y : Nat), .agg #[.int .i64 vx, .int .i64 vy]] w fun e w' => ∃ a' c', e = .returned (.slice a' 64 c') ∧ w'.ownsRow w.heap.size 3 1 (.slice a' 64 c') 64 ((blkL p x y vx vy).map (Value.int .i64)) ∧ Ext w w' := by
 have HN := Lib.hid hn
 have hl := Pic.len_le hv
 rw [← hn] at hl
 have hx100 : x ≤ 24 := by have h1 := hv.1.2.1; have h2 := hb.2.1; have h3 := hb.2.2.1; omega
 have hy100 : y ≤ 24 := by have h1 := hv.2.1.2.1; have h2 := hb.2.2.2.2.1; have h3 := hb.2.2.2.2.2; omega
 have HV := Lib.hid hv
 have HVV := Lib.hid hvv
 have D0 := Lib.hid (show decide p.valid = true from decide_eq_true hv)
 have D2 := Lib.hid (show decide ((0 ≤ (x : Int)) ∧ ((x : Int) < p.w) ∧ ((x : Int) % 8 = 0) ∧ (0 ≤ (y : Int)) ∧ ((y : Int) < p.h) ∧ ((y : Int) % 8 = 0)) = true from decide_eq_true hb)
 clear hn hb hv hvv
 have a0_1 := Ext.alloc (w.alloc (.cells #[.int .i64 p.w, .int .i64 p.h, .slice a n c] 25)) (.cells #[.int .i64 vx, .int .i64 vy] 27)
 have X0_0 := a0_1.blk (blk_new w (.cells #[.int .i64 p.w, .int .i64 p.h, .slice a n c] 25))
 have X1_0 := blk_new (w.alloc (.cells #[.int .i64 p.w, .int .i64 p.h, .slice a n c] 25)) (.cells #[.int .i64 vx, .int .i64 vy] 27)
 have E_0 := (Ext.alloc w (.cells #[.int .i64 p.w, .int .i64 p.h, .slice a n c] 25)).trans (Ext.alloc (w.alloc (.cells #[.int .i64 p.w, .int .i64 p.h, .slice a n c] 25)) (.cells #[.int .i64 vx, .int .i64 vy] 27))
 simp only [World.size_alloc] at X1_0
 clear a0_1
 obtain ⟨-, k0_0, k0_1, k0_2, -⟩ := bx3 X0_0
 obtain ⟨-, k1_0, k1_1, -⟩ := bx2 X1_0
 go_enter Tryd.func16, Tryd.ntmps16
 go_wp2_with fail
 refine (impl_PictureValid_any p a c n _ HN.out (by omega) (s.ext E_0)).mono ?_
 rw [D0.out]
 rintro e w_1 ⟨rfl, e_1⟩
 have X0_1 := e_1.blk X0_0
 have X1_1 := e_1.blk X1_0
 have E_1 := E_0.trans e_1
 clear k0_0 k0_1 k0_2 X0_0 k1_0 k1_1 X1_0 E_0 e_1
 obtain ⟨-, k0_0, k0_1, k0_2, -⟩ := bx3 X0_1
 obtain ⟨-, k1_0, k1_1, -⟩ := bx2 X1_1
 go_wp2_with fail
 refine (impl_VectorValid_yes vx vy _ HVV.out).mono ?_
 rintro e w_2 ⟨rfl, e_2⟩
 have X0_2 := e_2.blk X0_1
 have X1_2 := e_2.blk X1_1
 have E_2 := E_1.trans e_2
 clear k0_0 k0_1 k0_2 X0_1 k1_0 k1_1 X1_1 E_1 e_2
 obtain ⟨-, k0_0, k0_1, k0_2, -⟩ := bx3 X0_2
 obtain ⟨-, k1_0, k1_1, -⟩ := bx2 X1_2
 go_wp2_with fail
 refine (begins_any p x y a c n _).mono ?_
 rw [D2.out]
 rintro e w_3 ⟨rfl, e_3⟩
 have X0_3 := e_3.blk X0_2
 have X1_3 := e_3.blk X1_2
 have E_3 := E_2.trans e_3
 clear k0_0 k0_1 k0_2 X0_2 k1_0 k1_1 X1_2 E_2 e_3
 obtain ⟨-, k0_0, k0_1, k0_2, -⟩ := bx3 X0_3
 obtain ⟨-, k1_0, k1_1, -⟩ := bx2 X1_3
 go_wp2_with fail
 have hvv := HVV.out
 refine (moved_any p x y vx vy a c n _ HV.out HN.out (s.ext E_3) (by omega) (by omega) (by omega) (by omega) hvv.1 hvv.2.1 hvv.2.2.1 hvv.2.2.2).mono ?_
 rintro e w6 ⟨a6, c6, rfl, o6, e6⟩
 have E6 := E_3.trans e6
 have o7 := owns_mono o6 E_3.size
 clear E_3 e6 o6 hvv
 go_wp2
 go_ret
 exact ⟨a6, c6, rfl, o7, E6⟩
set_option maxRecDepth 100000 in
theorem sameInts_same (a b : Option Addr) (c d n : Nat) (zs : List Int) (w : World) (hn : n < 2^40) (r : Sl w a n (zs.map (Value.int .i64))) (s : Sl w b n (zs.map (Value.int .i64))) :
 Calls Tryd.prog 15 #[.slice a n c, .slice b n d] w fun e w' => e = .returned (.bool true) ∧ Ext w w' := by
 have hnn : ((n : Int) != n) = false := by simp
 go_enter Tryd.func15, Tryd.ntmps15
 go_wp2
 go_loopw [5] (fun i wr => ∃ k : Nat, k ≤ n ∧ i = .int .i64 k ∧ Ext w wr) (fun i _ => n - (intOf i).toNat)
 case atStart => exact ⟨0, by omega, rfl, Below.refl _ _⟩
 case round =>
  obtain ⟨k, hk, rfl, E4⟩ := hrel
  by_cases hlt : k < n
  ·have hd : decide ((k : Int) < n) = true := by simp; omega
   obtain ⟨b1, o1, rfl, g1⟩ := r.int hlt
   obtain ⟨b2, o2, rfl, g2⟩ := s.int hlt
   have Ha := Lib.hid (fun (wx : World) (h : Ext w wx) => (r.ext h).int hlt)
   have Hb := Lib.hid (fun (wx : World) (h : Ext w wx) => (s.ext h).int hlt)
   clear g1 g2
   obtain ⟨z, hz⟩ : ∃ z, z = nth zs k := ⟨_, rfl⟩
   rw [← hz] at Ha Hb
   have hzz : (z != z) = false := by simp
   clear hz
   go_wp2_with fail
   refine wp_region_inv2 (by kernel_rfl) [(17, 0), (18, 1), (19, 2), (20, 3), (21, 4), (22, 5), (23, 6), (24, 7), (25, 8)] [[], [], [0, 1], [0, 1, 2], [], [], [4, 5], [4, 5, 6], [0, 1, 2, 3, 4, 5, 6, 7]] (fun i own ys wx => match i with | 0 => own = .slice (some ⟨b1, o1, none⟩) n c | 1 => own = .int .i64 (k : Nat) | 2 => own = .pointer (some ⟨b1, o1 + k, none⟩) | 3 => own = .int .i64 z | 4 => own = .slice (some ⟨b2, o2, none⟩) n d | 5 => own = .int .i64 (k : Nat) | 6 => own = .pointer (some ⟨b2, o2 + k, none⟩) | 7 => own = .int .i64 z | 8 => own = .bool false | _ => True) (fun kx wx => Ext w wx) (by kernel_rfl) (by kernel_rfl) (by kernel_rfl) ?g0_r1 ?gop_r1 ?gend_r1
   case g0_r1 => exact E4.trans_drewN 1
   case gop_r1 =>
    refine ⟨?_, ?_, ?_, ?_, ?_, ?_, ?_, ?_, ?_, trivial⟩
    ·intro kx xs wx hk hG hD hI Qo Kx hK hQo
     clear hD hI
     simp only [patchS, Nat.reduceAdd, Nat.reduceEqDiff, ↓reduceIte] at hQo ⊢
     go_wp2
     exact hK.out _ _ ⟨rfl, hG, fun _ _ _ _ _ _ h => h⟩
    ·intro kx xs wx hk hG hD hI Qo Kx hK hQo
     clear hD hI
     simp only [patchS, Nat.reduceAdd, Nat.reduceEqDiff, ↓reduceIte] at hQo ⊢
     go_wp2
     exact hK.out _ _ ⟨rfl, hG, fun _ _ _ _ _ _ h => h⟩
    ·intro kx xs wx hk hG hD hI Qo Kx hK hQo
     have d0 : (xs 0) = .slice (some ⟨b1, o1, none⟩) n c := hD 0 rfl
     have d1 : (xs 1) = .int .i64 (k : Nat) := hD 1 rfl
     clear hD hI
     simp only [patchS, Nat.reduceAdd, Nat.reduceEqDiff, ↓reduceIte] at hQo ⊢
     generalize xs 0 = y0 at *
     generalize xs 1 = y1 at *
     subst d0 d1
     go_wp2
     exact hK.out _ _ ⟨rfl, hG, fun _ _ _ _ _ _ h => h⟩
    ·intro kx xs wx hk hG hD hI Qo Kx hK hQo
     have d2 : (xs 2) = .pointer (some ⟨b1, o1 + k, none⟩) := hD 2 rfl
     clear hD hI
     simp only [patchS, Nat.reduceAdd, Nat.reduceEqDiff, ↓reduceIte] at hQo ⊢
     generalize xs 2 = y2 at *
     subst d2
     obtain ⟨q1, q2, he, cx⟩ := Ha.out wx hG
     simp only [Option.some.injEq, Addr.mk.injEq, and_true] at he
     obtain ⟨rfl, rfl⟩ := he
     go_wp2
     exact hK.out _ _ ⟨rfl, hG, fun _ _ _ _ _ _ h => h⟩
    ·intro kx xs wx hk hG hD hI Qo Kx hK hQo
     clear hD hI
     simp only [patchS, Nat.reduceAdd, Nat.reduceEqDiff, ↓reduceIte] at hQo ⊢
     go_wp2
     exact hK.out _ _ ⟨rfl, hG, fun _ _ _ _ _ _ h => h⟩
    ·intro kx xs wx hk hG hD hI Qo Kx hK hQo
     clear hD hI
     simp only [patchS, Nat.reduceAdd, Nat.reduceEqDiff, ↓reduceIte] at hQo ⊢
     go_wp2
     exact hK.out _ _ ⟨rfl, hG, fun _ _ _ _ _ _ h => h⟩
    ·intro kx xs wx hk hG hD hI Qo Kx hK hQo
     have d4 : (xs 4) = .slice (some ⟨b2, o2, none⟩) n d := hD 4 rfl
     have d5 : (xs 5) = .int .i64 (k : Nat) := hD 5 rfl
     clear hD hI
     simp only [patchS, Nat.reduceAdd, Nat.reduceEqDiff, ↓reduceIte] at hQo ⊢
     generalize xs 4 = y4 at *
     generalize xs 5 = y5 at *
     subst d4 d5
     go_wp2
     exact hK.out _ _ ⟨rfl, hG, fun _ _ _ _ _ _ h => h⟩
    ·intro kx xs wx hk hG hD hI Qo Kx hK hQo
     have d6 : (xs 6) = .pointer (some ⟨b2, o2 + k, none⟩) := hD 6 rfl
     clear hD hI
     simp only [patchS, Nat.reduceAdd, Nat.reduceEqDiff, ↓reduceIte] at hQo ⊢
     generalize xs 6 = y6 at *
     subst d6
     obtain ⟨q1, q2, he, cx⟩ := Hb.out wx hG
     simp only [Option.some.injEq, Addr.mk.injEq, and_true] at he
     obtain ⟨rfl, rfl⟩ := he
     go_wp2
     exact hK.out _ _ ⟨rfl, hG, fun _ _ _ _ _ _ h => h⟩
    ·intro kx xs wx hk hG hD hI Qo Kx hK hQo
     have d3 : (xs 3) = .int .i64 z := hD 3 rfl
     have d7 : (xs 7) = .int .i64 z := hD 7 rfl
     clear hD hI
     simp only [patchS, Nat.reduceAdd, Nat.reduceEqDiff, ↓reduceIte] at hQo ⊢
     generalize xs 3 = y3 at *
     generalize xs 7 = y7 at *
     subst d3 d7
     go_wp2
     exact hK.out _ _ ⟨rfl, hG, fun _ _ _ _ _ _ h => h⟩
   intro xs wx hV hG
   have d0 : (xs 0) = .slice (some ⟨b1, o1, none⟩) n c := hV 0 (by decide)
   have d1 : (xs 1) = .int .i64 (k : Nat) := hV 1 (by decide)
   have d2 : (xs 2) = .pointer (some ⟨b1, o1 + k, none⟩) := hV 2 (by decide)
   have d3 : (xs 3) = .int .i64 z := hV 3 (by decide)
   have d4 : (xs 4) = .slice (some ⟨b2, o2, none⟩) n d := hV 4 (by decide)
   have d5 : (xs 5) = .int .i64 (k : Nat) := hV 5 (by decide)
   have d6 : (xs 6) = .pointer (some ⟨b2, o2 + k, none⟩) := hV 6 (by decide)
   have d7 : (xs 7) = .int .i64 z := hV 7 (by decide)
   have d8 : (xs 8) = .bool false := hV 8 (by decide)
   clear hV
   simp only [patchS, Nat.reduceAdd, Nat.reduceEqDiff, ↓reduceIte]
   generalize xs 0 = y0 at *
   generalize xs 1 = y1 at *
   generalize xs 2 = y2 at *
   generalize xs 3 = y3 at *
   generalize xs 4 = y4 at *
   generalize xs 5 = y5 at *
   generalize xs 6 = y6 at *
   generalize xs 7 = y7 at *
   generalize xs 8 = y8 at *
   replace hG : Ext w wx := hG
   clear d0 d1 d2 d3 d4 d5 d6 d7
   subst d8
   clear Ha Hb
   go_wp2
   go_roundw
   case rel => exact ⟨k + 1, by omega, by go_num, hG⟩
   case measure => simp [intOf]; omega
  ·obtain rfl : k = n := by omega
   go_wp2
   go_ret
   exact ⟨rfl, E4⟩
end Go.Proofs.YtbnhaegidfbgbaaDoor
namespace Go.Proofs.YtbnhaegidfbgbaaDoor
open Go.RowKit
set_option maxHeartbeats 1000000
theorem impl_IntraMacro_any (t p : Pic) (x y q top : Int) (a b : Option Addr) (c d n l : Nat) (w : World) (hT : TabQ w) (hn : n = t.px.length) (hl : l = p.px.length) (nc : n ≤ 9223372036854775807) (lc : l ≤ 9223372036854775807) (s : Sl w a n (t.px.map (Value.int .i64))) (u : Sl w b l (p.px.map (Value.int .i64))) :
 Calls Tryd.prog 25 #[.agg #[.int .i64 t.w, .int .i64 t.h, .slice a n c], .agg #[.int .i64 p.w, .int .i64 p.h, .slice b l d], .int .i64 x, .int .i64 y, .int .i64 q, .int .i64 top] w fun e w' => e = .returned (.agg (ic (intraP t p x y q top).zs)) ∧ Ext w w' := by
 by_cases ho : okN t p x y q top
 ·rw [intraP_yes ho]
  obtain ⟨h0, h1, h2, h3⟩ := ho
  have hx := h1.2
  have hw := h0.1.1
  have hh := h0.1.2.1
  have hpw := h0.2.1.1
  have hph := h0.2.1.2.1
  have hsm := h0.2.2
  obtain ⟨pw, ph, px⟩ := p
  simp only at hpw hph hsm hl u
  obtain ⟨W, rfl⟩ : ∃ v : Nat, pw = (v : Int) := ⟨pw.toNat, by have := hpw.1; omega⟩
  obtain ⟨H, rfl⟩ : ∃ v : Nat, ph = (v : Int) := ⟨ph.toNat, by have := hph.1; omega⟩
  have h := impl_IntraMacro_yes_5 t W H x.toNat y.toNat px q.toNat top a b c d n l w hT hn hl nc lc s u h0.1 h0.2.1 (by have := hw.2.2; have := hpw.2.2; omega) (by have := hh.2.2; have := hph.2.2; omega) (by have := hpw.2.1; omega) (by have := hph.2.1; omega) (by omega) h3.1 h0 (by rw [show ((x.toNat : Nat) : Int) = x by omega, show ((y.toNat : Nat) : Int) = y by omega]; exact hx) (by omega) h3.1 (by omega)
  rw [show ((x.toNat : Nat) : Int) = x by omega, show ((y.toNat : Nat) : Int) = y by omega, show ((q.toNat : Nat) : Int) = q by omega] at h
  exact h
 ·rw [intraP_no ho, mac0_zz]
  by_cases h0 : alikeP t p
  ·by_cases h1 : (0 ≤ x) ∧ (x < t.w) ∧ (x % 8 = 0) ∧ (0 ≤ y) ∧ (y < t.h) ∧ (y % 8 = 0)
   ·by_cases h2 : 0 ≤ q ∧ q ≤ 15
    ·by_cases h3 : 0 ≤ top
     ·by_cases h4 : top ≤ y
      ·exact absurd ⟨h0, ⟨h0.1, h1⟩, h2, h3, h4⟩ ho
      ·exact impl_IntraMacro_no_4 t p x y q top a b c d n l w hn hl nc lc s u h0 h1 h2 h3 h4
     ·exact impl_IntraMacro_no_3 t p x y q top a b c d n l w hn hl nc lc s u h0 h1 h2 h3
    ·exact impl_IntraMacro_no_2 t p x y q top a b c d n l w hn hl nc lc s u h0 h1 h2
   ·exact impl_IntraMacro_no_1 t p x y q top a b c d n l w hn hl nc lc s u h0 h1
  ·exact impl_IntraMacro_no_0 t p x y q top a b c d n l w hn hl nc lc s u h0
set_option maxRecDepth 100000 in
set_option maxHeartbeats 2000000 in
theorem l8Intra_yes (t : Pic) (W H x y : Nat) (px : List Int) (q : Nat) (top : Int) (a b : Option Addr) (c d n l : Nat) (w : World) (hn : n = t.px.length) (hl : l = px.length) (nc : n ≤ 9223372036854775807) (lc : l ≤ 9223372036854775807) (s : Sl w a n (t.px.map (Value.int .i64))) (u : Sl w b l (px.map (Value.int .i64))) (htv : t.valid) (hpv : Pic.valid ⟨W, H, px⟩) (hx8 : x + 8 ≤ W) (hy8 : y + 8 ≤ H) (hW32 : W ≤ 32) (hH32 : H ≤ 32) (hq : q < 16) (ht0 : 0 ≤ top) :
 Calls Tryd.prog 70 #[.agg #[.int .i64 t.w, .int .i64 t.h, .slice a n c], .agg #[.int .i64 W, .int .i64 H, .slice b l d], .int .i64 (x : Nat), .int .i64 (y : Nat), .int .i64 (q : Nat), .int .i64 top] w fun e w' => e = .returned (.agg (ic (inMac t ⟨W, H, px⟩ x y q top 4).zs)) ∧ Ext w w' := by
 have HN := Lib.hid hn
 have HL0 := Lib.hid hl
 have hnW : l = W * H := by
  have h1 := hpv.2.2.1
  simp only [← Int.natCast_mul] at h1
  rw [hl]; exact Int.ofNat.inj h1
 have hn1k : l ≤ 1024 := by rw [hnW]; exact Nat.mul_le_mul hW32 hH32
 have inn : ∀ u v : Nat, u + 4 ≤ H → v + 4 ≤ W → (u + 3) * W + v + 3 < l := fun u v h1 h2 => by
  have h3 := Nat.mul_le_mul_right W (show u + 4 ≤ H by omega)
  rw [Nat.add_mul, Nat.mul_comm H W, ← hnW] at h3
  rw [Nat.add_mul]
  omega
 have hl0 : 0 < l := by have := inn 0 0 (by omega) (by omega); omega
 have Inn := Lib.hid inn
 have HV := Lib.hid (fun k => inS_valid t hpv x y q top k)
 have HLn := Lib.hid (fun k => show l = (inS t ⟨W, H, px⟩ x y q top k).1.length by rw [inS_len, hl])
 have HMl := Lib.hid (fun k (hk : k ≤ 4) => Mac.zs_len (inMac_ok t ⟨W, H, px⟩ x y q top hk))
 have HL := Lib.hid (show l = (Pic.mk W H px).px.length from hl)
 clear hn hl hpv hnW inn
 have a0_1 := Ext.alloc (w.alloc (.cells #[.int .i64 t.w, .int .i64 t.h, .slice a n c] 25)) (.cells #[.int .i64 W, .int .i64 H, .slice b l d] 25)
 have a0_2 := Ext.alloc ((w.alloc (.cells #[.int .i64 t.w, .int .i64 t.h, .slice a n c] 25)).alloc (.cells #[.int .i64 W, .int .i64 H, .slice b l d] 25)) (.cells (ic (zl 71)) 34)
 have X0_0 := a0_2.blk (a0_1.blk (blk_new w (.cells #[.int .i64 t.w, .int .i64 t.h, .slice a n c] 25)))
 have a1_2 := Ext.alloc ((w.alloc (.cells #[.int .i64 t.w, .int .i64 t.h, .slice a n c] 25)).alloc (.cells #[.int .i64 W, .int .i64 H, .slice b l d] 25)) (.cells (ic (zl 71)) 34)
 have X1_0 := a1_2.blk (blk_new (w.alloc (.cells #[.int .i64 t.w, .int .i64 t.h, .slice a n c] 25)) (.cells #[.int .i64 W, .int .i64 H, .slice b l d] 25))
 have X2_0 := IB.new ((w.alloc (.cells #[.int .i64 t.w, .int .i64 t.h, .slice a n c] 25)).alloc (.cells #[.int .i64 W, .int .i64 H, .slice b l d] 25)) 34 (zl 71)
 have E_0 := ((Ext.alloc w (.cells #[.int .i64 t.w, .int .i64 t.h, .slice a n c] 25)).trans (Ext.alloc (w.alloc (.cells #[.int .i64 t.w, .int .i64 t.h, .slice a n c] 25)) (.cells #[.int .i64 W, .int .i64 H, .slice b l d] 25))).trans (Ext.alloc ((w.alloc (.cells #[.int .i64 t.w, .int .i64 t.h, .slice a n c] 25)).alloc (.cells #[.int .i64 W, .int .i64 H, .slice b l d] 25)) (.cells (ic (zl 71)) 34))
 simp only [World.size_alloc] at X1_0 X2_0
 clear a0_1 a0_2 a1_2
 obtain ⟨B, hB⟩ : ∃ B, B = w.heap.size := ⟨_, rfl⟩
 have ia := IB.new (((w.alloc (.cells #[.int .i64 t.w, .int .i64 t.h, .slice a n c] 25)).alloc (.cells #[.int .i64 W, .int .i64 H, .slice b l d] 25)).alloc (.cells (ic (zl 71)) 34)) 34 (zl 71)
 have ea := Ext.alloc (((w.alloc (.cells #[.int .i64 t.w, .int .i64 t.h, .slice a n c] 25)).alloc (.cells #[.int .i64 W, .int .i64 H, .slice b l d] 25)).alloc (.cells (ic (zl 71)) 34)) (.cells (ic (zl 71)) 34)
 have Y0 := ea.blk X0_0
 have Y1 := ea.blk X1_0
 have Y3 := X2_0.ext ea
 have F0 := E_0.trans ea
 simp only [World.size_alloc] at ia
 clear X0_0 X1_0 X2_0 E_0 ea
 go_enter Tryd.func70, Tryd.ntmps70
 go_wp2_with (first | (refine wpList_iallocz 34 rfl rfl 71 zeroq_M ?_; (try simp only [World.size_alloc])) | (refine wpList_istore 34 _ _ rfl rfl ia 0 71 rfl _ rfl (Mac.zs ⟨2, 0, 0, zero4, zl 64⟩) (by exact inMac_build) size_Macro (Mac.zs_len ⟨rfl, zl_len 64⟩) (by simp [zl]) ?_; intro w5 i5 g5; refine Hid.out ?_))
 rw [spl_all (by rw [Mac.zs_len ⟨rfl, zl_len 64⟩, zl_len])] at i5
 try simp only [World.size_alloc]
 rw [← hB] at i5 g5 Y0 Y1 Y3 ⊢
 have hwB : w.heap.size ≤ B := by omega
 have HB := Lib.hid hB
 clear hB ia
 obtain ⟨M, hM⟩ : ∃ M, M = B + 1 + 1 + 1 := ⟨_, rfl⟩
 rw [← hM] at i5 g5 ⊢
 have hBM : B + 1 + 1 < M := by omega
 have HM := Lib.hid hM
 clear hM
 have Z0 := blk_gr Y0 g5 (by simp; omega)
 have Z1 := blk_gr Y1 g5 (by simp; omega)
 have Z3 := Y3.gr g5 (by simp; omega)
 have F1 : Ext w w5 := Ext.grown F0 g5 (fun k e => by cases e; omega)
 clear Y0 Y1 Y3 F0 g5
 refine Lib.hid ?_
 obtain ⟨-, k1, k2, k3, -⟩ := bx3 Z0
 go_wp2_with fail
 refine (l7Block_any t x y 0 0 a c n _ htv HN.out (s.ext F1) (by omega) (by omega) (by omega) (by omega) (by omega) (by omega) (by omega) (by omega)).mono ?_
 rintro e w4 ⟨a4, c4, rfl, o4, e4⟩
 have hM5 := i5.lt
 have S4b : ∀ z, a4 = some z → M < z.block ∧ z.block < w4.heap.size := fun z hz => by
  have := o4.lt z.block (by rw [hz]; rfl)
  omega
 have S4 := Sl.of_owns o4
 have G0 := e4.blk Z0
 have G1 := e4.blk Z1
 have G3 := Z3.ext e4
 have j5 := i5.ext e4
 have F2 := F1.trans e4
 clear Z0 Z1 Z3 F1 i5 e4 o4 k1 k2 k3
 obtain ⟨-, k1, k2, k3, -⟩ := bx3 G1
 go_wp2_with fail
 refine (l8Copy_any W H b d l px _ (by omega) hl0 (u.ext F2)).mono ?_
 rintro e wa ⟨a1, c1, rfl, own1, e2⟩
 have hgo : ∃ g, a1 = some ⟨g, 0, none⟩ ∧ g < wa.heap.size ∧ w4.heap.size ≤ g := by
  rcases own1.2 with ⟨-, h0⟩ | ⟨g, cc, cur, hv, hb, hb2, -⟩
  ·omega
  ·simp only [Value.slice.injEq] at hv
   exact ⟨g, hv.1, lt_of_block hb2, hb⟩
 obtain ⟨g, rfl, hg1, hg2⟩ := hgo
 have hMs := j5.lt
 have r0 := e2.blk G0
 have r2 := G3.ext e2
 have r5 := j5.ext e2
 have S5 := S4.ext e2
 have E2 := F2.trans e2
 have own0 := owns_mono own1 F2.size
 clear G0 G1 G3 j5 F2 e2 own1 k1 k2 k3 S4
 have a5 := Ext.alloc wa (.cells #[.int .i64 W, .int .i64 H, .slice (some ⟨g, 0, none⟩) l c1] 25)
 have z0 := a5.blk r0
 have z2 := r2.ext a5
 have z5 := r5.ext a5
 have S6 := S5.ext a5
 have z4 := blk_new wa (.cells #[.int .i64 W, .int .i64 H, .slice (some ⟨g, 0, none⟩) l c1] 25)
 have own2 := owns_ext own0 a5
 have E3 := E2.trans a5
 have hO1 := r5.lt
 obtain ⟨O, hOe⟩ : ∃ O, O = wa.heap.size := ⟨_, rfl⟩
 rw [← hOe] at z4 hg1 hO1
 have HO2 := Lib.hid hOe
 clear r0 r2 r5 own0 E2 a5 S5
 go_upto_region 4 with fail
 rw [← hOe]
 clear hOe
 generalize wa.alloc (.cells #[.int .i64 W, .int .i64 H, .slice (some ⟨g, 0, none⟩) l c1] 25) = w2 at *
 have NN : NS w g l c1 t.w t.h a n c W H B O M px (Mac.zs ⟨2, 0, 0, zero4, zl 64⟩) w2 :=
  ⟨E3, own2, z0, z4, z2, z5, ⟨hwB, by omega, by omega, by omega⟩, ⟨by omega, by omega, by omega, by omega, by omega, by omega, by omega⟩⟩
 have SB := Lib.hid (show ∀ z, a4 = some z → z.block ≠ M ∧ z.block ≠ g from fun z hz => by have := S4b z hz; omega)
 clear z0 z2 z4 z5 own2 E3 S4b
 go_wp2_with fail
 go_loopw [16] (fun i wr => ∃ k : Nat, k ≤ 4 ∧ i = .int .i64 k ∧ NS w g l c1 t.w t.h a n c W H B O M (inS t ⟨W, H, px⟩ x y q top k).1 (inMac t ⟨W, H, px⟩ x y q top k).zs wr ∧ Hid (Sl wr a4 64 ((blkL t x y 0 0).map (Value.int .i64)))) (fun i _ => 4 - (intOf i).toNat)
 case atStart => exact ⟨0, by omega, rfl, NN, Lib.hid S6⟩
 case round =>
  obtain ⟨k, hk, rfl, N0, S0⟩ := hrel
  clear NN S6
  by_cases hlt : k < 4
  ·have hd : decide ((k : Int) < 4) = true := by simp; omega
   have hpb := pof_blk t (x : Int) (y : Int) (i := k % 2 * 4) (j := k / 2 * 4) (by omega) (by omega)
   rw [← Int.natCast_add, ← Int.natCast_add] at hpb
   have Hpb := Lib.hid hpb
   clear hpb
   have hZv := HV.out k
   have hZn := HLn.out k
   have hms := HMl.out k (by omega)
   have hst1 := inMac_md t ⟨W, H, px⟩ x y q top hlt
   have hst2 := inMac_lv t ⟨W, H, px⟩ x y q top hlt
   have hst3 := show putS (inS t ⟨W, H, px⟩ x y q top k).1 W (x + k % 2 * 4) (y + k / 2 * 4) (inP t ⟨W, H, px⟩ x y top (inS t ⟨W, H, px⟩ x y q top k).1 k) (dec (inL t ⟨W, H, px⟩ x y q top (inS t ⟨W, H, px⟩ x y q top k).1 k) q) 16 = (inS t ⟨W, H, px⟩ x y q top (k + 1)).1 from rfl
   rw [← hst1] at hst2
   clear hst1
   unfold inL inP inM inE inU at hst2 hst3
   simp only at hst2 hst3
   obtain ⟨Z, hZ⟩ : ∃ Z, Z = (inS t ⟨W, H, px⟩ x y q top k).1 := ⟨_, rfl⟩
   obtain ⟨Z1, hZ1⟩ : ∃ Z, Z = (inS t ⟨W, H, px⟩ x y q top (k + 1)).1 := ⟨_, rfl⟩
   obtain ⟨ms, hms0⟩ : ∃ m, m = (inMac t ⟨W, H, px⟩ x y q top k).zs := ⟨_, rfl⟩
   obtain ⟨ms2, hms2⟩ : ∃ m, m = (inMac t ⟨W, H, px⟩ x y q top (k + 1)).zs := ⟨_, rfl⟩
   rw [← hZ] at N0 hZv hZn hst2 hst3
   rw [← hms0] at N0 hms hst2
   rw [← hZ1] at hst3
   rw [← hms2] at hst2
   have HZ1 := Lib.hid hZ1
   have HM2 := Lib.hid hms2
   have HZv := Lib.hid hZv
   have HZn := Lib.hid hZn
   have Hms := Lib.hid hms
   obtain ⟨xi, hxi⟩ : ∃ v, v = x + k % 2 * 4 := ⟨_, rfl⟩
   obtain ⟨yj, hyj⟩ : ∃ v, v = y + k / 2 * 4 := ⟨_, rfl⟩
   rw [← hxi, ← hyj] at hst2 hst3
   have hxi4 : xi + 4 ≤ W := by omega
   have hyj4 : yj + 4 ≤ H := by omega
   have Hxi := Lib.hid (show (x : Int) + (k : Int) % 2 * 4 = ((xi : Nat) : Int) by omega)
   have Hyj := Lib.hid (show (y : Int) + (k : Int) / 2 * 4 = ((yj : Nat) : Int) by omega)
   have hI := Inn.out yj xi hyj4 hxi4
   have hEok := edg_ok hZv (xi : Int) (yj : Int) top
   have hUs := prt_smp htv (xi : Int) (yj : Int)
   have hUl := prt_len t (xi : Int) (yj : Int)
   obtain ⟨U, hU⟩ : ∃ U, U = prt t (xi : Int) (yj : Int) := ⟨_, rfl⟩
   obtain ⟨E, hE⟩ : ∃ E, E = edg ⟨W, H, Z⟩ (xi : Int) (yj : Int) top := ⟨_, rfl⟩
   rw [← hU] at hst2 hst3 hUs hUl
   rw [← hE] at hst2 hst3 hEok
   have hmd4 := bst_le U E
   obtain ⟨md, hmd⟩ : ∃ m, m = bst U E := ⟨_, rfl⟩
   rw [← hmd] at hst2 hst3 hmd4
   have hPs := prd_smp md hEok
   have hPl := prd_len md E
   obtain ⟨PR, hPR⟩ : ∃ P, P = prd md E := ⟨_, rfl⟩
   rw [← hPR] at hst2 hst3 hPs hPl
   have hdr := dif_rng hUs hPs hUl hPl
   have hLl := cod_len (dif U PR) q
   have hLb := cod_rng (dif_len U PR) hdr hq
   obtain ⟨L, hL⟩ : ∃ L, L = cod (dif U PR) q := ⟨_, rfl⟩
   rw [← hL] at hst2 hst3 hLl hLb
   obtain ⟨D, hD⟩ : ∃ D, D = dec L q := ⟨_, rfl⟩
   rw [← hD] at hst3
   have HDl := Lib.hid (show D.length = 16 by rw [hD, dec_len])
   have HDb := Lib.hid (show bdA 1099511627776 D by rw [hD]; exact dec_bd _ _)
   have HPb := Lib.hid (smp_bd hPs)
   have HUb := Lib.hid (smp_bd hUs)
   have Hst2 := Lib.hid hst2
   have Hst3 := Lib.hid hst3
   have HEok := Lib.hid hEok
   have HUs := Lib.hid hUs
   have HUl := Lib.hid hUl
   have HPs := Lib.hid hPs
   have HPl := Lib.hid hPl
   have Hdr := Lib.hid hdr
   have HLl := Lib.hid hLl
   have HLb := Lib.hid hLb
   have HU := Lib.hid hU
   have HE := Lib.hid hE
   have HMd := Lib.hid hmd
   have HPR := Lib.hid hPR
   have HL := Lib.hid hL
   have HD := Lib.hid hD
   have Hms1 := Lib.hid (show (ms.set (3 + k) (md : Int)).length = 71 by rw [List.length_set, hms])
   have Hmn := Lib.hid (show nth (ms.set (3 + k) (md : Int)) (3 + k) = (md : Int) by simp [nth, hms, show 3 + k < 71 by omega])
   have Hsl := Lib.hid (show sub ms2 (7 + k * 16) 16 = L by rw [← hst2]; exact sub_spl (by rw [List.length_set, hms, hLl]; omega) hLl)
   have Hm2l := Lib.hid (show ms2.length = 71 by rw [← hst2, spl_len (by rw [List.length_set, hms, hLl]; omega), List.length_set, hms])
   clear hZ hZ1 hms0 hms2 hxi hyj hU hE hmd hPR hL hD hst2 hst3 hEok hUs hUl hPs hPl hdr hLl hLb hZv hZn hms
   have Hpu := Lib.hid (show pof (blkL t x y 0 0) (k % 2 * 4) (k / 2 * 4) = U by rw [HU.out, Hpb.out]; congr 1 <;> (have h1 := Hxi.out; have h2 := Hyj.out; omega))
   obtain ⟨-, k1, k2, k3, -⟩ := bx3 N0.br
   go_wp2_with fail
   rw [Hxi.out, Hyj.out]
   refine (l6Edges_any ⟨W, H, Z⟩ xi yj W H top (some ⟨g, 0, none⟩) c1 l _ HZv.out HZn.out (Sl.of_owns N0.own) rfl rfl (by omega) (by omega) ht0).mono ?_
   rintro e w6 ⟨rfl, e6⟩
   rw [← HE.out]
   have N1 := N0.e e6
   have S1 := S0.out.ext e6
   have SK := Lib.hid (fun z hz => sl_bound S1 z hz (by omega))
   have pE := EB.new w6 ed0
   have ea := Ext.alloc w6 (.cells (edC ed0) 97)
   have N2 := N1.e ea
   have S2 := S1.ext ea
   obtain ⟨bE, hbE⟩ : ∃ K, K = w6.heap.size := ⟨_, rfl⟩
   have hlt1 := N1.lt
   have hes := N1.ex.size
   rw [← hbE] at hlt1 hes SK
   have LT := Lib.hid (show w.heap.size ≤ bE ∧ B < bE ∧ g < bE ∧ O < bE ∧ M < bE ∧ B + 1 + 1 < bE from ⟨hes, hlt1.1, hlt1.2.1, hlt1.2.2.1, hlt1.2.2.2.1, hlt1.2.2.2.2⟩)
   clear N0 S0 N1 S1 e6 ea hlt1 hes k1 k2 k3
   go_wp2_with (refine wpList_cstore 97 _ _ rfl rfl pE rfl _ rfl (edC_one E) 11 size_Edges (edC_size HEok.out.ln) (edC_size ed0_ln) ?_; intro w7 i7 g7; refine Hid.out ?_)
   rw [← hbE] at i7 g7 ⊢
   have HbE := Lib.hid hbE
   have N3 := N2.loc g7 (Nat.le_refl _) LT.out
   have S3 := S2.grown g7 (fun z hz => by have := SK.out z hz; simp; omega)
   have iE : EB w7 bE E := i7
   have hME := LT.out.2.2.2.2.1
   clear hbE N2 S2 pE g7 i7
   refine Lib.hid ?_
   go_wp2_with fail
   refine wp_region_invL (by kernel_rfl) [(48, 0), (49, 1), (50, 2), (51, 3), (52, 4), (53, 5), (54, 6), (55, 7)] [[], [], [], [1, 2], [], [1, 2, 3, 4], [], [0, 1, 2, 3, 4, 5, 6], [0, 1, 2, 3, 4, 5, 6, 7]] (fun i own ys wx => match i with | 0 => own = .int .i64 (k : Nat) | 1 => own = .slice a4 64 c4 | 2 => own = .int .i64 (k : Nat) | 3 => own = .agg (ic U) | 4 => own = .agg (edC E) | 5 => own = .int .i64 (md : Nat) | 6 => own = .pointer (some ⟨M, 3, none⟩) | 7 => own = .pointer (some ⟨M, 3 + k, none⟩) | 8 => True | _ => True) (fun Lx wx => NS w g l c1 t.w t.h a n c W H B O M Z (if Lx 8 = true then ms.set (3 + k) (md : Int) else ms) wx ∧ EB wx bE E ∧ Sl wx a4 64 ((blkL t x y 0 0).map (Value.int .i64))) (by kernel_rfl) (by kernel_rfl) (by kernel_rfl) ?g0_r1 ?gop_r1 ?gend_r1
   case g0_r1 => exact ⟨N3.e (Ext.drewN _ 1), EB.ext iE (Ext.drewN _ 1), S3.drewN 1⟩
   case gop_r1 =>
    refine ⟨?_, ?_, ?_, ?_, ?_, ?_, ?_, ?_, ?_, trivial⟩
    ·intro Lx xs wx hG hl ha hb hD hI Qo Kx hK hQo
     have l8 : Lx 8 = false := hb 8 rfl
     clear hl ha hb hD hI
     simp only [patchS, Nat.reduceAdd, Nat.reduceEqDiff, ↓reduceIte] at hQo ⊢
     go_wp2
     exact hK.out _ _ ⟨rfl, hG, fun _ _ _ _ _ _ h => h⟩
    ·intro Lx xs wx hG hl ha hb hD hI Qo Kx hK hQo
     have l8 : Lx 8 = false := hb 8 rfl
     clear hl ha hb hD hI
     simp only [patchS, Nat.reduceAdd, Nat.reduceEqDiff, ↓reduceIte] at hQo ⊢
     go_wp2
     exact hK.out _ _ ⟨rfl, hG, fun _ _ _ _ _ _ h => h⟩
    ·intro Lx xs wx hG hl ha hb hD hI Qo Kx hK hQo
     have l8 : Lx 8 = false := hb 8 rfl
     clear hl ha hb hD hI
     simp only [patchS, Nat.reduceAdd, Nat.reduceEqDiff, ↓reduceIte] at hQo ⊢
     go_wp2
     exact hK.out _ _ ⟨rfl, hG, fun _ _ _ _ _ _ h => h⟩
    ·intro Lx xs wx hG hl ha hb hD hI Qo Kx hK hQo
     have l8 : Lx 8 = false := hb 8 rfl
     clear hl ha hb
     have d1 : (xs 1) = .slice a4 64 c4 := hD 1 rfl
     have d2 : (xs 2) = .int .i64 (k : Nat) := hD 2 rfl
     clear hD hI
     simp only [patchS, Nat.reduceAdd, Nat.reduceEqDiff, ↓reduceIte] at hQo ⊢
     generalize xs 1 = y1 at *
     generalize xs 2 = y2 at *
     subst d1 d2
     go_wp2_with fail
     refine (l8Part_any (blkL t x y 0 0) k hlt a4 c4 _ hG.2.2).mono ?_
     rintro e w9 ⟨rfl, e9⟩
     rw [Hpu.out]
     go_wp2
     exact hK.out _ _ ⟨rfl, ⟨hG.1.e e9, EB.ext hG.2.1 e9, hG.2.2.ext e9⟩, fun _ _ _ _ _ _ h => h⟩
    ·intro Lx xs wx hG hl ha hb hD hI Qo Kx hK hQo
     have l8 : Lx 8 = false := hb 8 rfl
     clear hl ha hb hD hI
     simp only [patchS, Nat.reduceAdd, Nat.reduceEqDiff, ↓reduceIte] at hQo ⊢
     go_wp2_with (refine wpList_cload 97 _ rfl rfl hG.2.1 rfl _ Tryd.underlying97 rfl 11 size_Edges (edC_size HEok.out.ln) ?_)
     exact hK.out _ _ ⟨rfl, hG, fun _ _ _ _ _ _ h => h⟩
    ·intro Lx xs wx hG hl ha hb hD hI Qo Kx hK hQo
     have l8 : Lx 8 = false := hb 8 rfl
     clear hl ha hb
     have d3 : (xs 3) = .agg (ic U) := hD 3 rfl
     have d4 : (xs 4) = .agg (edC E) := hD 4 rfl
     clear hD hI
     simp only [patchS, Nat.reduceAdd, Nat.reduceEqDiff, ↓reduceIte] at hQo ⊢
     generalize xs 3 = y3 at *
     generalize xs 4 = y4 at *
     subst d3 d4
     go_wp2_with fail
     refine (spec_BestIntra_any U E _ HUl.out HUs.out HEok.out).mono ?_
     rintro e w9 ⟨rfl, e9⟩
     rw [← HMd.out]
     go_wp2
     exact hK.out _ _ ⟨rfl, ⟨hG.1.e e9, EB.ext hG.2.1 e9, hG.2.2.ext e9⟩, fun _ _ _ _ _ _ h => h⟩
    ·intro Lx xs wx hG hl ha hb hD hI Qo Kx hK hQo
     have l8 : Lx 8 = false := hb 8 rfl
     clear hl ha hb hD hI
     simp only [patchS, Nat.reduceAdd, Nat.reduceEqDiff, ↓reduceIte] at hQo ⊢
     go_wp2
     exact hK.out _ _ ⟨rfl, hG, fun _ _ _ _ _ _ h => h⟩
    ·intro Lx xs wx hG hl ha hb hD hI Qo Kx hK hQo
     have l8 : Lx 8 = false := hb 8 rfl
     clear hl ha hb
     have d0 : (xs 0) = .int .i64 (k : Nat) := hD 0 rfl
     have d6 : (xs 6) = .pointer (some ⟨M, 3, none⟩) := hD 6 rfl
     clear hD hI
     simp only [patchS, Nat.reduceAdd, Nat.reduceEqDiff, ↓reduceIte] at hQo ⊢
     generalize xs 0 = y0 at *
     generalize xs 6 = y6 at *
     subst d0 d6
     go_wp2
     exact hK.out _ _ ⟨rfl, hG, fun _ _ _ _ _ _ h => h⟩
    ·intro Lx xs wx hG hl ha hb hD hI Qo Kx hK hQo
     have l8 : Lx 8 = false := hl
     clear hl ha hb
     have d5 : (xs 5) = .int .i64 (md : Nat) := hD 5 rfl
     have d7 : (xs 7) = .pointer (some ⟨M, 3 + k, none⟩) := hD 7 rfl
     clear hD hI
     simp only [patchS, Nat.reduceAdd, Nat.reduceEqDiff, ↓reduceIte] at hQo ⊢
     generalize xs 5 = y5 at *
     generalize xs 7 = y7 at *
     subst d5 d7
     rw [l8, ifF] at hG
     have cx := hG.1.bm.cell (i := 3 + k) (by rw [Hms.out]; omega)
     have fx := hG.1.bm.frozen (3 + k)
     have N9 := hG.1.mac (gr_set wx M (3 + k) (.int .i64 (md : Nat))) (hG.1.bm.set (3 + k) (md : Int))
     have E9 := EB.set_other hG.2.1 (c := M) (i := 3 + k) (v := .int .i64 (md : Nat)) (by omega)
     have S9 := hG.2.2.grown (gr_set wx M (3 + k) (.int .i64 (md : Nat))) (fun z hz => by have := SB.out z hz; simp; omega)
     go_wp2
     exact hQo undef _ (hK.out _ _ ⟨trivial, ⟨N9, E9, S9⟩, fun _ _ _ _ _ _ h => h⟩)
   intro xs wx hV hG0
   obtain ⟨Lx, hL, hG⟩ := hG0
   have l8 : Lx 8 = true := hL 8 (by decide)
   clear hL
   have d0 : (xs 0) = .int .i64 (k : Nat) := hV 0 (by decide)
   have d1 : (xs 1) = .slice a4 64 c4 := hV 1 (by decide)
   have d2 : (xs 2) = .int .i64 (k : Nat) := hV 2 (by decide)
   have d3 : (xs 3) = .agg (ic U) := hV 3 (by decide)
   have d4 : (xs 4) = .agg (edC E) := hV 4 (by decide)
   have d5 : (xs 5) = .int .i64 (md : Nat) := hV 5 (by decide)
   have d6 : (xs 6) = .pointer (some ⟨M, 3, none⟩) := hV 6 (by decide)
   have d7 : (xs 7) = .pointer (some ⟨M, 3 + k, none⟩) := hV 7 (by decide)
   clear hV
   simp only [patchS, Nat.reduceAdd, Nat.reduceEqDiff, ↓reduceIte]
   generalize xs 0 = y0 at *
   generalize xs 1 = y1 at *
   generalize xs 2 = y2 at *
   generalize xs 3 = y3 at *
   generalize xs 4 = y4 at *
   generalize xs 5 = y5 at *
   generalize xs 6 = y6 at *
   generalize xs 7 = y7 at *
   generalize xs 8 = y8 at *
   replace hG : NS w g l c1 t.w t.h a n c W H B O M Z (if Lx 8 = true then ms.set (3 + k) (md : Int) else ms) wx ∧ EB wx bE E ∧ Sl wx a4 64 ((blkL t x y 0 0).map (Value.int .i64)) := hG
   clear d0 d1 d2 d3 d4 d5 d6 d7
   rw [l8, ifT] at hG
   obtain ⟨N4, iE4, S4⟩ := hG
   clear N3 iE S3
   obtain ⟨K2, hK2⟩ : ∃ K, K = wx.heap.size := ⟨_, rfl⟩
   generalize wx = w11 at *
   have hlt1 := N4.lt
   have hlE := EB.lt iE4
   have hes := N4.ex.size
   have hs2 := fun z hz => sl_bound S4 z hz (by omega)
   rw [← hK2] at hlt1 hlE hes hs2
   have SK2 := Lib.hid hs2
   have LT2 := Lib.hid (show w.heap.size ≤ K2 ∧ B < K2 ∧ g < K2 ∧ O < K2 ∧ M < K2 ∧ B + 1 + 1 < K2 from ⟨hes, hlt1.1, hlt1.2.1, hlt1.2.2.1, hlt1.2.2.2.1, hlt1.2.2.2.2⟩)
   have HK2 := Lib.hid hK2
   have hMK2 := LT2.out.2.2.2.2.1
   clear hK2 hlt1 hes hs2
   go_wp2_with fail
   have hext : ∀ (i : Nat) (own : Value) (ys : Nat → Value) (wa wb : World), Ext wa wb → (match i with | 0 => own = .int .i64 (k : Nat) | 1 => own = .pointer (some ⟨M, 3, none⟩) | 2 => own = .pointer (some ⟨M, 3 + k, none⟩) | 3 => own = .int .i64 (md : Nat) | 4 => own = .agg (edC E) | 5 => own = .agg (ic PR) | 6 => IA wa K2 own | 7 => IS wa K2 (ys 6) PR | _ => True) → (match i with | 0 => own = .int .i64 (k : Nat) | 1 => own = .pointer (some ⟨M, 3, none⟩) | 2 => own = .pointer (some ⟨M, 3 + k, none⟩) | 3 => own = .int .i64 (md : Nat) | 4 => own = .agg (edC E) | 5 => own = .agg (ic PR) | 6 => IA wb K2 own | 7 => IS wb K2 (ys 6) PR | _ => True) := by
    intro i own ys wa wb e h
    match i, h with
    | 0, h => exact h
    | 1, h => exact h
    | 2, h => exact h
    | 3, h => exact h
    | 4, h => exact h
    | 5, h => exact h
    | 6, h => exact h.ext e
    | 7, h => exact h.ext e
    | _ + 8, _ => trivial
   have Hext := Lib.hid hext
   clear hext
   refine wp_region_inv2 (by kernel_rfl) [(20, 6), (56, 0), (57, 1), (58, 2), (59, 3), (60, 4), (61, 5)] [[], [], [0, 1], [0, 1, 2], [], [0, 1, 2, 3, 4], [], [0, 1, 2, 3, 4, 5, 6]] (fun i own ys wx => match i with | 0 => own = .int .i64 (k : Nat) | 1 => own = .pointer (some ⟨M, 3, none⟩) | 2 => own = .pointer (some ⟨M, 3 + k, none⟩) | 3 => own = .int .i64 (md : Nat) | 4 => own = .agg (edC E) | 5 => own = .agg (ic PR) | 6 => IA wx K2 own | 7 => IS wx K2 (ys 6) PR | _ => True) (fun kx wx => NS w g l c1 t.w t.h a n c W H B O M Z (ms.set (3 + k) (md : Int)) wx ∧ K2 ≤ wx.heap.size ∧ EB wx bE E ∧ Sl wx a4 64 ((blkL t x y 0 0).map (Value.int .i64))) (by kernel_rfl) (by kernel_rfl) (by kernel_rfl) ?g0_r2 ?gop_r2 ?gend_r2
   case g0_r2 => exact ⟨N4.e (Ext.drewN _ 1), by rw [HK2.out]; exact Nat.le_refl _, EB.ext iE4 (Ext.drewN _ 1), S4.drewN 1⟩
   case gop_r2 =>
    refine ⟨?_, ?_, ?_, ?_, ?_, ?_, ?_, ?_, trivial⟩
    ·intro kx xs wx hk hG hD hI Qo Kx hK hQo
     clear hD hI
     simp only [patchS, Nat.reduceAdd, Nat.reduceEqDiff, ↓reduceIte] at hQo ⊢
     go_wp2
     exact hK.out _ _ ⟨rfl, hG, fun _ _ _ _ _ _ h => h⟩
    ·intro kx xs wx hk hG hD hI Qo Kx hK hQo
     clear hD hI
     simp only [patchS, Nat.reduceAdd, Nat.reduceEqDiff, ↓reduceIte] at hQo ⊢
     go_wp2
     exact hK.out _ _ ⟨rfl, hG, fun _ _ _ _ _ _ h => h⟩
    ·intro kx xs wx hk hG hD hI Qo Kx hK hQo
     have d0 : (xs 0) = .int .i64 (k : Nat) := hD 0 rfl
     have d1 : (xs 1) = .pointer (some ⟨M, 3, none⟩) := hD 1 rfl
     clear hD hI
     simp only [patchS, Nat.reduceAdd, Nat.reduceEqDiff, ↓reduceIte] at hQo ⊢
     generalize xs 0 = y0 at *
     generalize xs 1 = y1 at *
     subst d0 d1
     go_wp2
     exact hK.out _ _ ⟨rfl, hG, fun _ _ _ _ _ _ h => h⟩
    ·intro kx xs wx hk hG hD hI Qo Kx hK hQo
     have d2 : (xs 2) = .pointer (some ⟨M, 3 + k, none⟩) := hD 2 rfl
     clear hD hI
     simp only [patchS, Nat.reduceAdd, Nat.reduceEqDiff, ↓reduceIte] at hQo ⊢
     generalize xs 2 = y2 at *
     subst d2
     have cx := hG.1.bm.cell (i := 3 + k) (by rw [Hms1.out]; omega)
     rw [Hmn.out] at cx
     go_wp2
     exact hK.out _ _ ⟨rfl, hG, fun _ _ _ _ _ _ h => h⟩
    ·intro kx xs wx hk hG hD hI Qo Kx hK hQo
     clear hD hI
     simp only [patchS, Nat.reduceAdd, Nat.reduceEqDiff, ↓reduceIte] at hQo ⊢
     go_wp2_with (refine wpList_cload 97 _ rfl rfl hG.2.2.1 rfl _ Tryd.underlying97 rfl 11 size_Edges (edC_size HEok.out.ln) ?_)
     exact hK.out _ _ ⟨rfl, hG, fun _ _ _ _ _ _ h => h⟩
    ·intro kx xs wx hk hG hD hI Qo Kx hK hQo
     have d3 : (xs 3) = .int .i64 (md : Nat) := hD 3 rfl
     have d4 : (xs 4) = .agg (edC E) := hD 4 rfl
     clear hD hI
     simp only [patchS, Nat.reduceAdd, Nat.reduceEqDiff, ↓reduceIte] at hQo ⊢
     generalize xs 3 = y3 at *
     generalize xs 4 = y4 at *
     subst d3 d4
     go_wp2_with fail
     refine (l6Predict_any E md _ HEok.out (by omega)).mono ?_
     rintro e w9 ⟨rfl, e9⟩
     rw [← HPR.out]
     go_wp2
     exact hK.out _ _ ⟨rfl, ⟨hG.1.e e9, Nat.le_trans hG.2.1 e9.size, EB.ext hG.2.2.1 e9, hG.2.2.2.ext e9⟩, fun i _ _ _ own ys h => Hext.out i own ys _ _ e9 h⟩
    ·intro kx xs wx hk hG hD hI Qo Kx hK hQo
     clear hD hI
     simp only [patchS, Nat.reduceAdd, Nat.reduceEqDiff, ↓reduceIte] at hQo ⊢
     have ea := Ext.alloc wx (.cells (ic (List.replicate 16 0)) 31)
     go_wp2
     exact hK.out _ _ ⟨⟨_, _, rfl, hG.2.1, IB.new _ _ (List.replicate 16 0), by simp⟩, ⟨hG.1.e ea, Nat.le_trans hG.2.1 ea.size, EB.ext hG.2.2.1 ea, hG.2.2.2.ext ea⟩, fun i _ _ _ own ys h => Hext.out i own ys _ _ ea h⟩
    ·intro kx xs wx hk hG hD hI Qo Kx hK hQo
     have d6 : IA wx K2 (xs 6) := hD 6 rfl
     have d5 : (xs 5) = .agg (ic PR) := hD 5 rfl
     clear hD hI
     simp only [patchS, Nat.reduceAdd, Nat.reduceEqDiff, ↓reduceIte] at hQo ⊢
     generalize hx6 : xs 6 = y6 at *
     have Hx6 := Lib.hid hx6
     clear hx6
     generalize xs 5 = y5 at *
     obtain ⟨b6, us6, rfl, hb6, z6, l6⟩ := d6
     subst d5
     refine wpList_istore 31 _ _ rfl rfl z6 0 16 rfl _ rfl PR rfl size_A16 HPl.out (by rw [l6]; omega) ?_
     intro w9 i9 g9
     rw [spl_all (by rw [HPl.out, l6])] at i9
     have hst : ∀ (wy : World), StI wx wy → ∀ (ii : Nat), ii < 8 → ii ≠ 7 → ([[], [], [0, 1], [0, 1, 2], [], [0, 1, 2, 3, 4], [], [0, 1, 2, 3, 4, 5, 6]].getD ii []).contains 7 = false → ∀ (own : Value) (ys : Nat → Value), (match ii with | 0 => own = .int .i64 (k : Nat) | 1 => own = .pointer (some ⟨M, 3, none⟩) | 2 => own = .pointer (some ⟨M, 3 + k, none⟩) | 3 => own = .int .i64 (md : Nat) | 4 => own = .agg (edC E) | 5 => own = .agg (ic PR) | 6 => IA wx K2 own | 7 => IS wx K2 (ys 6) PR | _ => True) → (match ii with | 0 => own = .int .i64 (k : Nat) | 1 => own = .pointer (some ⟨M, 3, none⟩) | 2 => own = .pointer (some ⟨M, 3 + k, none⟩) | 3 => own = .int .i64 (md : Nat) | 4 => own = .agg (edC E) | 5 => own = .agg (ic PR) | 6 => IA wy K2 own | 7 => IS wy K2 (ys 6) PR | _ => True) := by
      intro wy hy ii hii hne hc own ys h
      match ii, h with
      | 0, h => exact h
      | 1, h => exact h
      | 2, h => exact h
      | 3, h => exact h
      | 4, h => exact h
      | 5, h => exact h
      | 6, h => exact h.stI hy
      | 7, h => exact absurd rfl hne
      | _ + 8, _ => trivial
     exact hQo undef _ (hK.out _ _ ⟨⟨b6, Hx6.out, hb6, i9⟩, ⟨hG.1.loc g9 hb6 LT2.out, Nat.le_trans hG.2.1 g9.size, EB.gr hG.2.2.1 g9 (by simp; omega), hG.2.2.2.grown g9 (fun z hz => by have := SK2.out z hz; simp; omega)⟩, hst _ ⟨b6, _, _, g9, z6, i9, HPl.out⟩⟩)
   clear Hext
   intro xs wx hV hG
   have d0 : (xs 0) = .int .i64 (k : Nat) := hV 0 (by decide)
   have d1 : (xs 1) = .pointer (some ⟨M, 3, none⟩) := hV 1 (by decide)
   have d2 : (xs 2) = .pointer (some ⟨M, 3 + k, none⟩) := hV 2 (by decide)
   have d3 : (xs 3) = .int .i64 (md : Nat) := hV 3 (by decide)
   have d4 : (xs 4) = .agg (edC E) := hV 4 (by decide)
   have d5 : (xs 5) = .agg (ic PR) := hV 5 (by decide)
   have d6 : IA wx K2 (xs 6) := hV 6 (by decide)
   have d7 : IS wx K2 ((xs 6)) PR := hV 7 (by decide)
   clear hV
   simp only [patchS, Nat.reduceAdd, Nat.reduceEqDiff, ↓reduceIte]
   generalize xs 0 = y0 at *
   generalize xs 1 = y1 at *
   generalize xs 2 = y2 at *
   generalize xs 3 = y3 at *
   generalize xs 4 = y4 at *
   generalize xs 5 = y5 at *
   generalize xs 6 = y6 at *
   generalize xs 7 = y7 at *
   replace hG : NS w g l c1 t.w t.h a n c W H B O M Z (ms.set (3 + k) (md : Int)) wx ∧ K2 ≤ wx.heap.size ∧ EB wx bE E ∧ Sl wx a4 64 ((blkL t x y 0 0).map (Value.int .i64)) := hG
   clear d0 d1 d2 d3 d4 d5 d6
   obtain ⟨bP, rfl, hbP, iP⟩ := d7
   obtain ⟨N5, hK4, iE5, S5⟩ := hG
   clear N4 iE4 S4 hK4 iE5
   have hMP : M < bP := by omega
   have hgP : g < bP := by have := LT2.out.2.2.1; omega
   generalize wx = w12 at *
   go_wp2_with fail
   refine wp_region_invL (by kernel_rfl) [(62, 0), (63, 1), (64, 2), (65, 3), (66, 4), (67, 5), (68, 6), (69, 7), (70, 8), (71, 9)] [[], [], [], [1, 2], [], [1, 2, 3, 4], [], [1, 2, 3, 4, 5, 6], [], [0, 1, 2, 3, 4, 5, 6, 7, 8], [0, 1, 2, 3, 4, 5, 6, 7, 8, 9]] (fun i own ys wx => match i with | 0 => own = .int .i64 (k : Nat) | 1 => own = .slice a4 64 c4 | 2 => own = .int .i64 (k : Nat) | 3 => own = .agg (ic U) | 4 => own = .agg (ic PR) | 5 => own = .agg (ic (dif U PR)) | 6 => own = .int .i64 (q : Nat) | 7 => own = .agg (ic L) | 8 => own = .pointer (some ⟨M, 7, none⟩) | 9 => own = .pointer (some ⟨M, 7 + k * 16, none⟩) | 10 => True | _ => True) (fun Lx wx => NS w g l c1 t.w t.h a n c W H B O M Z (if Lx 10 = true then ms2 else ms.set (3 + k) (md : Int)) wx ∧ IB wx bP 31 PR ∧ Sl wx a4 64 ((blkL t x y 0 0).map (Value.int .i64))) (by kernel_rfl) (by kernel_rfl) (by kernel_rfl) ?g0_r3 ?gop_r3 ?gend_r3
   case g0_r3 => exact ⟨N5.e (Ext.drewN _ 1), iP.drewN 1, S5.drewN 1⟩
   case gop_r3 =>
    refine ⟨?_, ?_, ?_, ?_, ?_, ?_, ?_, ?_, ?_, ?_, ?_, trivial⟩
    ·intro Lx xs wx hG hl ha hb hD hI Qo Kx hK hQo
     have l10 : Lx 10 = false := hb 10 rfl
     clear hl ha hb hD hI
     simp only [patchS, Nat.reduceAdd, Nat.reduceEqDiff, ↓reduceIte] at hQo ⊢
     go_wp2
     exact hK.out _ _ ⟨rfl, hG, fun _ _ _ _ _ _ h => h⟩
    ·intro Lx xs wx hG hl ha hb hD hI Qo Kx hK hQo
     have l10 : Lx 10 = false := hb 10 rfl
     clear hl ha hb hD hI
     simp only [patchS, Nat.reduceAdd, Nat.reduceEqDiff, ↓reduceIte] at hQo ⊢
     go_wp2
     exact hK.out _ _ ⟨rfl, hG, fun _ _ _ _ _ _ h => h⟩
    ·intro Lx xs wx hG hl ha hb hD hI Qo Kx hK hQo
     have l10 : Lx 10 = false := hb 10 rfl
     clear hl ha hb hD hI
     simp only [patchS, Nat.reduceAdd, Nat.reduceEqDiff, ↓reduceIte] at hQo ⊢
     go_wp2
     exact hK.out _ _ ⟨rfl, hG, fun _ _ _ _ _ _ h => h⟩
    ·intro Lx xs wx hG hl ha hb hD hI Qo Kx hK hQo
     have l10 : Lx 10 = false := hb 10 rfl
     clear hl ha hb
     have d1 : (xs 1) = .slice a4 64 c4 := hD 1 rfl
     have d2 : (xs 2) = .int .i64 (k : Nat) := hD 2 rfl
     clear hD hI
     simp only [patchS, Nat.reduceAdd, Nat.reduceEqDiff, ↓reduceIte] at hQo ⊢
     generalize xs 1 = y1 at *
     generalize xs 2 = y2 at *
     subst d1 d2
     go_wp2_with fail
     refine (l8Part_any (blkL t x y 0 0) k hlt a4 c4 _ hG.2.2).mono ?_
     rintro e w9 ⟨rfl, e9⟩
     rw [Hpu.out]
     go_wp2
     exact hK.out _ _ ⟨rfl, ⟨hG.1.e e9, hG.2.1.ext e9, hG.2.2.ext e9⟩, fun _ _ _ _ _ _ h => h⟩
    ·intro Lx xs wx hG hl ha hb hD hI Qo Kx hK hQo
     have l10 : Lx 10 = false := hb 10 rfl
     clear hl ha hb hD hI
     simp only [patchS, Nat.reduceAdd, Nat.reduceEqDiff, ↓reduceIte] at hQo ⊢
     go_wp2_with (refine wpList_iload 31 _ rfl rfl hG.2.1 0 16 rfl _ Tryd.underlying31 rfl size_A16 (by rw [HPl.out]; omega) _ (by rw [sub_all _ _ (HPl.out)]) ?_)
     exact hK.out _ _ ⟨rfl, hG, fun _ _ _ _ _ _ h => h⟩
    ·intro Lx xs wx hG hl ha hb hD hI Qo Kx hK hQo
     have l10 : Lx 10 = false := hb 10 rfl
     clear hl ha hb
     have d3 : (xs 3) = .agg (ic U) := hD 3 rfl
     have d4 : (xs 4) = .agg (ic PR) := hD 4 rfl
     clear hD hI
     simp only [patchS, Nat.reduceAdd, Nat.reduceEqDiff, ↓reduceIte] at hQo ⊢
     generalize xs 3 = y3 at *
     generalize xs 4 = y4 at *
     subst d3 d4
     go_wp2_with fail
     refine (l8Minus_any U PR _ HUl.out HPl.out HUb.out HPb.out).mono ?_
     rintro e w9 ⟨rfl, e9⟩
     go_wp2
     exact hK.out _ _ ⟨rfl, ⟨hG.1.e e9, hG.2.1.ext e9, hG.2.2.ext e9⟩, fun _ _ _ _ _ _ h => h⟩
    ·intro Lx xs wx hG hl ha hb hD hI Qo Kx hK hQo
     have l10 : Lx 10 = false := hb 10 rfl
     clear hl ha hb hD hI
     simp only [patchS, Nat.reduceAdd, Nat.reduceEqDiff, ↓reduceIte] at hQo ⊢
     go_wp2
     exact hK.out _ _ ⟨rfl, hG, fun _ _ _ _ _ _ h => h⟩
    ·intro Lx xs wx hG hl ha hb hD hI Qo Kx hK hQo
     have l10 : Lx 10 = false := hb 10 rfl
     clear hl ha hb
     have d5 : (xs 5) = .agg (ic (dif U PR)) := hD 5 rfl
     have d6 : (xs 6) = .int .i64 (q : Nat) := hD 6 rfl
     clear hD hI
     simp only [patchS, Nat.reduceAdd, Nat.reduceEqDiff, ↓reduceIte] at hQo ⊢
     generalize xs 5 = y5 at *
     generalize xs 6 = y6 at *
     subst d5 d6
     go_wp2_with fail
     refine (spec_CodeBlock_any (dif U PR) q _ (dif_len _ _) Hdr.out hq).mono ?_
     rintro e w9 ⟨rfl, e9⟩
     rw [← HL.out]
     go_wp2
     exact hK.out _ _ ⟨rfl, ⟨hG.1.e e9, hG.2.1.ext e9, hG.2.2.ext e9⟩, fun _ _ _ _ _ _ h => h⟩
    ·intro Lx xs wx hG hl ha hb hD hI Qo Kx hK hQo
     have l10 : Lx 10 = false := hb 10 rfl
     clear hl ha hb hD hI
     simp only [patchS, Nat.reduceAdd, Nat.reduceEqDiff, ↓reduceIte] at hQo ⊢
     go_wp2
     exact hK.out _ _ ⟨rfl, hG, fun _ _ _ _ _ _ h => h⟩
    ·intro Lx xs wx hG hl ha hb hD hI Qo Kx hK hQo
     have l10 : Lx 10 = false := hb 10 rfl
     clear hl ha hb
     have d0 : (xs 0) = .int .i64 (k : Nat) := hD 0 rfl
     have d8 : (xs 8) = .pointer (some ⟨M, 7, none⟩) := hD 8 rfl
     clear hD hI
     simp only [patchS, Nat.reduceAdd, Nat.reduceEqDiff, ↓reduceIte] at hQo ⊢
     generalize xs 0 = y0 at *
     generalize xs 8 = y8 at *
     subst d0 d8
     go_wp2
     exact hK.out _ _ ⟨rfl, hG, fun _ _ _ _ _ _ h => h⟩
    ·intro Lx xs wx hG hl ha hb hD hI Qo Kx hK hQo
     have l10 : Lx 10 = false := hl
     clear hl ha hb
     have d7 : (xs 7) = .agg (ic L) := hD 7 rfl
     have d9 : (xs 9) = .pointer (some ⟨M, 7 + k * 16, none⟩) := hD 9 rfl
     clear hD hI
     simp only [patchS, Nat.reduceAdd, Nat.reduceEqDiff, ↓reduceIte] at hQo ⊢
     generalize xs 7 = y7 at *
     generalize xs 9 = y9 at *
     subst d7 d9
     rw [l10, ifF] at hG
     have ib := hG.1.bm
     refine wpList_istore 31 _ _ rfl rfl ib (7 + k * 16) 16 rfl _ rfl L rfl size_A16 HLl.out (by rw [Hms1.out]; omega) ?_
     intro w9 i9 g9
     rw [Hst2.out] at i9
     exact hQo undef _ (hK.out _ _ ⟨trivial, ⟨hG.1.mac g9 i9, hG.2.1.gr g9 (by simp; omega), hG.2.2.grown g9 (fun z hz => by have := SB.out z hz; simp; omega)⟩, fun _ _ _ _ _ _ h => h⟩)
   intro xs wx hV hG0
   obtain ⟨Lx, hL, hG⟩ := hG0
   have l10 : Lx 10 = true := hL 10 (by decide)
   clear hL
   have d0 : (xs 0) = .int .i64 (k : Nat) := hV 0 (by decide)
   have d1 : (xs 1) = .slice a4 64 c4 := hV 1 (by decide)
   have d2 : (xs 2) = .int .i64 (k : Nat) := hV 2 (by decide)
   have d3 : (xs 3) = .agg (ic U) := hV 3 (by decide)
   have d4 : (xs 4) = .agg (ic PR) := hV 4 (by decide)
   have d5 : (xs 5) = .agg (ic (dif U PR)) := hV 5 (by decide)
   have d6 : (xs 6) = .int .i64 (q : Nat) := hV 6 (by decide)
   have d7 : (xs 7) = .agg (ic L) := hV 7 (by decide)
   have d8 : (xs 8) = .pointer (some ⟨M, 7, none⟩) := hV 8 (by decide)
   have d9 : (xs 9) = .pointer (some ⟨M, 7 + k * 16, none⟩) := hV 9 (by decide)
   clear hV
   simp only [patchS, Nat.reduceAdd, Nat.reduceEqDiff, ↓reduceIte]
   generalize xs 0 = y0 at *
   generalize xs 1 = y1 at *
   generalize xs 2 = y2 at *
   generalize xs 3 = y3 at *
   generalize xs 4 = y4 at *
   generalize xs 5 = y5 at *
   generalize xs 6 = y6 at *
   generalize xs 7 = y7 at *
   generalize xs 8 = y8 at *
   generalize xs 9 = y9 at *
   generalize xs 10 = y10 at *
   replace hG : NS w g l c1 t.w t.h a n c W H B O M Z (if Lx 10 = true then ms2 else ms.set (3 + k) (md : Int)) wx ∧ IB wx bP 31 PR ∧ Sl wx a4 64 ((blkL t x y 0 0).map (Value.int .i64)) := hG
   clear d0 d1 d2 d3 d4 d5 d6 d7 d8 d9
   rw [l10, ifT] at hG
   obtain ⟨N6, iP6, S6⟩ := hG
   clear N5 iP S5
   generalize wx = w13 at *
   go_wp2_with fail
   refine wp_region_invL (by kernel_rfl) [(72, 0), (73, 1), (74, 2), (75, 3), (76, 4), (77, 5), (78, 6), (79, 7), (80, 8), (81, 9), (82, 10)] [[], [], [], [], [], [], [4, 5], [4, 5, 6], [], [4, 5, 6, 7, 8], [0, 1, 2, 3, 4, 5, 6, 7, 8, 9]] (fun i own ys wx => match i with | 0 => own = .agg #[.int .i64 W, .int .i64 H, .slice (some ⟨g, 0, none⟩) l c1] | 1 => own = .int .i64 (xi : Nat) | 2 => own = .int .i64 (yj : Nat) | 3 => own = .agg (ic PR) | 4 => own = .int .i64 (k : Nat) | 5 => own = .pointer (some ⟨M, 7, none⟩) | 6 => own = .pointer (some ⟨M, 7 + k * 16, none⟩) | 7 => own = .agg (ic L) | 8 => own = .int .i64 (q : Nat) | 9 => own = .agg (ic D) | 10 => True | _ => True) (fun Lx wx => NS w g l c1 t.w t.h a n c W H B O M (if Lx 10 = true then Z1 else Z) ms2 wx ∧ IB wx bP 31 PR ∧ Sl wx a4 64 ((blkL t x y 0 0).map (Value.int .i64))) (by kernel_rfl) (by kernel_rfl) (by kernel_rfl) ?g0_r4 ?gop_r4 ?gend_r4
   case g0_r4 => exact ⟨N6.e (Ext.drewN _ 1), iP6.drewN 1, S6.drewN 1⟩
   case gop_r4 =>
    refine ⟨?_, ?_, ?_, ?_, ?_, ?_, ?_, ?_, ?_, ?_, ?_, trivial⟩
    ·intro Lx xs wx hG hl ha hb hD hI Qo Kx hK hQo
     have l10 : Lx 10 = false := hb 10 rfl
     clear hl ha hb hD hI
     simp only [patchS, Nat.reduceAdd, Nat.reduceEqDiff, ↓reduceIte] at hQo ⊢
     obtain ⟨-, k0, k1, k2, -⟩ := bx3 hG.1.br
     go_wp2
     exact hK.out _ _ ⟨rfl, hG, fun _ _ _ _ _ _ h => h⟩
    ·intro Lx xs wx hG hl ha hb hD hI Qo Kx hK hQo
     have l10 : Lx 10 = false := hb 10 rfl
     clear hl ha hb hD hI
     simp only [patchS, Nat.reduceAdd, Nat.reduceEqDiff, ↓reduceIte] at hQo ⊢
     go_wp2
     exact hK.out _ _ ⟨rfl, hG, fun _ _ _ _ _ _ h => h⟩
    ·intro Lx xs wx hG hl ha hb hD hI Qo Kx hK hQo
     have l10 : Lx 10 = false := hb 10 rfl
     clear hl ha hb hD hI
     simp only [patchS, Nat.reduceAdd, Nat.reduceEqDiff, ↓reduceIte] at hQo ⊢
     go_wp2
     exact hK.out _ _ ⟨rfl, hG, fun _ _ _ _ _ _ h => h⟩
    ·intro Lx xs wx hG hl ha hb hD hI Qo Kx hK hQo
     have l10 : Lx 10 = false := hb 10 rfl
     clear hl ha hb hD hI
     simp only [patchS, Nat.reduceAdd, Nat.reduceEqDiff, ↓reduceIte] at hQo ⊢
     go_wp2_with (refine wpList_iload 31 _ rfl rfl hG.2.1 0 16 rfl _ Tryd.underlying31 rfl size_A16 (by rw [HPl.out]; omega) _ (by rw [sub_all _ _ (HPl.out)]) ?_)
     exact hK.out _ _ ⟨rfl, hG, fun _ _ _ _ _ _ h => h⟩
    ·intro Lx xs wx hG hl ha hb hD hI Qo Kx hK hQo
     have l10 : Lx 10 = false := hb 10 rfl
     clear hl ha hb hD hI
     simp only [patchS, Nat.reduceAdd, Nat.reduceEqDiff, ↓reduceIte] at hQo ⊢
     go_wp2
     exact hK.out _ _ ⟨rfl, hG, fun _ _ _ _ _ _ h => h⟩
    ·intro Lx xs wx hG hl ha hb hD hI Qo Kx hK hQo
     have l10 : Lx 10 = false := hb 10 rfl
     clear hl ha hb hD hI
     simp only [patchS, Nat.reduceAdd, Nat.reduceEqDiff, ↓reduceIte] at hQo ⊢
     go_wp2
     exact hK.out _ _ ⟨rfl, hG, fun _ _ _ _ _ _ h => h⟩
    ·intro Lx xs wx hG hl ha hb hD hI Qo Kx hK hQo
     have l10 : Lx 10 = false := hb 10 rfl
     clear hl ha hb
     have d4 : (xs 4) = .int .i64 (k : Nat) := hD 4 rfl
     have d5 : (xs 5) = .pointer (some ⟨M, 7, none⟩) := hD 5 rfl
     clear hD hI
     simp only [patchS, Nat.reduceAdd, Nat.reduceEqDiff, ↓reduceIte] at hQo ⊢
     generalize xs 4 = y4 at *
     generalize xs 5 = y5 at *
     subst d4 d5
     go_wp2
     exact hK.out _ _ ⟨rfl, hG, fun _ _ _ _ _ _ h => h⟩
    ·intro Lx xs wx hG hl ha hb hD hI Qo Kx hK hQo
     have l10 : Lx 10 = false := hb 10 rfl
     clear hl ha hb
     have d6 : (xs 6) = .pointer (some ⟨M, 7 + k * 16, none⟩) := hD 6 rfl
     clear hD hI
     simp only [patchS, Nat.reduceAdd, Nat.reduceEqDiff, ↓reduceIte] at hQo ⊢
     generalize xs 6 = y6 at *
     subst d6
     go_wp2_with (refine wpList_iload 31 _ rfl rfl hG.1.bm (7 + k * 16) 16 rfl _ Tryd.underlying31 rfl size_A16 (by rw [Hm2l.out]; omega) _ (by rw [Hsl.out]) ?_)
     exact hK.out _ _ ⟨rfl, hG, fun _ _ _ _ _ _ h => h⟩
    ·intro Lx xs wx hG hl ha hb hD hI Qo Kx hK hQo
     have l10 : Lx 10 = false := hb 10 rfl
     clear hl ha hb hD hI
     simp only [patchS, Nat.reduceAdd, Nat.reduceEqDiff, ↓reduceIte] at hQo ⊢
     go_wp2
     exact hK.out _ _ ⟨rfl, hG, fun _ _ _ _ _ _ h => h⟩
    ·intro Lx xs wx hG hl ha hb hD hI Qo Kx hK hQo
     have l10 : Lx 10 = false := hb 10 rfl
     clear hl ha hb
     have d7 : (xs 7) = .agg (ic L) := hD 7 rfl
     have d8 : (xs 8) = .int .i64 (q : Nat) := hD 8 rfl
     clear hD hI
     simp only [patchS, Nat.reduceAdd, Nat.reduceEqDiff, ↓reduceIte] at hQo ⊢
     generalize xs 7 = y7 at *
     generalize xs 8 = y8 at *
     subst d7 d8
     go_wp2_with fail
     refine (l4Decode_any L q _ HLl.out HLb.out hq).mono ?_
     rintro e w9 ⟨rfl, e9⟩
     rw [← HD.out]
     go_wp2
     exact hK.out _ _ ⟨rfl, ⟨hG.1.e e9, hG.2.1.ext e9, hG.2.2.ext e9⟩, fun _ _ _ _ _ _ h => h⟩
    ·intro Lx xs wx hG hl ha hb hD hI Qo Kx hK hQo
     have l10 : Lx 10 = false := hl
     clear hl ha hb
     have d0 : (xs 0) = .agg #[.int .i64 W, .int .i64 H, .slice (some ⟨g, 0, none⟩) l c1] := hD 0 rfl
     have d1 : (xs 1) = .int .i64 (xi : Nat) := hD 1 rfl
     have d2 : (xs 2) = .int .i64 (yj : Nat) := hD 2 rfl
     have d3 : (xs 3) = .agg (ic PR) := hD 3 rfl
     have d9 : (xs 9) = .agg (ic D) := hD 9 rfl
     clear hD hI
     simp only [patchS, Nat.reduceAdd, Nat.reduceEqDiff, ↓reduceIte] at hQo ⊢
     generalize xs 0 = y0 at *
     generalize xs 1 = y1 at *
     generalize xs 2 = y2 at *
     generalize xs 3 = y3 at *
     generalize xs 9 = y9 at *
     subst d0 d1 d2 d3 d9
     rw [l10, ifF] at hG
     go_wp2_with fail
     refine (l8Put_any W H xi yj w.heap.size g l c1 Z PR D _ HPl.out HDl.out HPb.out HDb.out hW32 (by omega) (by omega) hI (by omega) hG.1.own).mono ?_
     rintro e w9 ⟨rfl, o9, g9⟩
     go_wp2
     rw [Hst3.out] at o9
     exact hK.out _ _ ⟨trivial, ⟨hG.1.put g9 o9, hG.2.1.gr g9 (by simp; omega), hG.2.2.grown g9 (fun z hz => by have := SB.out z hz; simp; omega)⟩, fun _ _ _ _ _ _ h => h⟩
   intro xs wx hV hG0
   obtain ⟨Lx, hL, hG⟩ := hG0
   have l10 : Lx 10 = true := hL 10 (by decide)
   clear hL
   have d0 : (xs 0) = .agg #[.int .i64 W, .int .i64 H, .slice (some ⟨g, 0, none⟩) l c1] := hV 0 (by decide)
   have d1 : (xs 1) = .int .i64 (xi : Nat) := hV 1 (by decide)
   have d2 : (xs 2) = .int .i64 (yj : Nat) := hV 2 (by decide)
   have d3 : (xs 3) = .agg (ic PR) := hV 3 (by decide)
   have d4 : (xs 4) = .int .i64 (k : Nat) := hV 4 (by decide)
   have d5 : (xs 5) = .pointer (some ⟨M, 7, none⟩) := hV 5 (by decide)
   have d6 : (xs 6) = .pointer (some ⟨M, 7 + k * 16, none⟩) := hV 6 (by decide)
   have d7 : (xs 7) = .agg (ic L) := hV 7 (by decide)
   have d8 : (xs 8) = .int .i64 (q : Nat) := hV 8 (by decide)
   have d9 : (xs 9) = .agg (ic D) := hV 9 (by decide)
   clear hV
   simp only [patchS, Nat.reduceAdd, Nat.reduceEqDiff, ↓reduceIte]
   generalize xs 0 = y0 at *
   generalize xs 1 = y1 at *
   generalize xs 2 = y2 at *
   generalize xs 3 = y3 at *
   generalize xs 4 = y4 at *
   generalize xs 5 = y5 at *
   generalize xs 6 = y6 at *
   generalize xs 7 = y7 at *
   generalize xs 8 = y8 at *
   generalize xs 9 = y9 at *
   generalize xs 10 = y10 at *
   replace hG : NS w g l c1 t.w t.h a n c W H B O M (if Lx 10 = true then Z1 else Z) ms2 wx ∧ IB wx bP 31 PR ∧ Sl wx a4 64 ((blkL t x y 0 0).map (Value.int .i64)) := hG
   clear d0 d1 d2 d3 d4 d5 d6 d7 d8 d9
   rw [l10, ifT] at hG
   clear N6 iP6 S6
   have HG := Lib.hid hG
   clear hG
   go_wp2
   go_roundw
   case rel => exact ⟨k + 1, by omega, by go_num, by rw [← HZ1.out, ← HM2.out]; exact HG.out.1, Lib.hid HG.out.2.2⟩
   case measure => simp [intOf]; omega
  ·obtain rfl : k = 4 := by omega
   have Hzl := Lib.hid (HMl.out 4 (by omega))
   have hbM := N0.bm
   have hbz := N0.bz
   have hex := N0.ex
   have hh1 := N0.h1
   clear N0
   go_wp2_with (first | (refine wpList_iload 34 _ rfl rfl hbM 0 71 rfl _ Tryd.underlying34 rfl size_Macro (by rw [Hzl.out]; omega) _ (by rw [sub_all _ _ (Hzl.out)]) ?_) | (refine wpList_istore 34 _ _ rfl rfl hbz 0 71 rfl _ rfl (inMac t ⟨W, H, px⟩ x y q top 4).zs rfl size_Macro (Hzl.out) (by simp [zl]) ?_; intro w6 p6 g6; refine Hid.out ?_))
   rw [spl_all (by rw [Hzl.out, zl_len])] at p6
   have E6 : Ext w w6 := Ext.grown hex g6 (fun q hq => by cases hq; omega)
   refine Lib.hid ?_
   go_wp2
   exact bodyPost_ret (v := .agg (ic (inMac t ⟨W, H, px⟩ x y q top 4).zs)) (results_cell_row rfl _ _ (B + 1 + 1) 34 (ic (inMac t ⟨W, H, px⟩ x y q top 4).zs) (0, 0) _ rfl p6 Tryd.underlying34 rfl (by rw [ic_size, Hzl.out]; exact size_Macro)) rfl ⟨rfl, E6⟩
set_option maxRecDepth 100000 in
set_option maxHeartbeats 2000000 in
theorem spec_IntraMacro_no_0 (t p : Pic) (x y q top : Int) (a b : Option Addr) (c d n l : Nat) (w : World) (hn : n = t.px.length) (hl : l = p.px.length) (nc : n ≤ 9223372036854775807) (lc : l ≤ 9223372036854775807) (s : Sl w a n (t.px.map (Value.int .i64))) (u : Sl w b l (p.px.map (Value.int .i64)))  (h0 : ¬ (alikeP t p)) :
 Calls Tryd.prog 24 #[.agg #[.int .i64 t.w, .int .i64 t.h, .slice a n c], .agg #[.int .i64 p.w, .int .i64 p.h, .slice b l d], .int .i64 x, .int .i64 y, .int .i64 q, .int .i64 top] w fun e w' => e = .returned (.agg (ic (zl 71))) ∧ Ext w w' := by
 have HN := Lib.hid hn
 have HL := Lib.hid hl
 clear hn hl
 have D0 := Lib.hid (show decide (alikeP t p) = false from decide_eq_false h0)
 have a0_1 := Ext.alloc (w.alloc (.cells #[.int .i64 t.w, .int .i64 t.h, .slice a n c] 25)) (.cells #[.int .i64 p.w, .int .i64 p.h, .slice b l d] 25)
 have a0_2 := Ext.alloc ((w.alloc (.cells #[.int .i64 t.w, .int .i64 t.h, .slice a n c] 25)).alloc (.cells #[.int .i64 p.w, .int .i64 p.h, .slice b l d] 25)) (.cells (ic (zl 71)) 34)
 have X0_0 := a0_2.blk (a0_1.blk (blk_new w (.cells #[.int .i64 t.w, .int .i64 t.h, .slice a n c] 25)))
 have a1_2 := Ext.alloc ((w.alloc (.cells #[.int .i64 t.w, .int .i64 t.h, .slice a n c] 25)).alloc (.cells #[.int .i64 p.w, .int .i64 p.h, .slice b l d] 25)) (.cells (ic (zl 71)) 34)
 have X1_0 := a1_2.blk (blk_new (w.alloc (.cells #[.int .i64 t.w, .int .i64 t.h, .slice a n c] 25)) (.cells #[.int .i64 p.w, .int .i64 p.h, .slice b l d] 25))
 have X2_0 := IB.new ((w.alloc (.cells #[.int .i64 t.w, .int .i64 t.h, .slice a n c] 25)).alloc (.cells #[.int .i64 p.w, .int .i64 p.h, .slice b l d] 25)) 34 (zl 71)
 have E_0 := ((Ext.alloc w (.cells #[.int .i64 t.w, .int .i64 t.h, .slice a n c] 25)).trans (Ext.alloc (w.alloc (.cells #[.int .i64 t.w, .int .i64 t.h, .slice a n c] 25)) (.cells #[.int .i64 p.w, .int .i64 p.h, .slice b l d] 25))).trans (Ext.alloc ((w.alloc (.cells #[.int .i64 t.w, .int .i64 t.h, .slice a n c] 25)).alloc (.cells #[.int .i64 p.w, .int .i64 p.h, .slice b l d] 25)) (.cells (ic (zl 71)) 34))
 simp only [World.size_alloc] at X1_0 X2_0
 clear a0_1 a0_2 a1_2 h0
 obtain ⟨-, k0_0, k0_1, k0_2, -⟩ := bx3 X0_0
 obtain ⟨-, k1_0, k1_1, k1_2, -⟩ := bx3 X1_0
 go_enter Tryd.func24, Tryd.ntmps24
 go_wp2_with (refine wpList_iallocz 34 rfl rfl 71 zeroq_M ?_; (try simp only [World.size_alloc]))
 refine (l1Same_at t p a b c d n l _ HN.out HL.out nc lc (s.ext E_0) (u.ext E_0)).mono ?_
 rw [D0.out]
 rintro e w_1 ⟨rfl, e_1⟩
 have X0_1 := e_1.blk X0_0
 have X1_1 := e_1.blk X1_0
 have X2_1 := X2_0.ext e_1
 have E_1 := E_0.trans e_1
 clear k0_0 k0_1 k0_2 X0_0 k1_0 k1_1 k1_2 X1_0 X2_0 E_0 e_1
 obtain ⟨-, k0_0, k0_1, k0_2, -⟩ := bx3 X0_1
 obtain ⟨-, k1_0, k1_1, k1_2, -⟩ := bx3 X1_1
 have hbz := X2_1.lt
 go_wp2_with (refine wpList_istore 34 _ _ rfl rfl X2_1 0 71 rfl _ rfl (zl 71) zeroc_M size_Macro (zl_len 71) (by simp [zl]) ?_; intro wf pf gf; refine Hid.out ?_)
 rw [spl_all (by rw [zl_len])] at pf
 have Ef : Ext w wf := Ext.grown E_1 gf (fun q hq => by cases hq; omega)
 refine Lib.hid ?_
 go_wp2
 exact bodyPost_ret (v := .agg (ic (zl 71))) (results_cell_row rfl _ _ (w.heap.size + 1 + 1) 34 (ic (zl 71)) (0, 0) _ rfl pf Tryd.underlying34 rfl (by rw [ic_size, zl_len]; exact size_Macro)) rfl ⟨rfl, Ef⟩
set_option maxRecDepth 100000 in
set_option maxHeartbeats 2000000 in
theorem spec_IntraMacro_no_1 (t p : Pic) (x y q top : Int) (a b : Option Addr) (c d n l : Nat) (w : World) (hn : n = t.px.length) (hl : l = p.px.length) (nc : n ≤ 9223372036854775807) (lc : l ≤ 9223372036854775807) (s : Sl w a n (t.px.map (Value.int .i64))) (u : Sl w b l (p.px.map (Value.int .i64))) (h0 : alikeP t p) (h1 : ¬ (placeP t x y)) :
 Calls Tryd.prog 24 #[.agg #[.int .i64 t.w, .int .i64 t.h, .slice a n c], .agg #[.int .i64 p.w, .int .i64 p.h, .slice b l d], .int .i64 x, .int .i64 y, .int .i64 q, .int .i64 top] w fun e w' => e = .returned (.agg (ic (zl 71))) ∧ Ext w w' := by
 have HN := Lib.hid hn
 have HL := Lib.hid hl
 clear hn hl
 have D0 := Lib.hid (show decide (alikeP t p) = true from decide_eq_true h0)
 have D1 := Lib.hid (show decide (placeP t x y) = false from decide_eq_false h1)
 have a0_1 := Ext.alloc (w.alloc (.cells #[.int .i64 t.w, .int .i64 t.h, .slice a n c] 25)) (.cells #[.int .i64 p.w, .int .i64 p.h, .slice b l d] 25)
 have a0_2 := Ext.alloc ((w.alloc (.cells #[.int .i64 t.w, .int .i64 t.h, .slice a n c] 25)).alloc (.cells #[.int .i64 p.w, .int .i64 p.h, .slice b l d] 25)) (.cells (ic (zl 71)) 34)
 have X0_0 := a0_2.blk (a0_1.blk (blk_new w (.cells #[.int .i64 t.w, .int .i64 t.h, .slice a n c] 25)))
 have a1_2 := Ext.alloc ((w.alloc (.cells #[.int .i64 t.w, .int .i64 t.h, .slice a n c] 25)).alloc (.cells #[.int .i64 p.w, .int .i64 p.h, .slice b l d] 25)) (.cells (ic (zl 71)) 34)
 have X1_0 := a1_2.blk (blk_new (w.alloc (.cells #[.int .i64 t.w, .int .i64 t.h, .slice a n c] 25)) (.cells #[.int .i64 p.w, .int .i64 p.h, .slice b l d] 25))
 have X2_0 := IB.new ((w.alloc (.cells #[.int .i64 t.w, .int .i64 t.h, .slice a n c] 25)).alloc (.cells #[.int .i64 p.w, .int .i64 p.h, .slice b l d] 25)) 34 (zl 71)
 have E_0 := ((Ext.alloc w (.cells #[.int .i64 t.w, .int .i64 t.h, .slice a n c] 25)).trans (Ext.alloc (w.alloc (.cells #[.int .i64 t.w, .int .i64 t.h, .slice a n c] 25)) (.cells #[.int .i64 p.w, .int .i64 p.h, .slice b l d] 25))).trans (Ext.alloc ((w.alloc (.cells #[.int .i64 t.w, .int .i64 t.h, .slice a n c] 25)).alloc (.cells #[.int .i64 p.w, .int .i64 p.h, .slice b l d] 25)) (.cells (ic (zl 71)) 34))
 simp only [World.size_alloc] at X1_0 X2_0
 clear a0_1 a0_2 a1_2 h0 h1
 obtain ⟨-, k0_0, k0_1, k0_2, -⟩ := bx3 X0_0
 obtain ⟨-, k1_0, k1_1, k1_2, -⟩ := bx3 X1_0
 go_enter Tryd.func24, Tryd.ntmps24
 go_wp2_with (refine wpList_iallocz 34 rfl rfl 71 zeroq_M ?_; (try simp only [World.size_alloc]))
 refine (l1Same_at t p a b c d n l _ HN.out HL.out nc lc (s.ext E_0) (u.ext E_0)).mono ?_
 rw [D0.out]
 rintro e w_1 ⟨rfl, e_1⟩
 have X0_1 := e_1.blk X0_0
 have X1_1 := e_1.blk X1_0
 have X2_1 := X2_0.ext e_1
 have E_1 := E_0.trans e_1
 clear k0_0 k0_1 k0_2 X0_0 k1_0 k1_1 k1_2 X1_0 X2_0 E_0 e_1
 obtain ⟨-, k0_0, k0_1, k0_2, -⟩ := bx3 X0_1
 obtain ⟨-, k1_0, k1_1, k1_2, -⟩ := bx3 X1_1
 go_wp2_with fail
 refine (l7Place_at t x y a c n _ HN.out nc (s.ext E_1)).mono ?_
 rw [D1.out]
 rintro e w_2 ⟨rfl, e_2⟩
 have X0_2 := e_2.blk X0_1
 have X1_2 := e_2.blk X1_1
 have X2_2 := X2_1.ext e_2
 have E_2 := E_1.trans e_2
 clear k0_0 k0_1 k0_2 X0_1 k1_0 k1_1 k1_2 X1_1 X2_1 E_1 e_2
 obtain ⟨-, k0_0, k0_1, k0_2, -⟩ := bx3 X0_2
 obtain ⟨-, k1_0, k1_1, k1_2, -⟩ := bx3 X1_2
 have hbz := X2_2.lt
 go_wp2_with (refine wpList_istore 34 _ _ rfl rfl X2_2 0 71 rfl _ rfl (zl 71) zeroc_M size_Macro (zl_len 71) (by simp [zl]) ?_; intro wf pf gf; refine Hid.out ?_)
 rw [spl_all (by rw [zl_len])] at pf
 have Ef : Ext w wf := Ext.grown E_2 gf (fun q hq => by cases hq; omega)
 refine Lib.hid ?_
 go_wp2
 exact bodyPost_ret (v := .agg (ic (zl 71))) (results_cell_row rfl _ _ (w.heap.size + 1 + 1) 34 (ic (zl 71)) (0, 0) _ rfl pf Tryd.underlying34 rfl (by rw [ic_size, zl_len]; exact size_Macro)) rfl ⟨rfl, Ef⟩
set_option maxRecDepth 100000 in
set_option maxHeartbeats 2000000 in
theorem spec_IntraMacro_no_2 (t p : Pic) (x y q top : Int) (a b : Option Addr) (c d n l : Nat) (w : World) (hn : n = t.px.length) (hl : l = p.px.length) (nc : n ≤ 9223372036854775807) (lc : l ≤ 9223372036854775807) (s : Sl w a n (t.px.map (Value.int .i64))) (u : Sl w b l (p.px.map (Value.int .i64))) (h0 : alikeP t p) (h1 : placeP t x y) (h2 : ¬ (0 ≤ q ∧ q ≤ 15)) :
 Calls Tryd.prog 24 #[.agg #[.int .i64 t.w, .int .i64 t.h, .slice a n c], .agg #[.int .i64 p.w, .int .i64 p.h, .slice b l d], .int .i64 x, .int .i64 y, .int .i64 q, .int .i64 top] w fun e w' => e = .returned (.agg (ic (zl 71))) ∧ Ext w w' := by
 have HN := Lib.hid hn
 have HL := Lib.hid hl
 clear hn hl
 have D0 := Lib.hid (show decide (alikeP t p) = true from decide_eq_true h0)
 have D1 := Lib.hid (show decide (placeP t x y) = true from decide_eq_true h1)
 have Q2 := Lib.hid h2
 have a0_1 := Ext.alloc (w.alloc (.cells #[.int .i64 t.w, .int .i64 t.h, .slice a n c] 25)) (.cells #[.int .i64 p.w, .int .i64 p.h, .slice b l d] 25)
 have a0_2 := Ext.alloc ((w.alloc (.cells #[.int .i64 t.w, .int .i64 t.h, .slice a n c] 25)).alloc (.cells #[.int .i64 p.w, .int .i64 p.h, .slice b l d] 25)) (.cells (ic (zl 71)) 34)
 have X0_0 := a0_2.blk (a0_1.blk (blk_new w (.cells #[.int .i64 t.w, .int .i64 t.h, .slice a n c] 25)))
 have a1_2 := Ext.alloc ((w.alloc (.cells #[.int .i64 t.w, .int .i64 t.h, .slice a n c] 25)).alloc (.cells #[.int .i64 p.w, .int .i64 p.h, .slice b l d] 25)) (.cells (ic (zl 71)) 34)
 have X1_0 := a1_2.blk (blk_new (w.alloc (.cells #[.int .i64 t.w, .int .i64 t.h, .slice a n c] 25)) (.cells #[.int .i64 p.w, .int .i64 p.h, .slice b l d] 25))
 have X2_0 := IB.new ((w.alloc (.cells #[.int .i64 t.w, .int .i64 t.h, .slice a n c] 25)).alloc (.cells #[.int .i64 p.w, .int .i64 p.h, .slice b l d] 25)) 34 (zl 71)
 have E_0 := ((Ext.alloc w (.cells #[.int .i64 t.w, .int .i64 t.h, .slice a n c] 25)).trans (Ext.alloc (w.alloc (.cells #[.int .i64 t.w, .int .i64 t.h, .slice a n c] 25)) (.cells #[.int .i64 p.w, .int .i64 p.h, .slice b l d] 25))).trans (Ext.alloc ((w.alloc (.cells #[.int .i64 t.w, .int .i64 t.h, .slice a n c] 25)).alloc (.cells #[.int .i64 p.w, .int .i64 p.h, .slice b l d] 25)) (.cells (ic (zl 71)) 34))
 simp only [World.size_alloc] at X1_0 X2_0
 clear a0_1 a0_2 a1_2 h0 h1 h2
 obtain ⟨-, k0_0, k0_1, k0_2, -⟩ := bx3 X0_0
 obtain ⟨-, k1_0, k1_1, k1_2, -⟩ := bx3 X1_0
 go_enter Tryd.func24, Tryd.ntmps24
 go_wp2_with (refine wpList_iallocz 34 rfl rfl 71 zeroq_M ?_; (try simp only [World.size_alloc]))
 refine (l1Same_at t p a b c d n l _ HN.out HL.out nc lc (s.ext E_0) (u.ext E_0)).mono ?_
 rw [D0.out]
 rintro e w_1 ⟨rfl, e_1⟩
 have X0_1 := e_1.blk X0_0
 have X1_1 := e_1.blk X1_0
 have X2_1 := X2_0.ext e_1
 have E_1 := E_0.trans e_1
 clear k0_0 k0_1 k0_2 X0_0 k1_0 k1_1 k1_2 X1_0 X2_0 E_0 e_1
 obtain ⟨-, k0_0, k0_1, k0_2, -⟩ := bx3 X0_1
 obtain ⟨-, k1_0, k1_1, k1_2, -⟩ := bx3 X1_1
 go_wp2_with fail
 refine (l7Place_at t x y a c n _ HN.out nc (s.ext E_1)).mono ?_
 rw [D1.out]
 rintro e w_2 ⟨rfl, e_2⟩
 have X0_2 := e_2.blk X0_1
 have X1_2 := e_2.blk X1_1
 have X2_2 := X2_1.ext e_2
 have E_2 := E_1.trans e_2
 clear k0_0 k0_1 k0_2 X0_1 k1_0 k1_1 k1_2 X1_1 X2_1 E_1 e_2
 obtain ⟨-, k0_0, k0_1, k0_2, -⟩ := bx3 X0_2
 obtain ⟨-, k1_0, k1_1, k1_2, -⟩ := bx3 X1_2
 go_wp2_with fail
 refine (l1In_no _ _ _ _ (by have := Q2.out; omega)).mono ?_
 rintro e w_s2 ⟨rfl, rfl⟩
 have hbz := X2_2.lt
 go_wp2_with (refine wpList_istore 34 _ _ rfl rfl X2_2 0 71 rfl _ rfl (zl 71) zeroc_M size_Macro (zl_len 71) (by simp [zl]) ?_; intro wf pf gf; refine Hid.out ?_)
 rw [spl_all (by rw [zl_len])] at pf
 have Ef : Ext w wf := Ext.grown E_2 gf (fun q hq => by cases hq; omega)
 refine Lib.hid ?_
 go_wp2
 exact bodyPost_ret (v := .agg (ic (zl 71))) (results_cell_row rfl _ _ (w.heap.size + 1 + 1) 34 (ic (zl 71)) (0, 0) _ rfl pf Tryd.underlying34 rfl (by rw [ic_size, zl_len]; exact size_Macro)) rfl ⟨rfl, Ef⟩
set_option maxRecDepth 100000 in
set_option maxHeartbeats 2000000 in
theorem spec_IntraMacro_no_3 (t p : Pic) (x y q top : Int) (a b : Option Addr) (c d n l : Nat) (w : World) (hn : n = t.px.length) (hl : l = p.px.length) (nc : n ≤ 9223372036854775807) (lc : l ≤ 9223372036854775807) (s : Sl w a n (t.px.map (Value.int .i64))) (u : Sl w b l (p.px.map (Value.int .i64))) (h0 : alikeP t p) (h1 : placeP t x y) (h2 : 0 ≤ q ∧ q ≤ 15) (h3 : ¬ (0 ≤ top ∧ top ≤ y)) :
 Calls Tryd.prog 24 #[.agg #[.int .i64 t.w, .int .i64 t.h, .slice a n c], .agg #[.int .i64 p.w, .int .i64 p.h, .slice b l d], .int .i64 x, .int .i64 y, .int .i64 q, .int .i64 top] w fun e w' => e = .returned (.agg (ic (zl 71))) ∧ Ext w w' := by
 have HN := Lib.hid hn
 have HL := Lib.hid hl
 clear hn hl
 have D0 := Lib.hid (show decide (alikeP t p) = true from decide_eq_true h0)
 have D1 := Lib.hid (show decide (placeP t x y) = true from decide_eq_true h1)
 have Q2 := Lib.hid h2
 have Q3 := Lib.hid h3
 have a0_1 := Ext.alloc (w.alloc (.cells #[.int .i64 t.w, .int .i64 t.h, .slice a n c] 25)) (.cells #[.int .i64 p.w, .int .i64 p.h, .slice b l d] 25)
 have a0_2 := Ext.alloc ((w.alloc (.cells #[.int .i64 t.w, .int .i64 t.h, .slice a n c] 25)).alloc (.cells #[.int .i64 p.w, .int .i64 p.h, .slice b l d] 25)) (.cells (ic (zl 71)) 34)
 have X0_0 := a0_2.blk (a0_1.blk (blk_new w (.cells #[.int .i64 t.w, .int .i64 t.h, .slice a n c] 25)))
 have a1_2 := Ext.alloc ((w.alloc (.cells #[.int .i64 t.w, .int .i64 t.h, .slice a n c] 25)).alloc (.cells #[.int .i64 p.w, .int .i64 p.h, .slice b l d] 25)) (.cells (ic (zl 71)) 34)
 have X1_0 := a1_2.blk (blk_new (w.alloc (.cells #[.int .i64 t.w, .int .i64 t.h, .slice a n c] 25)) (.cells #[.int .i64 p.w, .int .i64 p.h, .slice b l d] 25))
 have X2_0 := IB.new ((w.alloc (.cells #[.int .i64 t.w, .int .i64 t.h, .slice a n c] 25)).alloc (.cells #[.int .i64 p.w, .int .i64 p.h, .slice b l d] 25)) 34 (zl 71)
 have E_0 := ((Ext.alloc w (.cells #[.int .i64 t.w, .int .i64 t.h, .slice a n c] 25)).trans (Ext.alloc (w.alloc (.cells #[.int .i64 t.w, .int .i64 t.h, .slice a n c] 25)) (.cells #[.int .i64 p.w, .int .i64 p.h, .slice b l d] 25))).trans (Ext.alloc ((w.alloc (.cells #[.int .i64 t.w, .int .i64 t.h, .slice a n c] 25)).alloc (.cells #[.int .i64 p.w, .int .i64 p.h, .slice b l d] 25)) (.cells (ic (zl 71)) 34))
 simp only [World.size_alloc] at X1_0 X2_0
 clear a0_1 a0_2 a1_2 h0 h1 h2 h3
 obtain ⟨-, k0_0, k0_1, k0_2, -⟩ := bx3 X0_0
 obtain ⟨-, k1_0, k1_1, k1_2, -⟩ := bx3 X1_0
 go_enter Tryd.func24, Tryd.ntmps24
 go_wp2_with (refine wpList_iallocz 34 rfl rfl 71 zeroq_M ?_; (try simp only [World.size_alloc]))
 refine (l1Same_at t p a b c d n l _ HN.out HL.out nc lc (s.ext E_0) (u.ext E_0)).mono ?_
 rw [D0.out]
 rintro e w_1 ⟨rfl, e_1⟩
 have X0_1 := e_1.blk X0_0
 have X1_1 := e_1.blk X1_0
 have X2_1 := X2_0.ext e_1
 have E_1 := E_0.trans e_1
 clear k0_0 k0_1 k0_2 X0_0 k1_0 k1_1 k1_2 X1_0 X2_0 E_0 e_1
 obtain ⟨-, k0_0, k0_1, k0_2, -⟩ := bx3 X0_1
 obtain ⟨-, k1_0, k1_1, k1_2, -⟩ := bx3 X1_1
 go_wp2_with fail
 refine (l7Place_at t x y a c n _ HN.out nc (s.ext E_1)).mono ?_
 rw [D1.out]
 rintro e w_2 ⟨rfl, e_2⟩
 have X0_2 := e_2.blk X0_1
 have X1_2 := e_2.blk X1_1
 have X2_2 := X2_1.ext e_2
 have E_2 := E_1.trans e_2
 clear k0_0 k0_1 k0_2 X0_1 k1_0 k1_1 k1_2 X1_1 X2_1 E_1 e_2
 obtain ⟨-, k0_0, k0_1, k0_2, -⟩ := bx3 X0_2
 obtain ⟨-, k1_0, k1_1, k1_2, -⟩ := bx3 X1_2
 go_wp2_with fail
 refine (l1In_yes _ _ _ _ Q2.out.1 Q2.out.2).mono ?_
 rintro e w_s2 ⟨rfl, rfl⟩
 go_wp2_with fail
 refine (l1In_no _ _ _ _ (by have := Q3.out; omega)).mono ?_
 rintro e w_s3 ⟨rfl, rfl⟩
 have hbz := X2_2.lt
 go_wp2_with (refine wpList_istore 34 _ _ rfl rfl X2_2 0 71 rfl _ rfl (zl 71) zeroc_M size_Macro (zl_len 71) (by simp [zl]) ?_; intro wf pf gf; refine Hid.out ?_)
 rw [spl_all (by rw [zl_len])] at pf
 have Ef : Ext w wf := Ext.grown E_2 gf (fun q hq => by cases hq; omega)
 refine Lib.hid ?_
 go_wp2
 exact bodyPost_ret (v := .agg (ic (zl 71))) (results_cell_row rfl _ _ (w.heap.size + 1 + 1) 34 (ic (zl 71)) (0, 0) _ rfl pf Tryd.underlying34 rfl (by rw [ic_size, zl_len]; exact size_Macro)) rfl ⟨rfl, Ef⟩
set_option maxRecDepth 100000 in
set_option maxHeartbeats 2000000 in
theorem spec_IntraMacro_yes_4 (t : Pic) (W H x y : Nat) (px : List Int) (q : Nat) (top : Int) (a b : Option Addr) (c d n l : Nat) (w : World) (hn : n = t.px.length) (hl : l = px.length) (nc : n ≤ 9223372036854775807) (lc : l ≤ 9223372036854775807) (s : Sl w a n (t.px.map (Value.int .i64))) (u : Sl w b l (px.map (Value.int .i64))) (htv : t.valid) (hpv : Pic.valid ⟨W, H, px⟩) (hx8 : x + 8 ≤ W) (hy8 : y + 8 ≤ H) (hW32 : W ≤ 32) (hH32 : H ≤ 32) (hq : q < 16) (ht0 : 0 ≤ top) (h0 : alikeP t ⟨W, H, px⟩) (h1 : placeP t x y) (h2 : 0 ≤ (q : Int) ∧ (q : Int) ≤ 15) (h3 : 0 ≤ top ∧ top ≤ (y : Int)) :
 Calls Tryd.prog 24 #[.agg #[.int .i64 t.w, .int .i64 t.h, .slice a n c], .agg #[.int .i64 W, .int .i64 H, .slice b l d], .int .i64 (x : Nat), .int .i64 (y : Nat), .int .i64 (q : Nat), .int .i64 top] w fun e w' => e = .returned (.agg (ic (inMac t ⟨W, H, px⟩ x y q top 4).zs)) ∧ Ext w w' := by
 have HN := Lib.hid hn
 have HL0 := Lib.hid hl
 have HPV := Lib.hid hpv
 have HL := Lib.hid (show l = (Pic.mk W H px).px.length from hl)
 clear hn hl hpv
 have D0 := Lib.hid (show decide (alikeP t ⟨W, H, px⟩) = true from decide_eq_true h0)
 have D1 := Lib.hid (show decide (placeP t x y) = true from decide_eq_true h1)
 have Q2 := Lib.hid h2
 have Q3 := Lib.hid h3
 have a0_1 := Ext.alloc (w.alloc (.cells #[.int .i64 t.w, .int .i64 t.h, .slice a n c] 25)) (.cells #[.int .i64 W, .int .i64 H, .slice b l d] 25)
 have a0_2 := Ext.alloc ((w.alloc (.cells #[.int .i64 t.w, .int .i64 t.h, .slice a n c] 25)).alloc (.cells #[.int .i64 W, .int .i64 H, .slice b l d] 25)) (.cells (ic (zl 71)) 34)
 have X0_0 := a0_2.blk (a0_1.blk (blk_new w (.cells #[.int .i64 t.w, .int .i64 t.h, .slice a n c] 25)))
 have a1_2 := Ext.alloc ((w.alloc (.cells #[.int .i64 t.w, .int .i64 t.h, .slice a n c] 25)).alloc (.cells #[.int .i64 W, .int .i64 H, .slice b l d] 25)) (.cells (ic (zl 71)) 34)
 have X1_0 := a1_2.blk (blk_new (w.alloc (.cells #[.int .i64 t.w, .int .i64 t.h, .slice a n c] 25)) (.cells #[.int .i64 W, .int .i64 H, .slice b l d] 25))
 have X2_0 := IB.new ((w.alloc (.cells #[.int .i64 t.w, .int .i64 t.h, .slice a n c] 25)).alloc (.cells #[.int .i64 W, .int .i64 H, .slice b l d] 25)) 34 (zl 71)
 have E_0 := ((Ext.alloc w (.cells #[.int .i64 t.w, .int .i64 t.h, .slice a n c] 25)).trans (Ext.alloc (w.alloc (.cells #[.int .i64 t.w, .int .i64 t.h, .slice a n c] 25)) (.cells #[.int .i64 W, .int .i64 H, .slice b l d] 25))).trans (Ext.alloc ((w.alloc (.cells #[.int .i64 t.w, .int .i64 t.h, .slice a n c] 25)).alloc (.cells #[.int .i64 W, .int .i64 H, .slice b l d] 25)) (.cells (ic (zl 71)) 34))
 simp only [World.size_alloc] at X1_0 X2_0
 clear a0_1 a0_2 a1_2 h0 h1 h2 h3
 obtain ⟨-, k0_0, k0_1, k0_2, -⟩ := bx3 X0_0
 obtain ⟨-, k1_0, k1_1, k1_2, -⟩ := bx3 X1_0
 go_enter Tryd.func24, Tryd.ntmps24
 go_wp2_with (refine wpList_iallocz 34 rfl rfl 71 zeroq_M ?_; (try simp only [World.size_alloc]))
 refine (l1Same_at t ⟨W, H, px⟩ a b c d n l _ HN.out HL.out nc lc (s.ext E_0) (u.ext E_0)).mono ?_
 rw [D0.out]
 rintro e w_1 ⟨rfl, e_1⟩
 have X0_1 := e_1.blk X0_0
 have X1_1 := e_1.blk X1_0
 have X2_1 := X2_0.ext e_1
 have E_1 := E_0.trans e_1
 clear k0_0 k0_1 k0_2 X0_0 k1_0 k1_1 k1_2 X1_0 X2_0 E_0 e_1
 obtain ⟨-, k0_0, k0_1, k0_2, -⟩ := bx3 X0_1
 obtain ⟨-, k1_0, k1_1, k1_2, -⟩ := bx3 X1_1
 go_wp2_with fail
 refine (l7Place_at t x y a c n _ HN.out nc (s.ext E_1)).mono ?_
 rw [D1.out]
 rintro e w_2 ⟨rfl, e_2⟩
 have X0_2 := e_2.blk X0_1
 have X1_2 := e_2.blk X1_1
 have X2_2 := X2_1.ext e_2
 have E_2 := E_1.trans e_2
 clear k0_0 k0_1 k0_2 X0_1 k1_0 k1_1 k1_2 X1_1 X2_1 E_1 e_2
 obtain ⟨-, k0_0, k0_1, k0_2, -⟩ := bx3 X0_2
 obtain ⟨-, k1_0, k1_1, k1_2, -⟩ := bx3 X1_2
 go_wp2_with fail
 refine (l1In_yes _ _ _ _ Q2.out.1 Q2.out.2).mono ?_
 rintro e w_s2 ⟨rfl, rfl⟩
 go_wp2_with fail
 refine (l1In_yes _ _ _ _ Q3.out.1 Q3.out.2).mono ?_
 rintro e w_s3 ⟨rfl, rfl⟩
 have hbz := X2_2.lt
 go_wp2_with fail
 refine (l8Intra_yes t W H x y px q top a b c d n l _ HN.out HL0.out nc lc (s.ext E_2) (u.ext E_2) htv HPV.out hx8 hy8 hW32 hH32 hq ht0).mono ?_
 rintro e wz ⟨rfl, ez⟩
 have Xz := X2_2.ext ez
 have Ez := E_2.trans ez
 have Hzl := Lib.hid (Mac.zs_len (inMac_ok t ⟨W, H, px⟩ x y q top (Nat.le_refl 4)))
 clear X2_2 E_2 ez
 go_wp2_with (refine wpList_istore 34 _ _ rfl rfl Xz 0 71 rfl _ rfl (inMac t ⟨W, H, px⟩ x y q top 4).zs rfl size_Macro Hzl.out (by simp [zl]) ?_; intro w6 p6 g6; refine Hid.out ?_)
 rw [spl_all (by rw [Hzl.out, zl_len])] at p6
 have E6 : Ext w w6 := Ext.grown Ez g6 (fun q hq => by cases hq; omega)
 refine Lib.hid ?_
 go_wp2
 exact bodyPost_ret (v := .agg (ic (inMac t ⟨W, H, px⟩ x y q top 4).zs)) (results_cell_row rfl _ _ (w.heap.size + 1 + 1) 34 (ic (inMac t ⟨W, H, px⟩ x y q top 4).zs) (0, 0) _ rfl p6 Tryd.underlying34 rfl (by rw [ic_size, Hzl.out]; exact size_Macro)) rfl ⟨rfl, E6⟩
theorem spec_IntraMacro_any (t p : Pic) (x y q top : Int) (a b : Option Addr) (c d n l : Nat) (w : World) (hn : n = t.px.length) (hl : l = p.px.length) (nc : n ≤ 9223372036854775807) (lc : l ≤ 9223372036854775807) (s : Sl w a n (t.px.map (Value.int .i64))) (u : Sl w b l (p.px.map (Value.int .i64))) :
 Calls Tryd.prog 24 #[.agg #[.int .i64 t.w, .int .i64 t.h, .slice a n c], .agg #[.int .i64 p.w, .int .i64 p.h, .slice b l d], .int .i64 x, .int .i64 y, .int .i64 q, .int .i64 top] w fun e w' => e = .returned (.agg (ic (intraP t p x y q top).zs)) ∧ Ext w w' := by
 by_cases ho : okN t p x y q top
 ·rw [intraP_yes ho]
  obtain ⟨h0, h1, h2, h3⟩ := ho
  have hx := h1.2
  have hw := h0.1.1
  have hh := h0.1.2.1
  have hpw := h0.2.1.1
  have hph := h0.2.1.2.1
  have hsm := h0.2.2
  obtain ⟨pw, ph, px⟩ := p
  simp only at hpw hph hsm hl u
  obtain ⟨W, rfl⟩ : ∃ v : Nat, pw = (v : Int) := ⟨pw.toNat, by have := hpw.1; omega⟩
  obtain ⟨H, rfl⟩ : ∃ v : Nat, ph = (v : Int) := ⟨ph.toNat, by have := hph.1; omega⟩
  have h := spec_IntraMacro_yes_4 t W H x.toNat y.toNat px q.toNat top a b c d n l w hn hl nc lc s u h0.1 h0.2.1 (by have := hw.2.2; have := hpw.2.2; omega) (by have := hh.2.2; have := hph.2.2; omega) (by have := hpw.2.1; omega) (by have := hph.2.1; omega) (by omega) h3.1 h0 (by rw [show ((x.toNat : Nat) : Int) = x by omega, show ((y.toNat : Nat) : Int) = y by omega]; exact h1) (by omega) (by omega)
  rw [show ((x.toNat : Nat) : Int) = x by omega, show ((y.toNat : Nat) : Int) = y by omega, show ((q.toNat : Nat) : Int) = q by omega] at h
  exact h
 ·rw [intraP_no ho, mac0_zz]
  by_cases h0 : alikeP t p
  ·by_cases h1 : placeP t x y
   ·by_cases h2 : 0 ≤ q ∧ q ≤ 15
    ·by_cases h3 : 0 ≤ top ∧ top ≤ y
     ·exact absurd ⟨h0, h1, h2, h3⟩ ho
     ·exact spec_IntraMacro_no_3 t p x y q top a b c d n l w hn hl nc lc s u h0 h1 h2 h3
    ·exact spec_IntraMacro_no_2 t p x y q top a b c d n l w hn hl nc lc s u h0 h1 h2
   ·exact spec_IntraMacro_no_1 t p x y q top a b c d n l w hn hl nc lc s u h0 h1
  ·exact spec_IntraMacro_no_0 t p x y q top a b c d n l w hn hl nc lc s u h0
end Go.Proofs.YtbnhaegidfbgbaaDoor
namespace Go.Proofs.YtbnhaegidfbgbaaDoor
open Go.RowKit
set_option maxHeartbeats 400000
section
variable {P : Program}
/-- Fields that follow one another from o to n, each compared as lists. -/
def EqF (P : Program) (d n : Nat) : List Field → Nat → Prop
 | [], o => o = n
 | f :: fs, o => f.name ≠ "_" ∧ f.offset = o ∧ ∃ c, EqE P f.type c d ∧ o + c ≤ n ∧ EqF P d n fs (o + c)
theorem sub_split (zs : List Int) (o c m : Nat) : sub zs o (c + m) = sub zs o c ++ sub zs (o + c) m := by
 unfold sub
 rw [List.take_add, List.drop_drop]
theorem EqF.run {d n : Nat} (w : World) (xs ys : List Int) (hx : n ≤ xs.length) (hy : n ≤ ys.length) : ∀ (fs : List Field) (o : Nat), EqF P d n fs o →
 (Op.eqFields d (ic xs) (ic ys) fs).run P w = .ok (decide (sub xs o (n - o) = sub ys o (n - o))) w
 | [], o, h => by
  have h' : o = n := h
  subst h'
  simp [Op.eqFields, sub]
 | f :: fs, o, h => by
  obtain ⟨h1, h2, c, hE, hc, h3⟩ := h
  obtain ⟨a, b, p1, p2, p3⟩ := hE w xs ys o (by omega) (by omega)
  have ih := EqF.run w xs ys hx hy fs (o + c) h3
  have e : n - o = c + (n - (o + c)) := by omega
  rw [e, sub_split, sub_split]
  simp only [Op.eqFields, ne_eq, h1, not_false_eq_true, if_true, Sem.run_bind, h2, p1, p2, p3, Result.andThen_ok, ih]
  by_cases hs : sub xs o c = sub ys o c
  ·simp only [hs, decide_true, Bool.not_true, Bool.false_eq_true, if_false, ih]
   congr 1
   simp
  ·simp only [hs, decide_false, Bool.not_false, if_true, Sem.run_pure]
   congr 1
   symm
   rw [decide_eq_false_iff_not]
   intro h
   exact hs (List.append_inj_left h (by rw [sub_len _ _ _ (by omega), sub_len _ _ _ (by omega)]))
theorem fieldsOf_eq {t : TypeId} {fs : Array Field} (ht : P.underlying t = some (.struct fs)) : P.fieldsOf t = fs := by simp [Program.fieldsOf, ht]
theorem EqE.struct {t : TypeId} {n d : Nat} {fs : Array Field} (ht : P.underlying t = some (.struct fs)) (hp : P.stoodInHeld t = false) (hti : (P.info? t).map (·.size) = some n) (hF : EqF P d n fs.toList 0) : EqE P t n (d + 1) := by
 have he := fieldsOf_eq ht
 subst he
 intro w xs ys off h1 h2
 have hag := isAgg_of (P := P) w ht rfl
 cases hqt : P.info? t with
 | none => simp [hqt] at hti
 | some jj =>
  have hst : jj.size = n := by simpa [hqt] using hti
  refine ⟨.agg (ic (sub xs off n)), .agg (ic (sub ys off n)), ?_, ?_, ?_⟩
  ·simp [part, Sem.run_bind, hag, sizeOf, typeInfo, hqt, hst, ic_extract]
  ·simp [part, Sem.run_bind, hag, sizeOf, typeInfo, hqt, hst, ic_extract]
  ·rw [run_equalIn_struct w d t _ _ ht hp, EqF.run w _ _ (by rw [sub_len _ _ _ h1]; omega) (by rw [sub_len _ _ _ h2]; omega) _ 0 hF, Nat.sub_zero, sub_all _ _ (sub_len _ _ _ h1), sub_all _ _ (sub_len _ _ _ h2)]
theorem run_eql_struct_ints {t : TypeId} {n : Nat} {fs : Array Field} (ht : P.underlying t = some (.struct fs)) (hp : P.stoodInHeld t = false) (hF : EqF P 9999 n fs.toList 0) (w : World) (xs ys : List Int) (h1 : xs.length = n) (h2 : ys.length = n) :
 (Op.equalIn 10000 t (.agg (ic xs)) (.agg (ic ys))).run P w = .ok (decide (xs = ys)) w := by
 have he := fieldsOf_eq ht
 subst he
 rw [run_equalIn_struct w 9999 t _ _ ht hp, EqF.run w _ _ (by omega) (by omega) _ 0 hF, Nat.sub_zero, sub_all _ _ h1, sub_all _ _ h2]
/-- x == y, structs of integers. -/
theorem wpList_seql {ops : Array Oper} {rest : List Oper} {o : Oper} {a : Act} {w : World} {Q : Exit → Act → World → Prop} (t : TypeId) (x y : Operand) (t2 : TypeId) (ho : o.op = .binOp .eql t x y t2) (hgd : Region.wanted o (yielded ops a.tmps) = true)
 (cs ds : Array Value) (hx : a.eval x = .agg cs) (hy : a.eval y = .agg ds) (xs ys : List Int) (hcs : cs = ic xs) (hds : ds = ic ys) {n : Nat} {fs : Array Field} (ht : P.underlying t = some (.struct fs)) (hp : P.stoodInHeld t = false) (hF : EqF P 9999 n fs.toList 0) (h1 : xs.length = n) (h2 : ys.length = n)
 (hm : P.eqGuardType P.depth t = false) (r : Bool) (hr : decide (xs = ys) = r) (hK : wpList P ops Q rest (a.put o.dst (.bool r)) w) : wpList P ops Q (o :: rest) a w := by
 subst hcs hds hr
 refine wpList_wanted hgd fun _ hK' => ?_
 unfold Oper.wp execOp
 simp [ho, hx, hy, Sem.run_bind, run_eqGuard_agg w .eql t x y _ _ hm, run_eql_struct w t, run_eql_struct_ints ht hp hF w xs ys h1 h2, Result.andThen]
 exact hK' _ _ hK
theorem wpList_sneq {ops : Array Oper} {rest : List Oper} {o : Oper} {a : Act} {w : World} {Q : Exit → Act → World → Prop} (t : TypeId) (x y : Operand) (t2 : TypeId) (ho : o.op = .binOp .neq t x y t2) (hgd : Region.wanted o (yielded ops a.tmps) = true)
 (cs ds : Array Value) (hx : a.eval x = .agg cs) (hy : a.eval y = .agg ds) (xs ys : List Int) (hcs : cs = ic xs) (hds : ds = ic ys) {n : Nat} {fs : Array Field} (ht : P.underlying t = some (.struct fs)) (hp : P.stoodInHeld t = false) (hF : EqF P 9999 n fs.toList 0) (h1 : xs.length = n) (h2 : ys.length = n)
 (hm : P.eqGuardType P.depth t = false) (r : Bool) (hr : decide (xs = ys) = r) (hK : wpList P ops Q rest (a.put o.dst (.bool (!r))) w) : wpList P ops Q (o :: rest) a w := by
 subst hcs hds hr
 refine wpList_wanted hgd fun _ hK' => ?_
 unfold Oper.wp execOp
 simp [ho, hx, hy, Sem.run_bind, run_eqGuard_agg w .neq t x y _ _ hm, run_neq_struct w t, run_eql_struct_ints ht hp hF w xs ys h1 h2, Result.andThen]
 exact hK' _ _ (by simpa using hK)
end
theorem eqV : EqE Tryd.prog 27 2 9999 := EqE.struct (d := 9998) Tryd.underlying27 (by kernel_rfl) (by kernel_rfl) ⟨by decide, rfl, 1, EqE.int Tryd.underlying3 9997, by omega, by decide, rfl, 1, EqE.int Tryd.underlying3 9997, by omega, rfl⟩
theorem eqA4 : EqE Tryd.prog 30 4 9999 := EqE.arr (n := 4) Tryd.underlying30 size_int (by kernel_rfl) (EqE.int Tryd.underlying3 9997)
theorem eqA64 : EqE Tryd.prog 32 64 9999 := EqE.arr (n := 4) Tryd.underlying32 size_A16 (by kernel_rfl) (EqE.arr (n := 16) (d := 9997) Tryd.underlying31 size_int size_A16 (EqE.int Tryd.underlying3 9996))
/-- The macroblocks' fields as lists. -/
theorem eqM {fs : Array Field} (h : Tryd.prog.underlying 34 = some (.struct fs)) : EqF Tryd.prog 9999 71 fs.toList 0 := by
 rw [Tryd.underlying34] at h
 cases h
 exact ⟨by decide, rfl, 1, EqE.int Tryd.underlying3 9998, by omega, by decide, rfl, 2, eqV, by omega, by decide, rfl, 4, eqA4, by omega, by decide, rfl, 64, eqA64, by omega, rfl⟩
theorem hpM : Tryd.prog.stoodInHeld 34 = false := by kernel_rfl
theorem hmM : Tryd.prog.eqGuardType Tryd.prog.depth 34 = false := by kernel_rfl
end Go.Proofs.YtbnhaegidfbgbaaDoor
namespace Go.Proofs.YtbnhaegidfbgbaaDoor
open Go.RowKit
set_option maxHeartbeats 1000000
theorem byte_rangeV {L : List Int} (h : ∀ z ∈ L, (Lit.int .u8 z).wf = true) : ∀ z ∈ L, 0 ≤ z ∧ z ≤ 255 := by
 intro z hz
 have := h z hz
 simp [Lit.wf, IntKind.min, IntKind.max, IntKind.signed, IntKind.bits] at this
 exact ⟨by omega, by omega⟩
theorem zeroc_M2 : Tryd.zeroCells34 = ic (zl 71) := by kernel_rfl
theorem mac0_zU : mac0.zs = zl 71 := by decide
theorem sl_kept {w w' : World} {a : Option Addr} {n r : Nat} {xs : List Value} (h : Sl w a n xs) (g : w.grownBy w' (some r)) (hb : ∀ y, a = some y → 0 < n → y.block < r) : Sl w' a n xs := by
 by_cases h0 : n = 0
 ·subst h0
  exact ⟨h.1, fun i hi => by omega⟩
 ·exact h.grown g (fun y hy e => by have := hb y hy (by omega); simp at e; omega)
theorem PBx.e {w w' : World} {b : Nat} {p : Pic} {a : Option Addr} {n c : Nat} (h : PBx w b p a n c) (e : Ext w w') : PBx w' b p a n c := e.blk h
/-- What lies in the law's boxes: two pictures, a macroblock. -/
structure LS (w : World) (O : Nat) (p : Pic) (a : Option Addr) (n c : Nat) (q : Pic) (a2 : Option Addr) (n2 c2 u : Nat) (Z : List Int) (wx : World) : Prop where
 ex : Ext w wx
 b1 : PBx wx O p a n c
 b2 : PBx wx (O + 1) q a2 n2 c2
 ib : IB wx u 34 Z
 s1 : Sl wx a n (p.px.map (Value.int .i64))
 s2 : Sl wx a2 n2 (q.px.map (Value.int .i64))
theorem LS.e {w wx wy : World} {O n c n2 c2 u : Nat} {p q : Pic} {a a2 : Option Addr} {Z : List Int} (h : LS w O p a n c q a2 n2 c2 u Z wx) (e : Ext wx wy) : LS w O p a n c q a2 n2 c2 u Z wy :=
 ⟨h.ex.trans e, e.blk h.b1, e.blk h.b2, h.ib.ext e, h.s1.ext e, h.s2.ext e⟩
theorem VB1.ext {w w' : World} {b : Nat} {x y : Int} (h : w.heap[b]? = some (.cells #[.int .i64 x, .int .i64 y] 27 (0, 0))) (e : Ext w w') : w'.heap[b]? = some (.cells #[.int .i64 x, .int .i64 y] 27 (0, 0)) := e.blk h
end Go.Proofs.YtbnhaegidfbgbaaDoor
