/- ChooseMacro: the program's closures. | ChooseMacro: the cheapest candidate; the program's walk. | ChooseMacro, both sides, at all arguments. | Words for the laws with pictures: what changes in a range of blocks; boxes. | toMacro. -/
import Derived.Test.YtbnhaegidfbgbaaGreatDoorQn18
import Derived.Deep.Cut
set_option linter.unusedVariables false
set_option linter.unusedSimpArgs false
namespace Go.Proofs.YtbnhaegidfbgbaaGreatDoor
open Go.RowKit
set_option maxHeartbeats 1000000
/-- The seven captured variables. -/
structure C7 (B : Nat) (t r : Pic) (W H : Nat) (a b b2 : Option Addr) (n c l d l2 d2 x y q : Nat) (top : Int) (wx : World) : Prop where
 g0 : wx.heap[B]? = some (.cells #[.int .i64 t.w, .int .i64 t.h, .slice a n c] 25 (0, 0))
 g1 : wx.heap[B + 1]? = some (.cells #[.int .i64 r.w, .int .i64 r.h, .slice b l d] 25 (0, 0))
 g2 : wx.heap[B + 1 + 1]? = some (.cells #[.int .i64 W, .int .i64 H, .slice b2 l2 d2] 25 (0, 0))
 g3 : wx.heap[B + 1 + 1 + 1]? = some (.cells #[.int .i64 (x : Nat)] 3 (0, 0))
 g4 : wx.heap[B + 1 + 1 + 1 + 1]? = some (.cells #[.int .i64 (y : Nat)] 3 (0, 0))
 g5 : wx.heap[B + 1 + 1 + 1 + 1 + 1]? = some (.cells #[.int .i64 (q : Nat)] 3 (0, 0))
 g6 : wx.heap[B + 1 + 1 + 1 + 1 + 1 + 1]? = some (.cells #[.int .i64 top] 3 (0, 0))
theorem C7.e {B W H x y q : Nat} {top : Int} {t r : Pic} {a b b2 : Option Addr} {n c l d l2 d2 : Nat} {wx wy : World} (h : C7 B t r W H a b b2 n c l d l2 d2 x y q top wx) (e : Ext wx wy) : C7 B t r W H a b b2 n c l d l2 d2 x y q top wy := ⟨e.blk h.g0, e.blk h.g1, e.blk h.g2, e.blk h.g3, e.blk h.g4, e.blk h.g5, e.blk h.g6⟩
theorem C7.gr {B W H x y q : Nat} {top : Int} {t r : Pic} {a b b2 : Option Addr} {n c l d l2 d2 : Nat} {wx wy : World} (h : C7 B t r W H a b b2 n c l d l2 d2 x y q top wx) {Q : Nat} (g : wx.grownBy wy (some Q)) (hQ : B + 1 + 1 + 1 + 1 + 1 + 1 < Q) : C7 B t r W H a b b2 n c l d l2 d2 x y q top wy := ⟨blk_gr h.g0 g (by simp; omega), blk_gr h.g1 g (by simp; omega), blk_gr h.g2 g (by simp; omega), blk_gr h.g3 g (by simp; omega), blk_gr h.g4 g (by simp; omega), blk_gr h.g5 g (by simp; omega), blk_gr h.g6 g (by simp; omega)⟩
theorem C7.lt {B W H x y q : Nat} {top : Int} {t r : Pic} {a b b2 : Option Addr} {n c l d l2 d2 : Nat} {wx : World} (h : C7 B t r W H a b b2 n c l d l2 d2 x y q top wx) : B + 1 + 1 + 1 + 1 + 1 + 1 < wx.heap.size := lt_of_block h.g6
theorem Choose1_any (w : World) : Calls Tryz.prog 59 #[] w fun e w' => e = .returned (.agg (ic (zl 71))) ∧ Ext w w' := by
 have q0 := IB.new w 32 (zl 71)
 have e1 := Ext.alloc w (.cells (ic (zl 71)) 32)
 go_enter Tryz.func59, Tryz.ntmps59
 go_wp2_with (first | (refine wpList_iallocz 32 rfl rfl 71 zeroq_M ?_; (try simp only [World.size_alloc])) | (refine wpList_istore 32 _ _ rfl rfl q0 0 71 rfl _ rfl (zl 71) (by kernel_rfl) size_Macro (zl_len 71) (by rw [zl_len]; omega) ?_; intro w2 r2 g2; refine Hid.out ?_))
 rw [spl_all (by rw [zl_len])] at r2
 have E2 : Ext w w2 := Ext.grown e1 g2 (fun k e => by cases e; omega)
 refine Lib.hid ?_
 go_wp2
 exact bodyPost_ret (v := .agg (ic (zl 71))) (results_cell_row rfl _ _ w.heap.size 32 (ic (zl 71)) (0, 0) _ rfl r2 Tryz.underlying32 rfl (by rw [ic_size, zl_len]; exact size_Macro)) rfl ⟨rfl, E2⟩
set_option maxRecDepth 100000 in
set_option maxHeartbeats 2000000 in
theorem Choose2_in (t r : Pic) (W H x y q : Nat) (px : List Int) (top : Int) (a b b2 : Option Addr) (c d d2 n l l2 : Nat) (B : Nat) (w : World) (hT : TabQ w) (h : C7 B t r W H a b b2 n c l d l2 d2 x y q top w) (h1 : alikeP t r) (h2 : alikeP t ⟨W, H, px⟩) (h3 : placeP t x y) (hq : q < 16) (htop : 0 ≤ top ∧ top ≤ (y : Int)) (hn : n = t.px.length) (hl : l = r.px.length) (hl2 : l2 = px.length) (s : Sl w a n (t.px.map (Value.int .i64))) (u : Sl w b l (r.px.map (Value.int .i64))) (v : Sl w b2 l2 (px.map (Value.int .i64))) :
 Calls Tryz.prog 60 #[.pointer (some ⟨B, 0, none⟩), .pointer (some ⟨B + 1, 0, none⟩), .pointer (some ⟨B + 1 + 1 + 1, 0, none⟩), .pointer (some ⟨B + 1 + 1 + 1 + 1, 0, none⟩), .pointer (some ⟨B + 1 + 1 + 1 + 1 + 1, 0, none⟩)] w fun e w' => e = .returned (.agg (ic (can1 t r x y q).zs)) ∧ Ext w w' := by
 have hln := Pic.len_le h1.1
 have hll := Pic.len_le h1.2.1
 have hlp := Pic.len_le h2.2.1
 simp only at hlp
 rw [← hn] at hln
 rw [← hl] at hll
 rw [← hl2] at hlp
 have hxy : x ≤ 24 ∧ y ≤ 24 := by
  have e1 := h1.1.1.2.1
  have e2 := h1.1.2.1.2.1
  have e3 := h3.2.2.1
  have e4 := h3.2.2.2.1
  have e5 := h3.2.2.2.2.2.1
  have e6 := h3.2.2.2.2.2.2
  omega
 have hbeg : (0 ≤ (x : Int)) ∧ ((x : Int) < t.w) ∧ ((x : Int) % 8 = 0) ∧ (0 ≤ (y : Int)) ∧ ((y : Int) < t.h) ∧ ((y : Int) % 8 = 0) := h3.2
 have HTv := Lib.hid h1.1
 have HRv := Lib.hid h1.2.1
 have H1 := Lib.hid h1
 have HB := Lib.hid hbeg
 have HN := Lib.hid hn
 have HL := Lib.hid hl
 obtain ⟨m1, hm1e⟩ : ∃ m, m = can1 t r x y q := ⟨_, rfl⟩
 have hm1 := Lib.hid (Mac.zs_len (show m1.ok by rw [hm1e]; exact can1_ok _ _ _ _ _))
 have hvv := bv_vv h1.1 h1.2.1 x y
 obtain ⟨⟨p0, p1⟩, hpv⟩ : ∃ z, z = bv t r x y := ⟨_, rfl⟩
 rw [← hpv] at hvv
 simp only at hvv
 have HBV := Lib.hid (show (stI (cV t r x y) vecL).1 = (p0, p1) by rw [hpv]; unfold bv; rfl)
 have Hm1 := Lib.hid (show macI p0 p1 (intL t r x y p0 p1 q 4) = m1 by rw [hm1e]; unfold can1; rw [← hpv])
 rw [← hm1e]
 have hBl := h.lt
 have e0 := Ext.alloc w (.cells (ic (zl 71)) 32)
 have i0 := IB.new w 32 (zl 71)
 obtain ⟨R, hR⟩ : ∃ R, R = w.heap.size := ⟨_, rfl⟩
 rw [← hR] at i0 hBl
 have hRw : w.heap.size ≤ R := by omega
 clear h1 h2 h3 htop hn hl hl2 hm1e hpv hbeg
 go_enter Tryz.func60, Tryz.ntmps60
 go_upto_region 1 with (first | (refine wpList_iallocz 32 rfl rfl 71 zeroq_M ?_; (try simp only [World.size_alloc])) | fail)
 rw [← hR]
 have F0 : C7 B t r W H a b b2 n c l d l2 d2 x y q top (w.alloc (.cells (ic (zl 71)) 32)) ∧ Ext w (w.alloc (.cells (ic (zl 71)) 32)) ∧ IB (w.alloc (.cells (ic (zl 71)) 32)) R 32 (zl 71) := ⟨h.e e0, e0, i0⟩
 clear h e0 i0 hR
 generalize w.alloc (.cells (ic (zl 71)) 32) = w1 at *
 simp only [Act.put, List.setIfInBounds_toArray, List.set_cons_succ, List.set_cons_zero]
 have hext : ∀ (i : Nat) (own : Value) (ys : Nat → Value) (wa wb : World), Ext wa wb → (match i with | 0 => own = .agg #[.int .i64 t.w, .int .i64 t.h, .slice a n c] | 1 => own = .agg #[.int .i64 r.w, .int .i64 r.h, .slice b l d] | 2 => own = .int .i64 (x : Nat) | 3 => own = .int .i64 (y : Nat) | 4 => own = .agg #[.int .i64 t.w, .int .i64 t.h, .slice a n c] | 5 => own = .agg #[.int .i64 r.w, .int .i64 r.h, .slice b l d] | 6 => own = .int .i64 (x : Nat) | 7 => own = .int .i64 (y : Nat) | 8 => own = .agg #[.int .i64 p0, .int .i64 p1] | 9 => own = .int .i64 (q : Nat) | 10 => own = .agg (ic m1.zs) | 11 => True | _ => True) → (match i with | 0 => own = .agg #[.int .i64 t.w, .int .i64 t.h, .slice a n c] | 1 => own = .agg #[.int .i64 r.w, .int .i64 r.h, .slice b l d] | 2 => own = .int .i64 (x : Nat) | 3 => own = .int .i64 (y : Nat) | 4 => own = .agg #[.int .i64 t.w, .int .i64 t.h, .slice a n c] | 5 => own = .agg #[.int .i64 r.w, .int .i64 r.h, .slice b l d] | 6 => own = .int .i64 (x : Nat) | 7 => own = .int .i64 (y : Nat) | 8 => own = .agg #[.int .i64 p0, .int .i64 p1] | 9 => own = .int .i64 (q : Nat) | 10 => own = .agg (ic m1.zs) | 11 => True | _ => True) := by
  intro i own ys wa wb e h
  match i, h with
  | 0, h | 1, h | 2, h | 3, h | 4, h | 5, h | 6, h | 7, h | 8, h | 9, h | 10, h | 11, h => exact h
  | _ + 12, _ => trivial
 have Hext := Lib.hid hext
 clear hext
 refine wp_region_invL (by kernel_rfl) [(6, 0), (7, 1), (8, 2), (9, 3), (10, 4), (11, 5), (12, 6), (13, 7), (14, 8), (15, 9), (16, 10)] [[], [], [], [], [], [], [], [], [4, 5, 6, 7], [], [0, 1, 2, 3, 4, 5, 6, 7, 8, 9], [0, 1, 2, 3, 4, 5, 6, 7, 8, 9, 10]] (fun i own ys wx => match i with | 0 => own = .agg #[.int .i64 t.w, .int .i64 t.h, .slice a n c] | 1 => own = .agg #[.int .i64 r.w, .int .i64 r.h, .slice b l d] | 2 => own = .int .i64 (x : Nat) | 3 => own = .int .i64 (y : Nat) | 4 => own = .agg #[.int .i64 t.w, .int .i64 t.h, .slice a n c] | 5 => own = .agg #[.int .i64 r.w, .int .i64 r.h, .slice b l d] | 6 => own = .int .i64 (x : Nat) | 7 => own = .int .i64 (y : Nat) | 8 => own = .agg #[.int .i64 p0, .int .i64 p1] | 9 => own = .int .i64 (q : Nat) | 10 => own = .agg (ic m1.zs) | 11 => True | _ => True) (fun Lx wx => C7 B t r W H a b b2 n c l d l2 d2 x y q top wx ∧ Ext w wx ∧ IB wx R 32 (if Lx 11 = true then m1.zs else zl 71)) (by kernel_rfl) (by kernel_rfl) (by kernel_rfl) ?g0_r1 ?gop_r1 ?gend_r1
 case g0_r1 => exact ⟨F0.1.e (Ext.drewN _ 1), F0.2.1.trans_drewN 1, F0.2.2.drewN 1⟩
 case gop_r1 =>
  refine ⟨?_, ?o1, ?o2, ?o3, ?_, ?o5, ?o6, ?o7, ?o8, ?o9, ?o10, ?o11, trivial⟩ <;> (intro Lx xs wx hG hl ha hb hD hI Qo Kx hK hQo; simp only [patchS, Nat.reduceAdd, Nat.reduceEqDiff, ↓reduceIte] at hQo ⊢)
  case o1 =>
   have l11 : Lx 11 = false := hb 11 rfl
   clear hl ha hb hD hI
   obtain ⟨-, k10, k11, k12, -⟩ := bx3 hG.1.g1
   go_wp2
   exact hK.out _ _ ⟨rfl, hG, fun _ _ _ _ _ _ h => h⟩
  case o2 =>
   have l11 : Lx 11 = false := hb 11 rfl
   clear hl ha hb hD hI
   obtain ⟨-, k30, -⟩ := bx1 hG.1.g3
   go_wp2
   exact hK.out _ _ ⟨rfl, hG, fun _ _ _ _ _ _ h => h⟩
  case o3 =>
   have l11 : Lx 11 = false := hb 11 rfl
   clear hl ha hb hD hI
   obtain ⟨-, k40, -⟩ := bx1 hG.1.g4
   go_wp2
   exact hK.out _ _ ⟨rfl, hG, fun _ _ _ _ _ _ h => h⟩
  case o5 =>
   have l11 : Lx 11 = false := hb 11 rfl
   clear hl ha hb hD hI
   obtain ⟨-, k10, k11, k12, -⟩ := bx3 hG.1.g1
   go_wp2
   exact hK.out _ _ ⟨rfl, hG, fun _ _ _ _ _ _ h => h⟩
  case o6 =>
   have l11 : Lx 11 = false := hb 11 rfl
   clear hl ha hb hD hI
   obtain ⟨-, k30, -⟩ := bx1 hG.1.g3
   go_wp2
   exact hK.out _ _ ⟨rfl, hG, fun _ _ _ _ _ _ h => h⟩
  case o7 =>
   have l11 : Lx 11 = false := hb 11 rfl
   clear hl ha hb hD hI
   obtain ⟨-, k40, -⟩ := bx1 hG.1.g4
   go_wp2
   exact hK.out _ _ ⟨rfl, hG, fun _ _ _ _ _ _ h => h⟩
  case o8 =>
   have l11 : Lx 11 = false := hb 11 rfl
   clear hl ha hb
   have d4 : _ = _ := hD 4 rfl
   have d5 : _ = _ := hD 5 rfl
   have d6 : _ = _ := hD 6 rfl
   have d7 : _ = _ := hD 7 rfl
   clear hD hI
   generalize xs 4 = y4 at *
   generalize xs 5 = y5 at *
   generalize xs 6 = y6 at *
   generalize xs 7 = y7 at *
   subst d4 d5 d6 d7
   go_wp2_with fail
   refine (MotionSearch_in t r x y a b c d n l _ H1.out HB.out HN.out HL.out (s.ext hG.2.1) (u.ext hG.2.1)).mono ?_
   rw [HBV.out]
   rintro e wz ⟨rfl, ez⟩
   go_wp2
   exact hK.out _ _ ⟨rfl, ⟨hG.1.e ez, hG.2.1.trans ez, hG.2.2.ext ez⟩, fun i _ _ _ own ys h => Hext.out i own ys _ _ ez h⟩
  case o9 =>
   have l11 : Lx 11 = false := hb 11 rfl
   clear hl ha hb hD hI
   obtain ⟨-, k50, -⟩ := bx1 hG.1.g5
   go_wp2
   exact hK.out _ _ ⟨rfl, hG, fun _ _ _ _ _ _ h => h⟩
  case o10 =>
   have l11 : Lx 11 = false := hb 11 rfl
   clear hl ha hb
   have d0 : _ = _ := hD 0 rfl
   have d1 : _ = _ := hD 1 rfl
   have d2 : _ = _ := hD 2 rfl
   have d3 : _ = _ := hD 3 rfl
   have d8 : _ = _ := hD 8 rfl
   have d9 : _ = _ := hD 9 rfl
   clear hD hI
   generalize xs 0 = y0 at *
   generalize xs 1 = y1 at *
   generalize xs 2 = y2 at *
   generalize xs 3 = y3 at *
   generalize xs 8 = y8 at *
   generalize xs 9 = y9 at *
   subst d0 d1 d2 d3 d8 d9
   go_wp2_with fail
   refine (impl_InterMacro_yes_4 t r x y p0 p1 q a b c d n l _ (hT.ext hG.2.1) HN.out HL.out (by omega) (by omega) (s.ext hG.2.1) (u.ext hG.2.1) HRv.out HTv.out (by omega) (by omega) hvv hq H1.out HB.out hvv (by omega)).mono ?_
   rw [Hm1.out]
   rintro e wz ⟨rfl, ez⟩
   go_wp2
   exact hK.out _ _ ⟨rfl, ⟨hG.1.e ez, hG.2.1.trans ez, hG.2.2.ext ez⟩, fun i _ _ _ own ys h => Hext.out i own ys _ _ ez h⟩
  case o11 =>
   have l11 : Lx 11 = false := hl
   clear hl ha hb
   have d10 : _ = _ := hD 10 rfl
   clear hD hI
   generalize xs 10 = y10 at *
   subst d10
   rw [l11, ifF] at hG
   have ib := hG.2.2
   refine wpList_istore 32 _ _ rfl rfl ib 0 71 rfl _ rfl m1.zs rfl size_Macro hm1.out (by rw [zl_len]; omega) ?_
   intro w9 i9 g9
   rw [spl_all (by rw [hm1.out, zl_len])] at i9
   exact hQo undef _ (hK.out _ _ ⟨trivial, ⟨hG.1.gr g9 hBl, Ext.grown hG.2.1 g9 (fun k e => by cases e; exact hRw), i9⟩, fun _ _ _ _ _ _ h => h⟩)
  all_goals
   have l11 : Lx 11 = false := hb 11 rfl
   clear hl ha hb hD hI
   obtain ⟨-, k00, k01, k02, -⟩ := bx3 hG.1.g0
   go_wp2
   exact hK.out _ _ ⟨rfl, hG, fun _ _ _ _ _ _ h => h⟩
 clear Hext
 intro xs wx hV hG0
 obtain ⟨Lx, hL, hG⟩ := hG0
 have l11 : Lx 11 = true := hL 11 (by decide)
 clear hL hV
 simp only [patchS, Nat.reduceAdd, Nat.reduceEqDiff, ↓reduceIte]
 generalize xs 0 = y0 at *
 generalize xs 1 = y1 at *
 generalize xs 2 = y2 at *
 generalize xs 3 = y3 at *
 generalize xs 4 = y4 at *
 generalize xs 5 = y5 at *
 generalize xs 6 = y6 at *
 generalize xs 7 = y7 at *
 generalize xs 8 = y8 at *
 generalize xs 9 = y9 at *
 generalize xs 10 = y10 at *
 generalize xs 11 = y11 at *
 replace hG : C7 B t r W H a b b2 n c l d l2 d2 x y q top wx ∧ Ext w wx ∧ IB wx R 32 (if Lx 11 = true then m1.zs else zl 71) := hG
 rw [l11, ifT] at hG
 obtain ⟨-, hE, hI⟩ := hG
 go_wp2
 exact bodyPost_ret (v := .agg (ic m1.zs)) (results_cell_row rfl _ _ R 32 (ic m1.zs) (0, 0) _ rfl hI Tryz.underlying32 rfl (by rw [ic_size, hm1.out]; exact size_Macro)) rfl ⟨rfl, hE⟩
set_option maxRecDepth 100000 in
set_option maxHeartbeats 2000000 in
theorem Choose3_in (t r : Pic) (W H x y q : Nat) (px : List Int) (top : Int) (a b b2 : Option Addr) (c d d2 n l l2 : Nat) (B : Nat) (w : World) (hT : TabQ w) (h : C7 B t r W H a b b2 n c l d l2 d2 x y q top w) (h1 : alikeP t r) (h2 : alikeP t ⟨W, H, px⟩) (h3 : placeP t x y) (hq : q < 16) (htop : 0 ≤ top ∧ top ≤ (y : Int)) (hn : n = t.px.length) (hl : l = r.px.length) (hl2 : l2 = px.length) (s : Sl w a n (t.px.map (Value.int .i64))) (u : Sl w b l (r.px.map (Value.int .i64))) (v : Sl w b2 l2 (px.map (Value.int .i64))) :
 Calls Tryz.prog 61 #[.pointer (some ⟨B, 0, none⟩), .pointer (some ⟨B + 1 + 1, 0, none⟩), .pointer (some ⟨B + 1 + 1 + 1, 0, none⟩), .pointer (some ⟨B + 1 + 1 + 1 + 1, 0, none⟩), .pointer (some ⟨B + 1 + 1 + 1 + 1 + 1, 0, none⟩), .pointer (some ⟨B + 1 + 1 + 1 + 1 + 1 + 1, 0, none⟩)] w fun e w' => e = .returned (.agg (ic (can2 t ⟨W, H, px⟩ x y q top).zs)) ∧ Ext w w' := by
 have hln := Pic.len_le h1.1
 have hll := Pic.len_le h1.2.1
 have hlp := Pic.len_le h2.2.1
 simp only at hlp
 rw [← hn] at hln
 rw [← hl] at hll
 rw [← hl2] at hlp
 have hxy : x ≤ 24 ∧ y ≤ 24 := by
  have e1 := h1.1.1.2.1
  have e2 := h1.1.2.1.2.1
  have e3 := h3.2.2.1
  have e4 := h3.2.2.2.1
  have e5 := h3.2.2.2.2.2.1
  have e6 := h3.2.2.2.2.2.2
  omega
 have hbeg : (0 ≤ (x : Int)) ∧ ((x : Int) < t.w) ∧ ((x : Int) % 8 = 0) ∧ (0 ≤ (y : Int)) ∧ ((y : Int) < t.h) ∧ ((y : Int) % 8 = 0) := h3.2
 have hW8 : x + 8 ≤ W ∧ y + 8 ≤ H ∧ W ≤ 32 ∧ H ≤ 32 := by
  have p1 := h2.2.1.1
  have p2 := h2.2.1.2.1
  have e1 := h2.2.2.1
  have e2 := h2.2.2.2
  simp only at p1 p2 e1 e2
  have g3 := h3.2.2.1
  have g5 := h3.2.2.2.2.2.1
  have k1 := side_fit h1.1.1 e1 g3 h3.2.2.2.1
  have k2 := side_fit h1.1.2.1 e2 g5 h3.2.2.2.2.2.2
  have := p1.2.1
  have := p2.2.1
  omega
 have hm2 := Lib.hid (Mac.zs_len (can2_ok t ⟨W, H, px⟩ x y q top))
 have hc := fun (w : World) (hT : TabQ w) (s : Sl w a n (t.px.map (Value.int .i64))) (v : Sl w b2 l2 (px.map (Value.int .i64))) => impl_IntraMacro_yes_5 t W H x y px q top a b2 c d2 n l2 w hT hn hl2 (by omega) (by omega) s v h1.1 h2.2.1 hW8.1 hW8.2.1 hW8.2.2.1 hW8.2.2.2 hq htop.1 h2 hbeg (by omega) htop.1 htop.2
 rw [show inMac t ⟨W, H, px⟩ x y q top 4 = can2 t ⟨W, H, px⟩ x y q top from rfl] at hc
 obtain ⟨m2, hm2e⟩ : ∃ m, m = can2 t ⟨W, H, px⟩ x y q top := ⟨_, rfl⟩
 rw [← hm2e] at hc hm2 ⊢
 have HC := Lib.hid hc
 have hBl := h.lt
 have e0 := Ext.alloc w (.cells (ic (zl 71)) 32)
 have i0 := IB.new w 32 (zl 71)
 obtain ⟨R, hR⟩ : ∃ R, R = w.heap.size := ⟨_, rfl⟩
 rw [← hR] at i0 hBl
 have hRw : w.heap.size ≤ R := by omega
 have h9 := h.e e0
 clear h1 h2 h3 htop hn hl hl2 hm2e hbeg hc h
 go_enter Tryz.func61, Tryz.ntmps61
 go_upto_region 1 with (first | (refine wpList_iallocz 32 rfl rfl 71 zeroq_M ?_; (try simp only [World.size_alloc])) | fail)
 rw [← hR]
 clear hR
 generalize w.alloc (.cells (ic (zl 71)) 32) = w1 at *
 obtain ⟨-, k00, k01, k02, -⟩ := bx3 h9.g0
 obtain ⟨-, k20, k21, k22, -⟩ := bx3 h9.g2
 obtain ⟨-, k30, -⟩ := bx1 h9.g3
 obtain ⟨-, k40, -⟩ := bx1 h9.g4
 obtain ⟨-, k50, -⟩ := bx1 h9.g5
 obtain ⟨-, k60, -⟩ := bx1 h9.g6
 go_wp2_with fail
 refine (HC.out _ (hT.ext e0) (s.ext e0) (v.ext e0)).mono ?_
 rintro e w2 ⟨rfl, e2⟩
 have i2 := i0.ext e2
 have E2 := e0.trans e2
 clear i0 e0 e2 h9 HC k00 k20 k30 k40 k50 k60 k01 k02 k21 k22
 go_wp2_with (refine wpList_istore 32 _ _ rfl rfl i2 0 71 rfl _ rfl m2.zs rfl size_Macro hm2.out (by rw [zl_len]; omega) ?_; intro w3 i3 g3; refine Hid.out ?_)
 rw [spl_all (by rw [hm2.out, zl_len])] at i3
 have E3 : Ext w w3 := Ext.grown E2 g3 (fun k e => by cases e; exact hRw)
 refine Lib.hid ?_
 go_wp2
 exact bodyPost_ret (v := .agg (ic m2.zs)) (results_cell_row rfl _ _ R 32 (ic m2.zs) (0, 0) _ rfl i3 Tryz.underlying32 rfl (by rw [ic_size, hm2.out]; exact size_Macro)) rfl ⟨rfl, E3⟩
set_option maxRecDepth 100000 in
set_option maxHeartbeats 2000000 in
theorem Choose4_in (m : Mac) (t r : Pic) (W H x y q : Nat) (px : List Int) (top : Int) (a b b2 : Option Addr) (c d d2 n l l2 : Nat) (B : Nat) (w : World) (hT : TabQ w) (h : C7 B t r W H a b b2 n c l d l2 d2 x y q top w) (hm : m.ok) (hv : m.valid) (h1 : alikeP t r) (h2 : alikeP t ⟨W, H, px⟩) (h3 : placeP t x y) (hq : q < 16) (htop : 0 ≤ top ∧ top ≤ (y : Int)) (hn : n = t.px.length) (hl : l = r.px.length) (hl2 : l2 = px.length) (s : Sl w a n (t.px.map (Value.int .i64))) (u : Sl w b l (r.px.map (Value.int .i64))) (v : Sl w b2 l2 (px.map (Value.int .i64))) :
 Calls Tryz.prog 63 #[.agg (ic m.zs), .pointer (some ⟨B, 0, none⟩), .pointer (some ⟨B + 1, 0, none⟩), .pointer (some ⟨B + 1 + 1, 0, none⟩), .pointer (some ⟨B + 1 + 1 + 1, 0, none⟩), .pointer (some ⟨B + 1 + 1 + 1 + 1, 0, none⟩), .pointer (some ⟨B + 1 + 1 + 1 + 1 + 1, 0, none⟩), .pointer (some ⟨B + 1 + 1 + 1 + 1 + 1 + 1, 0, none⟩)] w fun e w' => e = .returned (.int .i64 (cst t r ⟨W, H, px⟩ x y q top m)) ∧ Ext w w' := by
 have hln := Pic.len_le h1.1
 have hll := Pic.len_le h1.2.1
 have hlp := Pic.len_le h2.2.1
 simp only at hlp
 rw [← hn] at hln
 rw [← hl] at hll
 rw [← hl2] at hlp
 have hxy : x ≤ 24 ∧ y ≤ 24 := by
  have e1 := h1.1.1.2.1
  have e2 := h1.1.2.1.2.1
  have e3 := h3.2.2.1
  have e4 := h3.2.2.2.1
  have e5 := h3.2.2.2.2.2.1
  have e6 := h3.2.2.2.2.2.2
  omega
 have hml := Lib.hid (Mac.zs_len hm)
 have ho := okR_of (q := (q : Int)) h1 h2 h3 (by omega) htop hv
 have hc := fun (w : World) (hT : TabQ w) (s : Sl w a n (t.px.map (Value.int .i64))) (u : Sl w b l (r.px.map (Value.int .i64))) (v : Sl w b2 l2 (px.map (Value.int .i64))) => impl_cost_in t r W H x y px m q top a b b2 c d d2 n l l2 w hT hn hl hl2 (by omega) s u v hm h1.1 ho
 rw [show sqS t ⟨W, H, bldS r ⟨W, H, px⟩ x y m q top 4⟩ x y 64 + stp q * (macN m : Int) = cst t r ⟨W, H, px⟩ x y q top m from rfl] at hc
 obtain ⟨C, hC⟩ : ∃ C, C = cst t r ⟨W, H, px⟩ x y q top m := ⟨_, rfl⟩
 rw [← hC] at hc ⊢
 have HC := Lib.hid hc
 have e0 := Ext.alloc w (.cells (ic m.zs) 32)
 have i0 := IB.new w 32 m.zs
 have h9 := h.e e0
 obtain ⟨R, hR⟩ : ∃ R, R = w.heap.size := ⟨_, rfl⟩
 rw [← hR] at i0
 clear h1 h2 h3 htop hn hl hl2 hc h ho hC hm hv
 go_enter Tryz.func63, Tryz.ntmps63
 go_upto_region 1 with fail
 rw [← hR]
 clear hR
 generalize w.alloc (.cells (ic m.zs) 32) = w1 at *
 obtain ⟨-, k00, k01, k02, -⟩ := bx3 h9.g0
 obtain ⟨-, k10, k11, k12, -⟩ := bx3 h9.g1
 obtain ⟨-, k20, k21, k22, -⟩ := bx3 h9.g2
 obtain ⟨-, k30, -⟩ := bx1 h9.g3
 obtain ⟨-, k40, -⟩ := bx1 h9.g4
 obtain ⟨-, k50, -⟩ := bx1 h9.g5
 obtain ⟨-, k60, -⟩ := bx1 h9.g6
 go_wp2_with (refine wpList_iload 32 _ rfl rfl i0 0 71 rfl _ Tryz.underlying32 rfl size_Macro (by rw [hml.out]; omega) _ (by rw [sub_all _ _ hml.out]) ?_)
 refine (HC.out _ (hT.ext e0) (s.ext e0) (u.ext e0) (v.ext e0)).mono ?_
 rintro e w2 ⟨rfl, e2⟩
 go_wp2
 go_ret
 exact ⟨rfl, e0.trans e2⟩
end Go.Proofs.YtbnhaegidfbgbaaGreatDoor
namespace Go.Proofs.YtbnhaegidfbgbaaGreatDoor
open Go.RowKit
set_option maxHeartbeats 1000000
theorem stC_valid {t r p : Pic} {x y q : Nat} {top : Int} {m1 m2 : Mac} (h1 : m1.valid) (h2 : m2.valid) (k : Nat) : (stC t r p x y q top m1 m2 k).valid := by
 induction k with
 | zero => exact mac0_val
 | succ k ih =>
  have hc : (if k = 0 then m1 else m2).valid := by split <;> assumption
  unfold stC
  by_cases hlt : cst t r p x y q top (if k = 0 then m1 else m2) < cst t r p x y q top (stC t r p x y q top m1 m2 k)
  ·rw [if_pos hlt]; exact hc
  ·rw [if_neg hlt]; exact ih
theorem cst_nn {t r p : Pic} (ht : t.valid) (hp : p.valid) (x y : Nat) {q : Nat} (hq : q < 16) (top : Int) {m : Mac} (hm : m.ok) (hv : m.valid) : 0 ≤ cst t r p x y q top m ∧ cst t r p x y q top m ≤ 9000000 := by
 have h1 := sqS_rng ht (bldS_valid hp r x y m q top 4) (x : Int) (y : Int) 64
 have h2 := rate_rng hm hv hq
 unfold cst
 omega
/-- What the search for the cheapest has. -/
structure ME (w : World) (B Q R g : Nat) (t r : Pic) (W H : Nat) (a b b2 : Option Addr) (n c l d l2 d2 x y q : Nat) (top : Int) (Z : List Int) (wx : World) : Prop where
 ex : Ext w wx
 c7 : C7 B t r W H a b b2 n c l d l2 d2 x y q top wx
 rs : IB wx R 32 (zl 71)
 be : IB wx Q 32 Z
 fs : wx.heap[g]? = some (.cells #[.func (.func 59) #[] #[], .func (.func 60) #[] #[.pointer (some ⟨B, 0, none⟩), .pointer (some ⟨B + 1, 0, none⟩), .pointer (some ⟨B + 1 + 1 + 1, 0, none⟩), .pointer (some ⟨B + 1 + 1 + 1 + 1, 0, none⟩), .pointer (some ⟨B + 1 + 1 + 1 + 1 + 1, 0, none⟩)], .func (.func 61) #[] #[.pointer (some ⟨B, 0, none⟩), .pointer (some ⟨B + 1 + 1, 0, none⟩), .pointer (some ⟨B + 1 + 1 + 1, 0, none⟩), .pointer (some ⟨B + 1 + 1 + 1 + 1, 0, none⟩), .pointer (some ⟨B + 1 + 1 + 1 + 1 + 1, 0, none⟩), .pointer (some ⟨B + 1 + 1 + 1 + 1 + 1 + 1, 0, none⟩)]] 88 (0, 0))
 od : w.heap.size ≤ R ∧ B + 1 + 1 + 1 + 1 + 1 + 1 < R ∧ g < R ∧ R < Q
theorem ME.e {w : World} {Q R g : Nat} {Z : List Int} {B W H x y q : Nat} {top : Int} {t r : Pic} {a b b2 : Option Addr} {n c l d l2 d2 : Nat} {wx wy : World} (h : ME w B Q R g t r W H a b b2 n c l d l2 d2 x y q top Z wx) (e : Ext wx wy) : ME w B Q R g t r W H a b b2 n c l d l2 d2 x y q top Z wy :=
 ⟨h.ex.trans e, h.c7.e e, h.rs.ext e, h.be.ext e, e.blk h.fs, h.od⟩
theorem ME.gr {w : World} {Q R g : Nat} {Z : List Int} {B W H x y q : Nat} {top : Int} {t r : Pic} {a b b2 : Option Addr} {n c l d l2 d2 : Nat} {wx wy : World} (h : ME w B Q R g t r W H a b b2 n c l d l2 d2 x y q top Z wx) {X : Nat} (k : wx.grownBy wy (some X)) (hX : Q < X) : ME w B Q R g t r W H a b b2 n c l d l2 d2 x y q top Z wy := by
 have := h.od
 exact ⟨Ext.grown h.ex k (fun j e => by cases e; omega), h.c7.gr k (by omega), h.rs.gr k (by simp; omega), h.be.gr k (by simp; omega), blk_gr h.fs k (by simp; omega), h.od⟩
theorem ME.set {w : World} {Q R g : Nat} {Z Z' : List Int} {B W H x y q : Nat} {top : Int} {t r : Pic} {a b b2 : Option Addr} {n c l d l2 d2 : Nat} {wx wy : World} (h : ME w B Q R g t r W H a b b2 n c l d l2 d2 x y q top Z wx) (i : IB wy Q 32 Z') (k : wx.grownBy wy (some Q)) : ME w B Q R g t r W H a b b2 n c l d l2 d2 x y q top Z' wy := by
 have := h.od
 exact ⟨Ext.grown h.ex k (fun j e => by cases e; omega), h.c7.gr k (by omega), h.rs.gr k (by simp; omega), i, blk_gr h.fs k (by simp; omega), h.od⟩
set_option maxRecDepth 100000 in
set_option maxHeartbeats 4000000 in
theorem cheapest_in (t r : Pic) (W H x y q : Nat) (px : List Int) (top : Int) (a b b2 : Option Addr) (c d d2 n l l2 : Nat) (B : Nat) (w : World) (g : Nat) (hT : TabQ w) (h : C7 B t r W H a b b2 n c l d l2 d2 x y q top w) (hg : w.heap[g]? = some (.cells #[.func (.func 59) #[] #[], .func (.func 60) #[] #[.pointer (some ⟨B, 0, none⟩), .pointer (some ⟨B + 1, 0, none⟩), .pointer (some ⟨B + 1 + 1 + 1, 0, none⟩), .pointer (some ⟨B + 1 + 1 + 1 + 1, 0, none⟩), .pointer (some ⟨B + 1 + 1 + 1 + 1 + 1, 0, none⟩)], .func (.func 61) #[] #[.pointer (some ⟨B, 0, none⟩), .pointer (some ⟨B + 1 + 1, 0, none⟩), .pointer (some ⟨B + 1 + 1 + 1, 0, none⟩), .pointer (some ⟨B + 1 + 1 + 1 + 1, 0, none⟩), .pointer (some ⟨B + 1 + 1 + 1 + 1 + 1, 0, none⟩), .pointer (some ⟨B + 1 + 1 + 1 + 1 + 1 + 1, 0, none⟩)]] 88 (0, 0))) (h1 : alikeP t r) (h2 : alikeP t ⟨W, H, px⟩) (h3 : placeP t x y) (hq : q < 16) (htop : 0 ≤ top ∧ top ≤ (y : Int)) (hn : n = t.px.length) (hl : l = r.px.length) (hl2 : l2 = px.length) (s : Sl w a n (t.px.map (Value.int .i64))) (u : Sl w b l (r.px.map (Value.int .i64))) (v : Sl w b2 l2 (px.map (Value.int .i64))) :
 Calls Tryz.prog 62 #[.slice (some ⟨g, 0, none⟩) 3 3, .func (.func 63) #[] #[.pointer (some ⟨B, 0, none⟩), .pointer (some ⟨B + 1, 0, none⟩), .pointer (some ⟨B + 1 + 1, 0, none⟩), .pointer (some ⟨B + 1 + 1 + 1, 0, none⟩), .pointer (some ⟨B + 1 + 1 + 1 + 1, 0, none⟩), .pointer (some ⟨B + 1 + 1 + 1 + 1 + 1, 0, none⟩), .pointer (some ⟨B + 1 + 1 + 1 + 1 + 1 + 1, 0, none⟩)]] w fun e w' => e = .returned (.agg (ic (chM t r ⟨W, H, px⟩ x y q top).zs)) ∧ Ext w w' := by
 have HC2 := Lib.hid (fun (w : World) (hT : TabQ w) (h : C7 B t r W H a b b2 n c l d l2 d2 x y q top w) (s : Sl w a n (t.px.map (Value.int .i64))) (u : Sl w b l (r.px.map (Value.int .i64))) (v : Sl w b2 l2 (px.map (Value.int .i64))) => Choose2_in t r W H x y q px top a b b2 c d d2 n l l2 B w hT h h1 h2 h3 hq htop hn hl hl2 s u v)
 have HC3 := Lib.hid (fun (w : World) (hT : TabQ w) (h : C7 B t r W H a b b2 n c l d l2 d2 x y q top w) (s : Sl w a n (t.px.map (Value.int .i64))) (u : Sl w b l (r.px.map (Value.int .i64))) (v : Sl w b2 l2 (px.map (Value.int .i64))) => Choose3_in t r W H x y q px top a b b2 c d d2 n l l2 B w hT h h1 h2 h3 hq htop hn hl hl2 s u v)
 have HC4 := Lib.hid (fun (m : Mac) (w : World) (hT : TabQ w) (h : C7 B t r W H a b b2 n c l d l2 d2 x y q top w) (hm : m.ok) (hv : m.valid) (s : Sl w a n (t.px.map (Value.int .i64))) (u : Sl w b l (r.px.map (Value.int .i64))) (v : Sl w b2 l2 (px.map (Value.int .i64))) => Choose4_in m t r W H x y q px top a b b2 c d d2 n l l2 B w hT h hm hv h1 h2 h3 hq htop hn hl hl2 s u v)
 have HK := Lib.hid (fun (m : Mac) (hm : m.ok) (hv : m.valid) => cst_nn (r := r) h1.1 h2.2.1 x y hq top hm hv)
 have v1 := Lib.hid (can1_valid h1.1 h1.2.1 x y hq)
 have v2 := Lib.hid (can2_valid h1.1 h2.2.1 x y hq top)
 have hB7 := h.lt
 have hgl := lt_of_block hg
 have a0 := Ext.alloc w (.cells (ic (zl 71)) 32)
 have a1 := Ext.alloc (w.alloc (.cells (ic (zl 71)) 32)) (.cells (ic (zl 71)) 32)
 have i0 := (IB.new w 32 (zl 71)).ext a1
 have i1 := IB.new (w.alloc (.cells (ic (zl 71)) 32)) 32 (zl 71)
 rw [World.size_alloc] at i1
 have N0 : ME w B (w.heap.size + 1) w.heap.size g t r W H a b b2 n c l d l2 d2 x y q top mac0.zs ((w.alloc (.cells (ic (zl 71)) 32)).alloc (.cells (ic (zl 71)) 32)) :=
  ⟨a0.trans a1, (h.e a0).e a1, i0, by rw [mac0_zz]; exact i1, a1.blk (a0.blk hg), ⟨Nat.le_refl _, hB7, hgl, Nat.lt_succ_self _⟩⟩
 clear h hg h1 h2 h3 htop hn hl hl2 a0 a1 i0 i1 hB7 hgl
 obtain ⟨R, hR⟩ : ∃ R, R = w.heap.size := ⟨_, rfl⟩
 rw [← hR] at N0
 go_enter Tryz.func62, Tryz.ntmps62
 go_upto_region 2 with (first | (refine wpList_iallocz 32 rfl rfl 71 zeroq_M ?_; (try simp only [World.size_alloc])) | fail)
 try simp only [World.size_alloc]
 rw [← hR]
 clear hR
 generalize (w.alloc (.cells (ic (zl 71)) 32)).alloc (.cells (ic (zl 71)) 32) = w1 at *
 go_wp2_with fail
 go_loopw [6, 13] (fun ls i wr => ∃ K : Nat, K ≤ 3 ∧ i = .int .i64 (K : Nat) ∧ (K = 0 → ls = .int .i64 (-1)) ∧ (∀ k, K = k + 1 → ls = .int .i64 (cst t r ⟨W, H, px⟩ x y q top (stC t r ⟨W, H, px⟩ x y q top (can1 t r x y q) (can2 t ⟨W, H, px⟩ x y q top) k))) ∧ ME w B (R + 1) R g t r W H a b b2 n c l d l2 d2 x y q top (match K with | 0 => mac0 | k + 1 => stC t r ⟨W, H, px⟩ x y q top (can1 t r x y q) (can2 t ⟨W, H, px⟩ x y q top) k).zs wr) (fun _ i _ => (3 - intOf i).toNat)
 case atStart => exact ⟨0, by omega, rfl, fun _ => rfl, fun k hk => by omega, N0⟩
 case round =>
  obtain ⟨K, hK, rfl, hl0, hl1, M0⟩ := hrel
  clear N0
  obtain rfl | rfl | rfl | rfl : K = 0 ∨ K = 1 ∨ K = 2 ∨ K = 3 := by omega
  ·obtain rfl := hl0 rfl
   clear hl0 hl1
   have hd : decide ((0 : Int) < 3) = true := by decide
   obtain ⟨-, e0, e1, e2, -⟩ := bx3 M0.fs
   go_wp2_with fail
   refine (Choose1_any _).mono ?_
   rintro e w2 ⟨rfl, E2⟩
   rw [← mac0_zz]
   have M1 := M0.e E2
   clear e0 e1 e2 M0 E2
   obtain ⟨mk, hmk⟩ : ∃ m, m = mac0 := ⟨_, rfl⟩
   have hok : mk.ok := by rw [hmk]; exact mac0_ok
   have hvl : mk.valid := by rw [hmk]; exact mac0_val
   have Hml := Lib.hid (Mac.zs_len hok)
   have Hok := Lib.hid hok
   have Hvl := Lib.hid hvl
   rw [← hmk]
   have Hmk := Lib.hid hmk
   clear hmk hok hvl
   have M2 := M1.e (Ext.alloc w2 (.cells (ic (zl 71)) 32))
   have i0 := IB.new w2 32 (zl 71)
   have hQX := M1.be.lt
   obtain ⟨X, hX⟩ : ∃ X, X = w2.heap.size := ⟨_, rfl⟩
   rw [← hX] at i0 hQX
   have HX := Lib.hid hX.symm
   clear hX M1
   go_upto_region 7 with (first | (refine wpList_iallocz 32 rfl rfl 71 zeroq_M ?_; rw [HX.out]) | (refine wpList_istore 32 _ _ rfl rfl i0 0 71 rfl _ rfl mk.zs rfl size_Macro Hml.out (by rw [zl_len]; omega) ?_; intro w3 i3 g3; refine Hid.out ?_))
   rw [spl_all (by rw [Hml.out, zl_len])] at i3
   have M3 := M2.gr g3 hQX
   clear M2 i0 g3 HX
   refine Lib.hid ?_
   go_wp2_with (refine wpList_iload 32 _ rfl rfl i3 0 71 rfl _ Tryz.underlying32 rfl size_Macro (by rw [Hml.out]; omega) _ (by rw [sub_all _ _ Hml.out]) ?_)
   refine (HC4.out mk _ (hT.ext M3.ex) M3.c7 Hok.out Hvl.out (s.ext M3.ex) (u.ext M3.ex) (v.ext M3.ex)).mono ?_
   rintro e w4 ⟨rfl, e4⟩
   have M4 := M3.e e4
   have i4 := i3.ext e4
   have hCr := HK.out mk Hok.out Hvl.out
   obtain ⟨C, hC⟩ : ∃ C, C = cst t r ⟨W, H, px⟩ x y q top (mk) := ⟨_, rfl⟩
   rw [← hC] at hCr ⊢
   have HCc := Lib.hid hC
   clear hC M3 i3 e4
   have Hpl := Lib.hid (Mac.zs_len mac0_ok)
   have Hs2 : stC t r ⟨W, H, px⟩ x y q top (can1 t r x y q) (can2 t ⟨W, H, px⟩ x y q top) 0 = mk := Hmk.out.symm
   have Hs := Hs2
   have be := M4.be
   go_wp2_with (first | (refine wpList_iload 32 _ rfl rfl i4 0 71 rfl _ Tryz.underlying32 rfl size_Macro (by rw [Hml.out]; omega) _ (by rw [sub_all _ _ Hml.out]) ?_) | (refine wpList_istore 32 _ _ rfl rfl be 0 71 rfl _ rfl mk.zs rfl size_Macro Hml.out (by rw [Hpl.out]; omega) ?_; intro w5 i5 g5; refine Hid.out ?_))
   rw [spl_all (by rw [Hml.out, Hpl.out])] at i5
   have M5 := M4.set i5 g5
   refine Lib.hid ?_
   go_wp2
   go_roundw
   case rel => exact ⟨1, by omega, by go_num, fun h => by omega, fun k hk => by obtain rfl : k = 0 := (by omega); rw [Hs, HCc.out], by rw [show (match 1 with | 0 => mac0 | k + 1 => stC t r ⟨W, H, px⟩ x y q top (can1 t r x y q) (can2 t ⟨W, H, px⟩ x y q top) k) = mk from Hs2]; exact M5⟩
   case measure => simp [intOf]
  ·obtain rfl := hl1 0 rfl
   clear hl0 hl1
   have M0 : ME w B (R + 1) R g t r W H a b b2 n c l d l2 d2 x y q top (stC t r ⟨W, H, px⟩ x y q top (can1 t r x y q) (can2 t ⟨W, H, px⟩ x y q top) 0).zs wr := M0
   obtain ⟨D, hD⟩ : ∃ D, D = cst t r ⟨W, H, px⟩ x y q top (stC t r ⟨W, H, px⟩ x y q top (can1 t r x y q) (can2 t ⟨W, H, px⟩ x y q top) 0) := ⟨_, rfl⟩
   rw [← hD]
   have HDd := Lib.hid hD
   clear hD
   have hd : decide ((1 : Int) < 3) = true := by decide
   obtain ⟨-, e0, e1, e2, -⟩ := bx3 M0.fs
   go_wp2_with fail
   refine (HC2.out _ (hT.ext M0.ex) M0.c7 (s.ext M0.ex) (u.ext M0.ex) (v.ext M0.ex)).mono ?_
   rintro e w2 ⟨rfl, E2⟩
   have M1 := M0.e E2
   clear e0 e1 e2 M0 E2
   obtain ⟨mk, hmk⟩ : ∃ m, m = (can1 t r x y q) := ⟨_, rfl⟩
   have hok : mk.ok := by rw [hmk]; exact (can1_ok _ _ _ _ _)
   have hvl : mk.valid := by rw [hmk]; exact v1.out
   have Hml := Lib.hid (Mac.zs_len hok)
   have Hok := Lib.hid hok
   have Hvl := Lib.hid hvl
   rw [← hmk]
   have Hmk := Lib.hid hmk
   clear hmk hok hvl
   have M2 := M1.e (Ext.alloc w2 (.cells (ic (zl 71)) 32))
   have i0 := IB.new w2 32 (zl 71)
   have hQX := M1.be.lt
   obtain ⟨X, hX⟩ : ∃ X, X = w2.heap.size := ⟨_, rfl⟩
   rw [← hX] at i0 hQX
   have HX := Lib.hid hX.symm
   clear hX M1
   go_upto_region 7 with (first | (refine wpList_iallocz 32 rfl rfl 71 zeroq_M ?_; rw [HX.out]) | (refine wpList_istore 32 _ _ rfl rfl i0 0 71 rfl _ rfl mk.zs rfl size_Macro Hml.out (by rw [zl_len]; omega) ?_; intro w3 i3 g3; refine Hid.out ?_))
   rw [spl_all (by rw [Hml.out, zl_len])] at i3
   have M3 := M2.gr g3 hQX
   clear M2 i0 g3 HX
   refine Lib.hid ?_
   go_wp2_with (refine wpList_iload 32 _ rfl rfl i3 0 71 rfl _ Tryz.underlying32 rfl size_Macro (by rw [Hml.out]; omega) _ (by rw [sub_all _ _ Hml.out]) ?_)
   refine (HC4.out mk _ (hT.ext M3.ex) M3.c7 Hok.out Hvl.out (s.ext M3.ex) (u.ext M3.ex) (v.ext M3.ex)).mono ?_
   rintro e w4 ⟨rfl, e4⟩
   have M4 := M3.e e4
   have i4 := i3.ext e4
   have hCr := HK.out mk Hok.out Hvl.out
   obtain ⟨C, hC⟩ : ∃ C, C = cst t r ⟨W, H, px⟩ x y q top (mk) := ⟨_, rfl⟩
   rw [← hC] at hCr ⊢
   have HCc := Lib.hid hC
   clear hC M3 i3 e4
   have Hsv := Lib.hid (stC_ok (t := t) (r := r) (p := ⟨W, H, px⟩) (x := x) (y := y) (q := q) (top := top) (can1_ok t r x y q) (can2_ok t ⟨W, H, px⟩ x y q top) 0)
   have Hpl := Lib.hid (Mac.zs_len Hsv.out)
   have hDr := HK.out _ Hsv.out (stC_valid v1.out v2.out 0)
   rw [← HDd.out] at hDr
   have Hst := Lib.hid (show stC t r ⟨W, H, px⟩ x y q top (can1 t r x y q) (can2 t ⟨W, H, px⟩ x y q top) 1 = if cst t r ⟨W, H, px⟩ x y q top (mk) < cst t r ⟨W, H, px⟩ x y q top (stC t r ⟨W, H, px⟩ x y q top (can1 t r x y q) (can2 t ⟨W, H, px⟩ x y q top) 0) then mk else stC t r ⟨W, H, px⟩ x y q top (can1 t r x y q) (can2 t ⟨W, H, px⟩ x y q top) 0 by rw [Hmk.out]; rfl)
   rw [← HCc.out, ← HDd.out] at Hst
   have f0 : decide (D < 0) = false := by simp; omega
   by_cases hlt : C < D
   ·have f1 : decide (C < D) = true := by simpa using hlt
    have Hs := Hst.out.trans (if_pos hlt)
    have Hs2 := Hs
    have HsH := Lib.hid Hs
    clear Hs Hs2 Hst
    have be := M4.be
    go_wp2_with (first | (refine wpList_iload 32 _ rfl rfl i4 0 71 rfl _ Tryz.underlying32 rfl size_Macro (by rw [Hml.out]; omega) _ (by rw [sub_all _ _ Hml.out]) ?_) | (refine wpList_istore 32 _ _ rfl rfl be 0 71 rfl _ rfl mk.zs rfl size_Macro Hml.out (by rw [Hpl.out]; omega) ?_; intro w5 i5 g5; refine Hid.out ?_))
    rw [spl_all (by rw [Hml.out, Hpl.out])] at i5
    have M5 := M4.set i5 g5
    refine Lib.hid ?_
    go_wp2
    go_roundw
    case rel => exact ⟨2, by omega, by go_num, fun h => by omega, fun k hk => by obtain rfl : k = 1 := (by omega); rw [HsH.out, HCc.out], by rw [show (match 2 with | 0 => mac0 | k + 1 => stC t r ⟨W, H, px⟩ x y q top (can1 t r x y q) (can2 t ⟨W, H, px⟩ x y q top) k) = mk from HsH.out]; exact M5⟩
    case measure => simp [intOf]
   ·have f1 : decide (C < D) = false := by simpa using hlt
    have HsH := Lib.hid (Hst.out.trans (if_neg hlt))
    clear Hst
    go_wp2
    go_roundw
    case rel => exact ⟨2, by omega, by go_num, fun h => by omega, fun k hk => by obtain rfl : k = 1 := (by omega); rw [HsH.out, HDd.out], by rw [show (match 2 with | 0 => mac0 | k + 1 => stC t r ⟨W, H, px⟩ x y q top (can1 t r x y q) (can2 t ⟨W, H, px⟩ x y q top) k) = stC t r ⟨W, H, px⟩ x y q top (can1 t r x y q) (can2 t ⟨W, H, px⟩ x y q top) 0 from HsH.out]; exact M4⟩
    case measure => simp [intOf]
  ·obtain rfl := hl1 1 rfl
   clear hl0 hl1
   have M0 : ME w B (R + 1) R g t r W H a b b2 n c l d l2 d2 x y q top (stC t r ⟨W, H, px⟩ x y q top (can1 t r x y q) (can2 t ⟨W, H, px⟩ x y q top) 1).zs wr := M0
   obtain ⟨D, hD⟩ : ∃ D, D = cst t r ⟨W, H, px⟩ x y q top (stC t r ⟨W, H, px⟩ x y q top (can1 t r x y q) (can2 t ⟨W, H, px⟩ x y q top) 1) := ⟨_, rfl⟩
   rw [← hD]
   have HDd := Lib.hid hD
   clear hD
   have hd : decide ((2 : Int) < 3) = true := by decide
   obtain ⟨-, e0, e1, e2, -⟩ := bx3 M0.fs
   go_wp2_with fail
   refine (HC3.out _ (hT.ext M0.ex) M0.c7 (s.ext M0.ex) (u.ext M0.ex) (v.ext M0.ex)).mono ?_
   rintro e w2 ⟨rfl, E2⟩
   have M1 := M0.e E2
   clear e0 e1 e2 M0 E2
   obtain ⟨mk, hmk⟩ : ∃ m, m = (can2 t ⟨W, H, px⟩ x y q top) := ⟨_, rfl⟩
   have hok : mk.ok := by rw [hmk]; exact (can2_ok _ _ _ _ _ _)
   have hvl : mk.valid := by rw [hmk]; exact v2.out
   have Hml := Lib.hid (Mac.zs_len hok)
   have Hok := Lib.hid hok
   have Hvl := Lib.hid hvl
   rw [← hmk]
   have Hmk := Lib.hid hmk
   clear hmk hok hvl
   have M2 := M1.e (Ext.alloc w2 (.cells (ic (zl 71)) 32))
   have i0 := IB.new w2 32 (zl 71)
   have hQX := M1.be.lt
   obtain ⟨X, hX⟩ : ∃ X, X = w2.heap.size := ⟨_, rfl⟩
   rw [← hX] at i0 hQX
   have HX := Lib.hid hX.symm
   clear hX M1
   go_upto_region 7 with (first | (refine wpList_iallocz 32 rfl rfl 71 zeroq_M ?_; rw [HX.out]) | (refine wpList_istore 32 _ _ rfl rfl i0 0 71 rfl _ rfl mk.zs rfl size_Macro Hml.out (by rw [zl_len]; omega) ?_; intro w3 i3 g3; refine Hid.out ?_))
   rw [spl_all (by rw [Hml.out, zl_len])] at i3
   have M3 := M2.gr g3 hQX
   clear M2 i0 g3 HX
   refine Lib.hid ?_
   go_wp2_with (refine wpList_iload 32 _ rfl rfl i3 0 71 rfl _ Tryz.underlying32 rfl size_Macro (by rw [Hml.out]; omega) _ (by rw [sub_all _ _ Hml.out]) ?_)
   refine (HC4.out mk _ (hT.ext M3.ex) M3.c7 Hok.out Hvl.out (s.ext M3.ex) (u.ext M3.ex) (v.ext M3.ex)).mono ?_
   rintro e w4 ⟨rfl, e4⟩
   have M4 := M3.e e4
   have i4 := i3.ext e4
   have hCr := HK.out mk Hok.out Hvl.out
   obtain ⟨C, hC⟩ : ∃ C, C = cst t r ⟨W, H, px⟩ x y q top (mk) := ⟨_, rfl⟩
   rw [← hC] at hCr ⊢
   have HCc := Lib.hid hC
   clear hC M3 i3 e4
   have Hsv := Lib.hid (stC_ok (t := t) (r := r) (p := ⟨W, H, px⟩) (x := x) (y := y) (q := q) (top := top) (can1_ok t r x y q) (can2_ok t ⟨W, H, px⟩ x y q top) 1)
   have Hpl := Lib.hid (Mac.zs_len Hsv.out)
   have hDr := HK.out _ Hsv.out (stC_valid v1.out v2.out 1)
   rw [← HDd.out] at hDr
   have Hst := Lib.hid (show stC t r ⟨W, H, px⟩ x y q top (can1 t r x y q) (can2 t ⟨W, H, px⟩ x y q top) 2 = if cst t r ⟨W, H, px⟩ x y q top (mk) < cst t r ⟨W, H, px⟩ x y q top (stC t r ⟨W, H, px⟩ x y q top (can1 t r x y q) (can2 t ⟨W, H, px⟩ x y q top) 1) then mk else stC t r ⟨W, H, px⟩ x y q top (can1 t r x y q) (can2 t ⟨W, H, px⟩ x y q top) 1 by rw [Hmk.out]; rfl)
   rw [← HCc.out, ← HDd.out] at Hst
   have f0 : decide (D < 0) = false := by simp; omega
   by_cases hlt : C < D
   ·have f1 : decide (C < D) = true := by simpa using hlt
    have Hs := Hst.out.trans (if_pos hlt)
    have Hs2 := Hs
    have HsH := Lib.hid Hs
    clear Hs Hs2 Hst
    have be := M4.be
    go_wp2_with (first | (refine wpList_iload 32 _ rfl rfl i4 0 71 rfl _ Tryz.underlying32 rfl size_Macro (by rw [Hml.out]; omega) _ (by rw [sub_all _ _ Hml.out]) ?_) | (refine wpList_istore 32 _ _ rfl rfl be 0 71 rfl _ rfl mk.zs rfl size_Macro Hml.out (by rw [Hpl.out]; omega) ?_; intro w5 i5 g5; refine Hid.out ?_))
    rw [spl_all (by rw [Hml.out, Hpl.out])] at i5
    have M5 := M4.set i5 g5
    refine Lib.hid ?_
    go_wp2
    go_roundw
    case rel => exact ⟨3, by omega, by go_num, fun h => by omega, fun k hk => by obtain rfl : k = 2 := (by omega); rw [HsH.out, HCc.out], by rw [show (match 3 with | 0 => mac0 | k + 1 => stC t r ⟨W, H, px⟩ x y q top (can1 t r x y q) (can2 t ⟨W, H, px⟩ x y q top) k) = mk from HsH.out]; exact M5⟩
    case measure => simp [intOf]
   ·have f1 : decide (C < D) = false := by simpa using hlt
    have HsH := Lib.hid (Hst.out.trans (if_neg hlt))
    clear Hst
    go_wp2
    go_roundw
    case rel => exact ⟨3, by omega, by go_num, fun h => by omega, fun k hk => by obtain rfl : k = 2 := (by omega); rw [HsH.out, HDd.out], by rw [show (match 3 with | 0 => mac0 | k + 1 => stC t r ⟨W, H, px⟩ x y q top (can1 t r x y q) (can2 t ⟨W, H, px⟩ x y q top) k) = stC t r ⟨W, H, px⟩ x y q top (can1 t r x y q) (can2 t ⟨W, H, px⟩ x y q top) 1 from HsH.out]; exact M4⟩
    case measure => simp [intOf]
  ·obtain rfl := hl1 2 rfl
   clear hl0 hl1
   have M0 : ME w B (R + 1) R g t r W H a b b2 n c l d l2 d2 x y q top (chM t r ⟨W, H, px⟩ x y q top).zs wr := M0
   have hd : decide ((3 : Int) < 3) = false := by decide
   obtain ⟨Z, hZ⟩ : ∃ Z, Z = (chM t r ⟨W, H, px⟩ x y q top).zs := ⟨_, rfl⟩
   have Hrl := Lib.hid (show Z.length = 71 by rw [hZ]; exact Mac.zs_len (chM_ok _ _ _ _ _ _ _))
   rw [← hZ] at M0
   have HRR := Lib.hid hZ
   clear hZ
   obtain ⟨D, hD⟩ : ∃ D, D = cst t r ⟨W, H, px⟩ x y q top (stC t r ⟨W, H, px⟩ x y q top (can1 t r x y q) (can2 t ⟨W, H, px⟩ x y q top) 2) := ⟨_, rfl⟩
   rw [← hD]
   clear hD
   have be := M0.be
   have rs := M0.rs
   have hex := M0.ex
   have hod := M0.od
   clear M0
   go_wp2_with (first | (refine wpList_iload 32 _ rfl rfl be 0 71 rfl _ Tryz.underlying32 rfl size_Macro (by rw [Hrl.out]; omega) _ (by rw [sub_all _ _ Hrl.out]) ?_) | (refine wpList_istore 32 _ _ rfl rfl rs 0 71 rfl _ rfl Z rfl size_Macro Hrl.out (by rw [zl_len]; omega) ?_; intro w6 p6 g6; refine Hid.out ?_))
   rw [spl_all (by rw [Hrl.out, zl_len])] at p6
   have E6 : Ext w w6 := Ext.grown hex g6 (fun q hq => by cases hq; omega)
   refine Lib.hid ?_
   go_wp2
   exact bodyPost_ret (v := .agg (ic Z)) (results_cell_row rfl _ _ R 32 (ic Z) (0, 0) _ rfl p6 Tryz.underlying32 rfl (by rw [ic_size, Hrl.out]; exact size_Macro)) rfl ⟨by rw [HRR.out], E6⟩
end Go.Proofs.YtbnhaegidfbgbaaGreatDoor
namespace Go.Proofs.YtbnhaegidfbgbaaGreatDoor
open Go.RowKit
set_option maxHeartbeats 1000000
/-- The arguments of ChooseMacro are valid. -/
def okC (t r p : Pic) (x y q top : Int) : Prop := alikeP t r ∧ alikeP t p ∧ placeP t x y ∧ (0 ≤ q ∧ q ≤ 15) ∧ (0 ≤ top ∧ top ≤ y)
noncomputable instance (t r p : Pic) (x y q top : Int) : Decidable (okC t r p x y q top) := Classical.propDecidable _
/-- The chosen macroblock. -/
noncomputable def chP (t r p : Pic) (x y q top : Int) : Mac := if okC t r p x y q top then chM t r p x.toNat y.toNat q.toNat top else mac0
theorem chP_yes {t r p : Pic} {x y q top : Int} (h : okC t r p x y q top) : chP t r p x y q top = chM t r p x.toNat y.toNat q.toNat top := if_pos h
theorem chP_no {t r p : Pic} {x y q top : Int} (h : ¬ okC t r p x y q top) : chP t r p x y q top = mac0 := if_neg h
theorem chP_ok (t r p : Pic) (x y q top : Int) : (chP t r p x y q top).ok := by
 by_cases h : okC t r p x y q top
 ·rw [chP_yes h]; exact chM_ok _ _ _ _ _ _ _
 ·rw [chP_no h]; exact mac0_ok
set_option maxRecDepth 100000 in
set_option maxHeartbeats 4000000 in
theorem spec_ChooseMacro_any (t r p : Pic) (x y q top : Int) (a b b2 : Option Addr) (c d d2 n l l2 : Nat) (w : World) (hn : n = t.px.length) (hl : l = r.px.length) (hl2 : l2 = p.px.length) (nc : n ≤ 9223372036854775807) (lc : l ≤ 9223372036854775807) (l2c : l2 ≤ 9223372036854775807) (s : Sl w a n (t.px.map (Value.int .i64))) (u : Sl w b l (r.px.map (Value.int .i64))) (v : Sl w b2 l2 (p.px.map (Value.int .i64))) :
 Calls Tryz.prog 16 #[.agg #[.int .i64 t.w, .int .i64 t.h, .slice a n c], .agg #[.int .i64 r.w, .int .i64 r.h, .slice b l d], .agg #[.int .i64 p.w, .int .i64 p.h, .slice b2 l2 d2], .int .i64 x, .int .i64 y, .int .i64 q, .int .i64 top] w fun e w' => e = .returned (.agg (ic (chP t r p x y q top).zs)) ∧ Ext w w' := by
 have HN := Lib.hid hn
 have HL := Lib.hid hl
 have HL2 := Lib.hid hl2
 clear hn hl hl2
 have a0_1 := Ext.alloc (w.alloc (.cells #[.int .i64 t.w, .int .i64 t.h, .slice a n c] 25)) (.cells #[.int .i64 r.w, .int .i64 r.h, .slice b l d] 25)
 have a0_2 := Ext.alloc ((w.alloc (.cells #[.int .i64 t.w, .int .i64 t.h, .slice a n c] 25)).alloc (.cells #[.int .i64 r.w, .int .i64 r.h, .slice b l d] 25)) (.cells #[.int .i64 p.w, .int .i64 p.h, .slice b2 l2 d2] 25)
 have a0_3 := Ext.alloc (((w.alloc (.cells #[.int .i64 t.w, .int .i64 t.h, .slice a n c] 25)).alloc (.cells #[.int .i64 r.w, .int .i64 r.h, .slice b l d] 25)).alloc (.cells #[.int .i64 p.w, .int .i64 p.h, .slice b2 l2 d2] 25)) (.cells (ic (zl 71)) 32)
 have X0_0 := a0_3.blk (a0_2.blk (a0_1.blk (blk_new w (.cells #[.int .i64 t.w, .int .i64 t.h, .slice a n c] 25))))
 have a1_2 := Ext.alloc ((w.alloc (.cells #[.int .i64 t.w, .int .i64 t.h, .slice a n c] 25)).alloc (.cells #[.int .i64 r.w, .int .i64 r.h, .slice b l d] 25)) (.cells #[.int .i64 p.w, .int .i64 p.h, .slice b2 l2 d2] 25)
 have a1_3 := Ext.alloc (((w.alloc (.cells #[.int .i64 t.w, .int .i64 t.h, .slice a n c] 25)).alloc (.cells #[.int .i64 r.w, .int .i64 r.h, .slice b l d] 25)).alloc (.cells #[.int .i64 p.w, .int .i64 p.h, .slice b2 l2 d2] 25)) (.cells (ic (zl 71)) 32)
 have X1_0 := a1_3.blk (a1_2.blk (blk_new (w.alloc (.cells #[.int .i64 t.w, .int .i64 t.h, .slice a n c] 25)) (.cells #[.int .i64 r.w, .int .i64 r.h, .slice b l d] 25)))
 have a2_3 := Ext.alloc (((w.alloc (.cells #[.int .i64 t.w, .int .i64 t.h, .slice a n c] 25)).alloc (.cells #[.int .i64 r.w, .int .i64 r.h, .slice b l d] 25)).alloc (.cells #[.int .i64 p.w, .int .i64 p.h, .slice b2 l2 d2] 25)) (.cells (ic (zl 71)) 32)
 have X2_0 := a2_3.blk (blk_new ((w.alloc (.cells #[.int .i64 t.w, .int .i64 t.h, .slice a n c] 25)).alloc (.cells #[.int .i64 r.w, .int .i64 r.h, .slice b l d] 25)) (.cells #[.int .i64 p.w, .int .i64 p.h, .slice b2 l2 d2] 25))
 have X3_0 := IB.new (((w.alloc (.cells #[.int .i64 t.w, .int .i64 t.h, .slice a n c] 25)).alloc (.cells #[.int .i64 r.w, .int .i64 r.h, .slice b l d] 25)).alloc (.cells #[.int .i64 p.w, .int .i64 p.h, .slice b2 l2 d2] 25)) 32 (zl 71)
 have E_0 := (((Ext.alloc w (.cells #[.int .i64 t.w, .int .i64 t.h, .slice a n c] 25)).trans (Ext.alloc (w.alloc (.cells #[.int .i64 t.w, .int .i64 t.h, .slice a n c] 25)) (.cells #[.int .i64 r.w, .int .i64 r.h, .slice b l d] 25))).trans (Ext.alloc ((w.alloc (.cells #[.int .i64 t.w, .int .i64 t.h, .slice a n c] 25)).alloc (.cells #[.int .i64 r.w, .int .i64 r.h, .slice b l d] 25)) (.cells #[.int .i64 p.w, .int .i64 p.h, .slice b2 l2 d2] 25))).trans (Ext.alloc (((w.alloc (.cells #[.int .i64 t.w, .int .i64 t.h, .slice a n c] 25)).alloc (.cells #[.int .i64 r.w, .int .i64 r.h, .slice b l d] 25)).alloc (.cells #[.int .i64 p.w, .int .i64 p.h, .slice b2 l2 d2] 25)) (.cells (ic (zl 71)) 32))
 simp only [World.size_alloc] at X1_0 X2_0 X3_0
 clear a0_1 a0_2 a0_3 a1_2 a1_3 a2_3
 obtain ⟨-, k0_0, k0_1, k0_2, -⟩ := bx3 X0_0
 obtain ⟨-, k1_0, k1_1, k1_2, -⟩ := bx3 X1_0
 obtain ⟨-, k2_0, k2_1, k2_2, -⟩ := bx3 X2_0
 go_enter Tryz.func16, Tryz.ntmps16
 obtain ⟨D0, hD0⟩ : ∃ D, D = decide (alikeP t r) := ⟨_, rfl⟩
 have HD0 := Lib.hid hD0.symm
 clear hD0
 go_wp2_with (refine wpList_iallocz 32 rfl rfl 71 zeroq_M ?_; (try simp only [World.size_alloc]))
 refine (l1Same_at t r a b c d n l _ HN.out HL.out nc lc (s.ext E_0) (u.ext E_0)).mono ?_
 rw [show decide (alikeP t r) = D0 from HD0.out]
 rintro e w_1 ⟨rfl, e_1⟩
 have X0_1 := e_1.blk X0_0
 have X1_1 := e_1.blk X1_0
 have X2_1 := e_1.blk X2_0
 have X3_1 := X3_0.ext e_1
 have E_1 := E_0.trans e_1
 clear k0_0 k0_1 k0_2 X0_0 k1_0 k1_1 k1_2 X1_0 k2_0 k2_1 k2_2 X2_0 X3_0 E_0 e_1
 obtain ⟨-, k0_0, k0_1, k0_2, -⟩ := bx3 X0_1
 obtain ⟨-, k1_0, k1_1, k1_2, -⟩ := bx3 X1_1
 obtain ⟨-, k2_0, k2_1, k2_2, -⟩ := bx3 X2_1
 by_cases h0 : alikeP t r
 rotate_left
 ·have H0 := Lib.hid h0
  obtain rfl : D0 = false := by rw [← HD0.out]; exact decide_eq_false h0
  clear h0
  have hbz := X3_1.lt
  go_wp2_with (refine wpList_istore 32 _ _ rfl rfl X3_1 0 71 rfl _ rfl (zl 71) zeroc_M size_Macro (zl_len 71) (by simp [zl]) ?_; intro wf pf gf; refine Hid.out ?_)
  rw [spl_all (by rw [zl_len])] at pf
  have Ef : Ext w wf := Ext.grown E_1 gf (fun q hq => by cases hq; omega)
  refine Lib.hid ?_
  go_wp2
  exact bodyPost_ret (v := .agg (ic (zl 71))) (results_cell_row rfl _ _ (w.heap.size + 1 + 1 + 1) 32 (ic (zl 71)) (0, 0) _ rfl pf Tryz.underlying32 rfl (by rw [ic_size, zl_len]; exact size_Macro)) rfl ⟨by rw [chP_no (fun hh => H0.out hh.1), mac0_zz], Ef⟩
 obtain rfl : D0 = true := by rw [← HD0.out]; exact decide_eq_true h0
 have H0 := Lib.hid h0
 clear h0
 obtain ⟨D1, hD1⟩ : ∃ D, D = decide (alikeP t p) := ⟨_, rfl⟩
 have HD1 := Lib.hid hD1.symm
 clear hD1
 go_wp2_with fail
 refine (l1Same_at t p a b2 c d2 n l2 _ HN.out HL2.out nc l2c (s.ext E_1) (v.ext E_1)).mono ?_
 rw [show decide (alikeP t p) = D1 from HD1.out]
 rintro e w_2 ⟨rfl, e_2⟩
 have X0_2 := e_2.blk X0_1
 have X1_2 := e_2.blk X1_1
 have X2_2 := e_2.blk X2_1
 have X3_2 := X3_1.ext e_2
 have E_2 := E_1.trans e_2
 clear k0_0 k0_1 k0_2 X0_1 k1_0 k1_1 k1_2 X1_1 k2_0 k2_1 k2_2 X2_1 X3_1 E_1 e_2
 obtain ⟨-, k0_0, k0_1, k0_2, -⟩ := bx3 X0_2
 obtain ⟨-, k1_0, k1_1, k1_2, -⟩ := bx3 X1_2
 obtain ⟨-, k2_0, k2_1, k2_2, -⟩ := bx3 X2_2
 by_cases h1 : alikeP t p
 rotate_left
 ·have H1 := Lib.hid h1
  obtain rfl : D1 = false := by rw [← HD1.out]; exact decide_eq_false h1
  clear h1
  have hbz := X3_2.lt
  go_wp2_with (refine wpList_istore 32 _ _ rfl rfl X3_2 0 71 rfl _ rfl (zl 71) zeroc_M size_Macro (zl_len 71) (by simp [zl]) ?_; intro wf pf gf; refine Hid.out ?_)
  rw [spl_all (by rw [zl_len])] at pf
  have Ef : Ext w wf := Ext.grown E_2 gf (fun q hq => by cases hq; omega)
  refine Lib.hid ?_
  go_wp2
  exact bodyPost_ret (v := .agg (ic (zl 71))) (results_cell_row rfl _ _ (w.heap.size + 1 + 1 + 1) 32 (ic (zl 71)) (0, 0) _ rfl pf Tryz.underlying32 rfl (by rw [ic_size, zl_len]; exact size_Macro)) rfl ⟨by rw [chP_no (fun hh => H1.out hh.2.1), mac0_zz], Ef⟩
 obtain rfl : D1 = true := by rw [← HD1.out]; exact decide_eq_true h1
 have H1 := Lib.hid h1
 clear h1
 obtain ⟨D2, hD2⟩ : ∃ D, D = decide (placeP t x y) := ⟨_, rfl⟩
 have HD2 := Lib.hid hD2.symm
 clear hD2
 go_wp2_with fail
 refine (l7Place_at t x y a c n _ HN.out nc (s.ext E_2)).mono ?_
 rw [show decide (placeP t x y) = D2 from HD2.out]
 rintro e w_3 ⟨rfl, e_3⟩
 have X0_3 := e_3.blk X0_2
 have X1_3 := e_3.blk X1_2
 have X2_3 := e_3.blk X2_2
 have X3_3 := X3_2.ext e_3
 have E_3 := E_2.trans e_3
 clear k0_0 k0_1 k0_2 X0_2 k1_0 k1_1 k1_2 X1_2 k2_0 k2_1 k2_2 X2_2 X3_2 E_2 e_3
 obtain ⟨-, k0_0, k0_1, k0_2, -⟩ := bx3 X0_3
 obtain ⟨-, k1_0, k1_1, k1_2, -⟩ := bx3 X1_3
 obtain ⟨-, k2_0, k2_1, k2_2, -⟩ := bx3 X2_3
 by_cases h2 : placeP t x y
 rotate_left
 ·have H2 := Lib.hid h2
  obtain rfl : D2 = false := by rw [← HD2.out]; exact decide_eq_false h2
  clear h2
  have hbz := X3_3.lt
  go_wp2_with (refine wpList_istore 32 _ _ rfl rfl X3_3 0 71 rfl _ rfl (zl 71) zeroc_M size_Macro (zl_len 71) (by simp [zl]) ?_; intro wf pf gf; refine Hid.out ?_)
  rw [spl_all (by rw [zl_len])] at pf
  have Ef : Ext w wf := Ext.grown E_3 gf (fun q hq => by cases hq; omega)
  refine Lib.hid ?_
  go_wp2
  exact bodyPost_ret (v := .agg (ic (zl 71))) (results_cell_row rfl _ _ (w.heap.size + 1 + 1 + 1) 32 (ic (zl 71)) (0, 0) _ rfl pf Tryz.underlying32 rfl (by rw [ic_size, zl_len]; exact size_Macro)) rfl ⟨by rw [chP_no (fun hh => H2.out hh.2.2.1), mac0_zz], Ef⟩
 obtain rfl : D2 = true := by rw [← HD2.out]; exact decide_eq_true h2
 have H2 := Lib.hid h2
 clear h2
 by_cases h3 : 0 ≤ q ∧ q ≤ 15
 rotate_left
 ·have H3 : Hid (¬ (0 ≤ q ∧ q ≤ 15)) := Lib.hid h3
  go_wp2_with fail
  refine (l1In_no _ _ _ _ (by omega)).mono ?_
  rintro e w_s ⟨rfl, rfl⟩
  have hbz := X3_3.lt
  go_wp2_with (refine wpList_istore 32 _ _ rfl rfl X3_3 0 71 rfl _ rfl (zl 71) zeroc_M size_Macro (zl_len 71) (by simp [zl]) ?_; intro wf pf gf; refine Hid.out ?_)
  rw [spl_all (by rw [zl_len])] at pf
  have Ef : Ext w wf := Ext.grown E_3 gf (fun q hq => by cases hq; omega)
  refine Lib.hid ?_
  go_wp2
  exact bodyPost_ret (v := .agg (ic (zl 71))) (results_cell_row rfl _ _ (w.heap.size + 1 + 1 + 1) 32 (ic (zl 71)) (0, 0) _ rfl pf Tryz.underlying32 rfl (by rw [ic_size, zl_len]; exact size_Macro)) rfl ⟨by rw [chP_no (fun hh => by have h9 := H3.out; have h8 := hh.2.2.2.1; first | exact h9 h8 | omega), mac0_zz], Ef⟩
 have H3 := Lib.hid h3
 go_wp2_with fail
 refine (l1In_yes _ _ _ _ h3.1 h3.2).mono ?_
 rintro e w_s ⟨rfl, rfl⟩
 by_cases h4 : 0 ≤ top ∧ top ≤ y
 rotate_left
 ·have H4 : Hid (¬ (0 ≤ top ∧ top ≤ y)) := Lib.hid h4
  go_wp2_with fail
  refine (l1In_no _ _ _ _ (by omega)).mono ?_
  rintro e w_s ⟨rfl, rfl⟩
  have hbz := X3_3.lt
  go_wp2_with (refine wpList_istore 32 _ _ rfl rfl X3_3 0 71 rfl _ rfl (zl 71) zeroc_M size_Macro (zl_len 71) (by simp [zl]) ?_; intro wf pf gf; refine Hid.out ?_)
  rw [spl_all (by rw [zl_len])] at pf
  have Ef : Ext w wf := Ext.grown E_3 gf (fun q hq => by cases hq; omega)
  refine Lib.hid ?_
  go_wp2
  exact bodyPost_ret (v := .agg (ic (zl 71))) (results_cell_row rfl _ _ (w.heap.size + 1 + 1 + 1) 32 (ic (zl 71)) (0, 0) _ rfl pf Tryz.underlying32 rfl (by rw [ic_size, zl_len]; exact size_Macro)) rfl ⟨by rw [chP_no (fun hh => by have h9 := H4.out; have h8 := hh.2.2.2.2; first | exact h9 h8 | omega), mac0_zz], Ef⟩
 have H4 := Lib.hid h4
 go_wp2_with fail
 refine (l1In_yes _ _ _ _ h4.1 h4.2).mono ?_
 rintro e w_s ⟨rfl, rfl⟩
 have ho : okC t r p x y q top := ⟨H0.out, H1.out, H2.out, h3, h4⟩
 have hch := chP_yes ho
 have hx0 := H2.out.2.1
 have hy0 := H2.out.2.2.2.2.1
 have hq0 := h3.1
 obtain ⟨pw, ph, px⟩ := p
 obtain ⟨W, hW⟩ : ∃ W : Nat, pw = W := ⟨pw.toNat, by have := H1.out.2.1.1.1; simp only at this; omega⟩
 obtain ⟨H, hH⟩ : ∃ H : Nat, ph = H := ⟨ph.toNat, by have := H1.out.2.1.2.1.1; simp only at this; omega⟩
 obtain ⟨X, hX⟩ : ∃ X : Nat, x = X := ⟨x.toNat, by omega⟩
 obtain ⟨Y, hY⟩ : ∃ Y : Nat, y = Y := ⟨y.toNat, by omega⟩
 obtain ⟨Q, hQ⟩ : ∃ Q : Nat, q = Q := ⟨q.toNat, by omega⟩
 subst hW hH hX hY hQ
 clear hx0 hy0 hq0
 simp only [Int.toNat_natCast] at hch
 have HCH := Lib.hid hch
 clear hch ho
 have hbz := X3_3.lt
 go_wp2_with fail
 refine (l13Choose_in t r W H X Y Q px top a b b2 c d d2 n l l2 _ H0.out H1.out H2.out (by omega) h4 HN.out HL.out HL2.out (s.ext E_3) (u.ext E_3) (v.ext E_3)).mono ?_
 rintro e w9 ⟨rfl, e9⟩
 have X9 := X3_3.ext e9
 have E9 := E_3.trans e9
 clear X0_3 X1_3 X2_3 X3_3 E_3 e9 k0_0 k0_1 k0_2 k1_0 k1_1 k1_2 k2_0 k2_1 k2_2
 obtain ⟨Z, hZ⟩ : ∃ Z, Z = (chM t r ⟨W, H, px⟩ X Y Q top).zs := ⟨_, rfl⟩
 have Hrl := Lib.hid (show Z.length = 71 by rw [hZ]; exact Mac.zs_len (chM_ok _ _ _ _ _ _ _))
 rw [← hZ]
 have HZ := Lib.hid hZ
 clear hZ
 go_wp2_with (refine wpList_istore 32 _ _ rfl rfl X9 0 71 rfl _ rfl Z rfl size_Macro Hrl.out (by rw [zl_len]; omega) ?_; intro wf pf gf; refine Hid.out ?_)
 rw [spl_all (by rw [Hrl.out, zl_len])] at pf
 have Ef : Ext w wf := Ext.grown E9 gf (fun q hq => by cases hq; omega)
 refine Lib.hid ?_
 go_wp2
 exact bodyPost_ret (v := .agg (ic Z)) (results_cell_row rfl _ _ (w.heap.size + 1 + 1 + 1) 32 (ic Z) (0, 0) _ rfl pf Tryz.underlying32 rfl (by rw [ic_size, Hrl.out]; exact size_Macro)) rfl ⟨by rw [HCH.out, HZ.out], Ef⟩
set_option maxRecDepth 100000 in
set_option maxHeartbeats 4000000 in
theorem impl_ChooseMacro_any (t r p : Pic) (x y q top : Int) (a b b2 : Option Addr) (c d d2 n l l2 : Nat) (w : World) (hT : TabQ w) (hn : n = t.px.length) (hl : l = r.px.length) (hl2 : l2 = p.px.length) (nc : n ≤ 9223372036854775807) (lc : l ≤ 9223372036854775807) (l2c : l2 ≤ 9223372036854775807) (s : Sl w a n (t.px.map (Value.int .i64))) (u : Sl w b l (r.px.map (Value.int .i64))) (v : Sl w b2 l2 (p.px.map (Value.int .i64))) :
 Calls Tryz.prog 18 #[.agg #[.int .i64 t.w, .int .i64 t.h, .slice a n c], .agg #[.int .i64 r.w, .int .i64 r.h, .slice b l d], .agg #[.int .i64 p.w, .int .i64 p.h, .slice b2 l2 d2], .int .i64 x, .int .i64 y, .int .i64 q, .int .i64 top] w fun e w' => e = .returned (.agg (ic (chP t r p x y q top).zs)) ∧ Ext w w' := by
 have HN := Lib.hid hn
 have HL := Lib.hid hl
 have HL2 := Lib.hid hl2
 clear hn hl hl2
 have a0_1 := Ext.alloc (w.alloc (.cells #[.int .i64 t.w, .int .i64 t.h, .slice a n c] 25)) (.cells #[.int .i64 r.w, .int .i64 r.h, .slice b l d] 25)
 have a0_2 := Ext.alloc ((w.alloc (.cells #[.int .i64 t.w, .int .i64 t.h, .slice a n c] 25)).alloc (.cells #[.int .i64 r.w, .int .i64 r.h, .slice b l d] 25)) (.cells #[.int .i64 p.w, .int .i64 p.h, .slice b2 l2 d2] 25)
 have a0_3 := Ext.alloc (((w.alloc (.cells #[.int .i64 t.w, .int .i64 t.h, .slice a n c] 25)).alloc (.cells #[.int .i64 r.w, .int .i64 r.h, .slice b l d] 25)).alloc (.cells #[.int .i64 p.w, .int .i64 p.h, .slice b2 l2 d2] 25)) (.cells #[.int .i64 x] 3)
 have a0_4 := Ext.alloc ((((w.alloc (.cells #[.int .i64 t.w, .int .i64 t.h, .slice a n c] 25)).alloc (.cells #[.int .i64 r.w, .int .i64 r.h, .slice b l d] 25)).alloc (.cells #[.int .i64 p.w, .int .i64 p.h, .slice b2 l2 d2] 25)).alloc (.cells #[.int .i64 x] 3)) (.cells #[.int .i64 y] 3)
 have a0_5 := Ext.alloc (((((w.alloc (.cells #[.int .i64 t.w, .int .i64 t.h, .slice a n c] 25)).alloc (.cells #[.int .i64 r.w, .int .i64 r.h, .slice b l d] 25)).alloc (.cells #[.int .i64 p.w, .int .i64 p.h, .slice b2 l2 d2] 25)).alloc (.cells #[.int .i64 x] 3)).alloc (.cells #[.int .i64 y] 3)) (.cells #[.int .i64 q] 3)
 have a0_6 := Ext.alloc ((((((w.alloc (.cells #[.int .i64 t.w, .int .i64 t.h, .slice a n c] 25)).alloc (.cells #[.int .i64 r.w, .int .i64 r.h, .slice b l d] 25)).alloc (.cells #[.int .i64 p.w, .int .i64 p.h, .slice b2 l2 d2] 25)).alloc (.cells #[.int .i64 x] 3)).alloc (.cells #[.int .i64 y] 3)).alloc (.cells #[.int .i64 q] 3)) (.cells #[.int .i64 top] 3)
 have a0_7 := Ext.alloc (((((((w.alloc (.cells #[.int .i64 t.w, .int .i64 t.h, .slice a n c] 25)).alloc (.cells #[.int .i64 r.w, .int .i64 r.h, .slice b l d] 25)).alloc (.cells #[.int .i64 p.w, .int .i64 p.h, .slice b2 l2 d2] 25)).alloc (.cells #[.int .i64 x] 3)).alloc (.cells #[.int .i64 y] 3)).alloc (.cells #[.int .i64 q] 3)).alloc (.cells #[.int .i64 top] 3)) (.cells (ic (zl 71)) 32)
 have X0_0 := a0_7.blk (a0_6.blk (a0_5.blk (a0_4.blk (a0_3.blk (a0_2.blk (a0_1.blk (blk_new w (.cells #[.int .i64 t.w, .int .i64 t.h, .slice a n c] 25))))))))
 have a1_2 := Ext.alloc ((w.alloc (.cells #[.int .i64 t.w, .int .i64 t.h, .slice a n c] 25)).alloc (.cells #[.int .i64 r.w, .int .i64 r.h, .slice b l d] 25)) (.cells #[.int .i64 p.w, .int .i64 p.h, .slice b2 l2 d2] 25)
 have a1_3 := Ext.alloc (((w.alloc (.cells #[.int .i64 t.w, .int .i64 t.h, .slice a n c] 25)).alloc (.cells #[.int .i64 r.w, .int .i64 r.h, .slice b l d] 25)).alloc (.cells #[.int .i64 p.w, .int .i64 p.h, .slice b2 l2 d2] 25)) (.cells #[.int .i64 x] 3)
 have a1_4 := Ext.alloc ((((w.alloc (.cells #[.int .i64 t.w, .int .i64 t.h, .slice a n c] 25)).alloc (.cells #[.int .i64 r.w, .int .i64 r.h, .slice b l d] 25)).alloc (.cells #[.int .i64 p.w, .int .i64 p.h, .slice b2 l2 d2] 25)).alloc (.cells #[.int .i64 x] 3)) (.cells #[.int .i64 y] 3)
 have a1_5 := Ext.alloc (((((w.alloc (.cells #[.int .i64 t.w, .int .i64 t.h, .slice a n c] 25)).alloc (.cells #[.int .i64 r.w, .int .i64 r.h, .slice b l d] 25)).alloc (.cells #[.int .i64 p.w, .int .i64 p.h, .slice b2 l2 d2] 25)).alloc (.cells #[.int .i64 x] 3)).alloc (.cells #[.int .i64 y] 3)) (.cells #[.int .i64 q] 3)
 have a1_6 := Ext.alloc ((((((w.alloc (.cells #[.int .i64 t.w, .int .i64 t.h, .slice a n c] 25)).alloc (.cells #[.int .i64 r.w, .int .i64 r.h, .slice b l d] 25)).alloc (.cells #[.int .i64 p.w, .int .i64 p.h, .slice b2 l2 d2] 25)).alloc (.cells #[.int .i64 x] 3)).alloc (.cells #[.int .i64 y] 3)).alloc (.cells #[.int .i64 q] 3)) (.cells #[.int .i64 top] 3)
 have a1_7 := Ext.alloc (((((((w.alloc (.cells #[.int .i64 t.w, .int .i64 t.h, .slice a n c] 25)).alloc (.cells #[.int .i64 r.w, .int .i64 r.h, .slice b l d] 25)).alloc (.cells #[.int .i64 p.w, .int .i64 p.h, .slice b2 l2 d2] 25)).alloc (.cells #[.int .i64 x] 3)).alloc (.cells #[.int .i64 y] 3)).alloc (.cells #[.int .i64 q] 3)).alloc (.cells #[.int .i64 top] 3)) (.cells (ic (zl 71)) 32)
 have X1_0 := a1_7.blk (a1_6.blk (a1_5.blk (a1_4.blk (a1_3.blk (a1_2.blk (blk_new (w.alloc (.cells #[.int .i64 t.w, .int .i64 t.h, .slice a n c] 25)) (.cells #[.int .i64 r.w, .int .i64 r.h, .slice b l d] 25)))))))
 have a2_3 := Ext.alloc (((w.alloc (.cells #[.int .i64 t.w, .int .i64 t.h, .slice a n c] 25)).alloc (.cells #[.int .i64 r.w, .int .i64 r.h, .slice b l d] 25)).alloc (.cells #[.int .i64 p.w, .int .i64 p.h, .slice b2 l2 d2] 25)) (.cells #[.int .i64 x] 3)
 have a2_4 := Ext.alloc ((((w.alloc (.cells #[.int .i64 t.w, .int .i64 t.h, .slice a n c] 25)).alloc (.cells #[.int .i64 r.w, .int .i64 r.h, .slice b l d] 25)).alloc (.cells #[.int .i64 p.w, .int .i64 p.h, .slice b2 l2 d2] 25)).alloc (.cells #[.int .i64 x] 3)) (.cells #[.int .i64 y] 3)
 have a2_5 := Ext.alloc (((((w.alloc (.cells #[.int .i64 t.w, .int .i64 t.h, .slice a n c] 25)).alloc (.cells #[.int .i64 r.w, .int .i64 r.h, .slice b l d] 25)).alloc (.cells #[.int .i64 p.w, .int .i64 p.h, .slice b2 l2 d2] 25)).alloc (.cells #[.int .i64 x] 3)).alloc (.cells #[.int .i64 y] 3)) (.cells #[.int .i64 q] 3)
 have a2_6 := Ext.alloc ((((((w.alloc (.cells #[.int .i64 t.w, .int .i64 t.h, .slice a n c] 25)).alloc (.cells #[.int .i64 r.w, .int .i64 r.h, .slice b l d] 25)).alloc (.cells #[.int .i64 p.w, .int .i64 p.h, .slice b2 l2 d2] 25)).alloc (.cells #[.int .i64 x] 3)).alloc (.cells #[.int .i64 y] 3)).alloc (.cells #[.int .i64 q] 3)) (.cells #[.int .i64 top] 3)
 have a2_7 := Ext.alloc (((((((w.alloc (.cells #[.int .i64 t.w, .int .i64 t.h, .slice a n c] 25)).alloc (.cells #[.int .i64 r.w, .int .i64 r.h, .slice b l d] 25)).alloc (.cells #[.int .i64 p.w, .int .i64 p.h, .slice b2 l2 d2] 25)).alloc (.cells #[.int .i64 x] 3)).alloc (.cells #[.int .i64 y] 3)).alloc (.cells #[.int .i64 q] 3)).alloc (.cells #[.int .i64 top] 3)) (.cells (ic (zl 71)) 32)
 have X2_0 := a2_7.blk (a2_6.blk (a2_5.blk (a2_4.blk (a2_3.blk (blk_new ((w.alloc (.cells #[.int .i64 t.w, .int .i64 t.h, .slice a n c] 25)).alloc (.cells #[.int .i64 r.w, .int .i64 r.h, .slice b l d] 25)) (.cells #[.int .i64 p.w, .int .i64 p.h, .slice b2 l2 d2] 25))))))
 have a3_4 := Ext.alloc ((((w.alloc (.cells #[.int .i64 t.w, .int .i64 t.h, .slice a n c] 25)).alloc (.cells #[.int .i64 r.w, .int .i64 r.h, .slice b l d] 25)).alloc (.cells #[.int .i64 p.w, .int .i64 p.h, .slice b2 l2 d2] 25)).alloc (.cells #[.int .i64 x] 3)) (.cells #[.int .i64 y] 3)
 have a3_5 := Ext.alloc (((((w.alloc (.cells #[.int .i64 t.w, .int .i64 t.h, .slice a n c] 25)).alloc (.cells #[.int .i64 r.w, .int .i64 r.h, .slice b l d] 25)).alloc (.cells #[.int .i64 p.w, .int .i64 p.h, .slice b2 l2 d2] 25)).alloc (.cells #[.int .i64 x] 3)).alloc (.cells #[.int .i64 y] 3)) (.cells #[.int .i64 q] 3)
 have a3_6 := Ext.alloc ((((((w.alloc (.cells #[.int .i64 t.w, .int .i64 t.h, .slice a n c] 25)).alloc (.cells #[.int .i64 r.w, .int .i64 r.h, .slice b l d] 25)).alloc (.cells #[.int .i64 p.w, .int .i64 p.h, .slice b2 l2 d2] 25)).alloc (.cells #[.int .i64 x] 3)).alloc (.cells #[.int .i64 y] 3)).alloc (.cells #[.int .i64 q] 3)) (.cells #[.int .i64 top] 3)
 have a3_7 := Ext.alloc (((((((w.alloc (.cells #[.int .i64 t.w, .int .i64 t.h, .slice a n c] 25)).alloc (.cells #[.int .i64 r.w, .int .i64 r.h, .slice b l d] 25)).alloc (.cells #[.int .i64 p.w, .int .i64 p.h, .slice b2 l2 d2] 25)).alloc (.cells #[.int .i64 x] 3)).alloc (.cells #[.int .i64 y] 3)).alloc (.cells #[.int .i64 q] 3)).alloc (.cells #[.int .i64 top] 3)) (.cells (ic (zl 71)) 32)
 have X3_0 := a3_7.blk (a3_6.blk (a3_5.blk (a3_4.blk (blk_new (((w.alloc (.cells #[.int .i64 t.w, .int .i64 t.h, .slice a n c] 25)).alloc (.cells #[.int .i64 r.w, .int .i64 r.h, .slice b l d] 25)).alloc (.cells #[.int .i64 p.w, .int .i64 p.h, .slice b2 l2 d2] 25)) (.cells #[.int .i64 x] 3)))))
 have a4_5 := Ext.alloc (((((w.alloc (.cells #[.int .i64 t.w, .int .i64 t.h, .slice a n c] 25)).alloc (.cells #[.int .i64 r.w, .int .i64 r.h, .slice b l d] 25)).alloc (.cells #[.int .i64 p.w, .int .i64 p.h, .slice b2 l2 d2] 25)).alloc (.cells #[.int .i64 x] 3)).alloc (.cells #[.int .i64 y] 3)) (.cells #[.int .i64 q] 3)
 have a4_6 := Ext.alloc ((((((w.alloc (.cells #[.int .i64 t.w, .int .i64 t.h, .slice a n c] 25)).alloc (.cells #[.int .i64 r.w, .int .i64 r.h, .slice b l d] 25)).alloc (.cells #[.int .i64 p.w, .int .i64 p.h, .slice b2 l2 d2] 25)).alloc (.cells #[.int .i64 x] 3)).alloc (.cells #[.int .i64 y] 3)).alloc (.cells #[.int .i64 q] 3)) (.cells #[.int .i64 top] 3)
 have a4_7 := Ext.alloc (((((((w.alloc (.cells #[.int .i64 t.w, .int .i64 t.h, .slice a n c] 25)).alloc (.cells #[.int .i64 r.w, .int .i64 r.h, .slice b l d] 25)).alloc (.cells #[.int .i64 p.w, .int .i64 p.h, .slice b2 l2 d2] 25)).alloc (.cells #[.int .i64 x] 3)).alloc (.cells #[.int .i64 y] 3)).alloc (.cells #[.int .i64 q] 3)).alloc (.cells #[.int .i64 top] 3)) (.cells (ic (zl 71)) 32)
 have X4_0 := a4_7.blk (a4_6.blk (a4_5.blk (blk_new ((((w.alloc (.cells #[.int .i64 t.w, .int .i64 t.h, .slice a n c] 25)).alloc (.cells #[.int .i64 r.w, .int .i64 r.h, .slice b l d] 25)).alloc (.cells #[.int .i64 p.w, .int .i64 p.h, .slice b2 l2 d2] 25)).alloc (.cells #[.int .i64 x] 3)) (.cells #[.int .i64 y] 3))))
 have a5_6 := Ext.alloc ((((((w.alloc (.cells #[.int .i64 t.w, .int .i64 t.h, .slice a n c] 25)).alloc (.cells #[.int .i64 r.w, .int .i64 r.h, .slice b l d] 25)).alloc (.cells #[.int .i64 p.w, .int .i64 p.h, .slice b2 l2 d2] 25)).alloc (.cells #[.int .i64 x] 3)).alloc (.cells #[.int .i64 y] 3)).alloc (.cells #[.int .i64 q] 3)) (.cells #[.int .i64 top] 3)
 have a5_7 := Ext.alloc (((((((w.alloc (.cells #[.int .i64 t.w, .int .i64 t.h, .slice a n c] 25)).alloc (.cells #[.int .i64 r.w, .int .i64 r.h, .slice b l d] 25)).alloc (.cells #[.int .i64 p.w, .int .i64 p.h, .slice b2 l2 d2] 25)).alloc (.cells #[.int .i64 x] 3)).alloc (.cells #[.int .i64 y] 3)).alloc (.cells #[.int .i64 q] 3)).alloc (.cells #[.int .i64 top] 3)) (.cells (ic (zl 71)) 32)
 have X5_0 := a5_7.blk (a5_6.blk (blk_new (((((w.alloc (.cells #[.int .i64 t.w, .int .i64 t.h, .slice a n c] 25)).alloc (.cells #[.int .i64 r.w, .int .i64 r.h, .slice b l d] 25)).alloc (.cells #[.int .i64 p.w, .int .i64 p.h, .slice b2 l2 d2] 25)).alloc (.cells #[.int .i64 x] 3)).alloc (.cells #[.int .i64 y] 3)) (.cells #[.int .i64 q] 3)))
 have a6_7 := Ext.alloc (((((((w.alloc (.cells #[.int .i64 t.w, .int .i64 t.h, .slice a n c] 25)).alloc (.cells #[.int .i64 r.w, .int .i64 r.h, .slice b l d] 25)).alloc (.cells #[.int .i64 p.w, .int .i64 p.h, .slice b2 l2 d2] 25)).alloc (.cells #[.int .i64 x] 3)).alloc (.cells #[.int .i64 y] 3)).alloc (.cells #[.int .i64 q] 3)).alloc (.cells #[.int .i64 top] 3)) (.cells (ic (zl 71)) 32)
 have X6_0 := a6_7.blk (blk_new ((((((w.alloc (.cells #[.int .i64 t.w, .int .i64 t.h, .slice a n c] 25)).alloc (.cells #[.int .i64 r.w, .int .i64 r.h, .slice b l d] 25)).alloc (.cells #[.int .i64 p.w, .int .i64 p.h, .slice b2 l2 d2] 25)).alloc (.cells #[.int .i64 x] 3)).alloc (.cells #[.int .i64 y] 3)).alloc (.cells #[.int .i64 q] 3)) (.cells #[.int .i64 top] 3))
 have X7_0 := IB.new (((((((w.alloc (.cells #[.int .i64 t.w, .int .i64 t.h, .slice a n c] 25)).alloc (.cells #[.int .i64 r.w, .int .i64 r.h, .slice b l d] 25)).alloc (.cells #[.int .i64 p.w, .int .i64 p.h, .slice b2 l2 d2] 25)).alloc (.cells #[.int .i64 x] 3)).alloc (.cells #[.int .i64 y] 3)).alloc (.cells #[.int .i64 q] 3)).alloc (.cells #[.int .i64 top] 3)) 32 (zl 71)
 have E_0 := (((((((Ext.alloc w (.cells #[.int .i64 t.w, .int .i64 t.h, .slice a n c] 25)).trans (Ext.alloc (w.alloc (.cells #[.int .i64 t.w, .int .i64 t.h, .slice a n c] 25)) (.cells #[.int .i64 r.w, .int .i64 r.h, .slice b l d] 25))).trans (Ext.alloc ((w.alloc (.cells #[.int .i64 t.w, .int .i64 t.h, .slice a n c] 25)).alloc (.cells #[.int .i64 r.w, .int .i64 r.h, .slice b l d] 25)) (.cells #[.int .i64 p.w, .int .i64 p.h, .slice b2 l2 d2] 25))).trans (Ext.alloc (((w.alloc (.cells #[.int .i64 t.w, .int .i64 t.h, .slice a n c] 25)).alloc (.cells #[.int .i64 r.w, .int .i64 r.h, .slice b l d] 25)).alloc (.cells #[.int .i64 p.w, .int .i64 p.h, .slice b2 l2 d2] 25)) (.cells #[.int .i64 x] 3))).trans (Ext.alloc ((((w.alloc (.cells #[.int .i64 t.w, .int .i64 t.h, .slice a n c] 25)).alloc (.cells #[.int .i64 r.w, .int .i64 r.h, .slice b l d] 25)).alloc (.cells #[.int .i64 p.w, .int .i64 p.h, .slice b2 l2 d2] 25)).alloc (.cells #[.int .i64 x] 3)) (.cells #[.int .i64 y] 3))).trans (Ext.alloc (((((w.alloc (.cells #[.int .i64 t.w, .int .i64 t.h, .slice a n c] 25)).alloc (.cells #[.int .i64 r.w, .int .i64 r.h, .slice b l d] 25)).alloc (.cells #[.int .i64 p.w, .int .i64 p.h, .slice b2 l2 d2] 25)).alloc (.cells #[.int .i64 x] 3)).alloc (.cells #[.int .i64 y] 3)) (.cells #[.int .i64 q] 3))).trans (Ext.alloc ((((((w.alloc (.cells #[.int .i64 t.w, .int .i64 t.h, .slice a n c] 25)).alloc (.cells #[.int .i64 r.w, .int .i64 r.h, .slice b l d] 25)).alloc (.cells #[.int .i64 p.w, .int .i64 p.h, .slice b2 l2 d2] 25)).alloc (.cells #[.int .i64 x] 3)).alloc (.cells #[.int .i64 y] 3)).alloc (.cells #[.int .i64 q] 3)) (.cells #[.int .i64 top] 3))).trans (Ext.alloc (((((((w.alloc (.cells #[.int .i64 t.w, .int .i64 t.h, .slice a n c] 25)).alloc (.cells #[.int .i64 r.w, .int .i64 r.h, .slice b l d] 25)).alloc (.cells #[.int .i64 p.w, .int .i64 p.h, .slice b2 l2 d2] 25)).alloc (.cells #[.int .i64 x] 3)).alloc (.cells #[.int .i64 y] 3)).alloc (.cells #[.int .i64 q] 3)).alloc (.cells #[.int .i64 top] 3)) (.cells (ic (zl 71)) 32))
 simp only [World.size_alloc] at X1_0 X2_0 X3_0 X4_0 X5_0 X6_0 X7_0
 clear a0_1 a0_2 a0_3 a0_4 a0_5 a0_6 a0_7 a1_2 a1_3 a1_4 a1_5 a1_6 a1_7 a2_3 a2_4 a2_5 a2_6 a2_7 a3_4 a3_5 a3_6 a3_7 a4_5 a4_6 a4_7 a5_6 a5_7 a6_7
 obtain ⟨-, k0_0, k0_1, k0_2, -⟩ := bx3 X0_0
 obtain ⟨-, k1_0, k1_1, k1_2, -⟩ := bx3 X1_0
 obtain ⟨-, k2_0, k2_1, k2_2, -⟩ := bx3 X2_0
 obtain ⟨-, k3_0, -⟩ := bx1 X3_0
 obtain ⟨-, k4_0, -⟩ := bx1 X4_0
 obtain ⟨-, k5_0, -⟩ := bx1 X5_0
 obtain ⟨-, k6_0, -⟩ := bx1 X6_0
 go_enter Tryz.func18, Tryz.ntmps18
 obtain ⟨D0, hD0⟩ : ∃ D, D = decide (alikeP t r) := ⟨_, rfl⟩
 have HD0 := Lib.hid hD0.symm
 clear hD0
 go_wp2_with (refine wpList_iallocz 32 rfl rfl 71 zeroq_M ?_; (try simp only [World.size_alloc]))
 refine (alike_at t r a b c d n l _ HN.out HL.out nc lc (s.ext E_0) (u.ext E_0)).mono ?_
 rw [show decide (alikeP t r) = D0 from HD0.out]
 rintro e w_1 ⟨rfl, e_1⟩
 have X0_1 := e_1.blk X0_0
 have X1_1 := e_1.blk X1_0
 have X2_1 := e_1.blk X2_0
 have X3_1 := e_1.blk X3_0
 have X4_1 := e_1.blk X4_0
 have X5_1 := e_1.blk X5_0
 have X6_1 := e_1.blk X6_0
 have X7_1 := X7_0.ext e_1
 have E_1 := E_0.trans e_1
 clear k0_0 k0_1 k0_2 X0_0 k1_0 k1_1 k1_2 X1_0 k2_0 k2_1 k2_2 X2_0 k3_0 X3_0 k4_0 X4_0 k5_0 X5_0 k6_0 X6_0 X7_0 E_0 e_1
 obtain ⟨-, k0_0, k0_1, k0_2, -⟩ := bx3 X0_1
 obtain ⟨-, k1_0, k1_1, k1_2, -⟩ := bx3 X1_1
 obtain ⟨-, k2_0, k2_1, k2_2, -⟩ := bx3 X2_1
 obtain ⟨-, k3_0, -⟩ := bx1 X3_1
 obtain ⟨-, k4_0, -⟩ := bx1 X4_1
 obtain ⟨-, k5_0, -⟩ := bx1 X5_1
 obtain ⟨-, k6_0, -⟩ := bx1 X6_1
 by_cases h0 : alikeP t r
 rotate_left
 ·have H0 := Lib.hid h0
  obtain rfl : D0 = false := by rw [← HD0.out]; exact decide_eq_false h0
  clear h0
  have hbz := X7_1.lt
  go_wp2_with (refine wpList_istore 32 _ _ rfl rfl X7_1 0 71 rfl _ rfl (zl 71) zeroc_M size_Macro (zl_len 71) (by simp [zl]) ?_; intro wf pf gf; refine Hid.out ?_)
  rw [spl_all (by rw [zl_len])] at pf
  have Ef : Ext w wf := Ext.grown E_1 gf (fun q hq => by cases hq; omega)
  refine Lib.hid ?_
  go_wp2
  exact bodyPost_ret (v := .agg (ic (zl 71))) (results_cell_row rfl _ _ (w.heap.size + 1 + 1 + 1 + 1 + 1 + 1 + 1) 32 (ic (zl 71)) (0, 0) _ rfl pf Tryz.underlying32 rfl (by rw [ic_size, zl_len]; exact size_Macro)) rfl ⟨by rw [chP_no (fun hh => H0.out hh.1), mac0_zz], Ef⟩
 obtain rfl : D0 = true := by rw [← HD0.out]; exact decide_eq_true h0
 have H0 := Lib.hid h0
 clear h0
 obtain ⟨D1, hD1⟩ : ∃ D, D = decide (alikeP t p) := ⟨_, rfl⟩
 have HD1 := Lib.hid hD1.symm
 clear hD1
 go_wp2_with fail
 refine (alike_at t p a b2 c d2 n l2 _ HN.out HL2.out nc l2c (s.ext E_1) (v.ext E_1)).mono ?_
 rw [show decide (alikeP t p) = D1 from HD1.out]
 rintro e w_2 ⟨rfl, e_2⟩
 have X0_2 := e_2.blk X0_1
 have X1_2 := e_2.blk X1_1
 have X2_2 := e_2.blk X2_1
 have X3_2 := e_2.blk X3_1
 have X4_2 := e_2.blk X4_1
 have X5_2 := e_2.blk X5_1
 have X6_2 := e_2.blk X6_1
 have X7_2 := X7_1.ext e_2
 have E_2 := E_1.trans e_2
 clear k0_0 k0_1 k0_2 X0_1 k1_0 k1_1 k1_2 X1_1 k2_0 k2_1 k2_2 X2_1 k3_0 X3_1 k4_0 X4_1 k5_0 X5_1 k6_0 X6_1 X7_1 E_1 e_2
 obtain ⟨-, k0_0, k0_1, k0_2, -⟩ := bx3 X0_2
 obtain ⟨-, k1_0, k1_1, k1_2, -⟩ := bx3 X1_2
 obtain ⟨-, k2_0, k2_1, k2_2, -⟩ := bx3 X2_2
 obtain ⟨-, k3_0, -⟩ := bx1 X3_2
 obtain ⟨-, k4_0, -⟩ := bx1 X4_2
 obtain ⟨-, k5_0, -⟩ := bx1 X5_2
 obtain ⟨-, k6_0, -⟩ := bx1 X6_2
 by_cases h1 : alikeP t p
 rotate_left
 ·have H1 := Lib.hid h1
  obtain rfl : D1 = false := by rw [← HD1.out]; exact decide_eq_false h1
  clear h1
  have hbz := X7_2.lt
  go_wp2_with (refine wpList_istore 32 _ _ rfl rfl X7_2 0 71 rfl _ rfl (zl 71) zeroc_M size_Macro (zl_len 71) (by simp [zl]) ?_; intro wf pf gf; refine Hid.out ?_)
  rw [spl_all (by rw [zl_len])] at pf
  have Ef : Ext w wf := Ext.grown E_2 gf (fun q hq => by cases hq; omega)
  refine Lib.hid ?_
  go_wp2
  exact bodyPost_ret (v := .agg (ic (zl 71))) (results_cell_row rfl _ _ (w.heap.size + 1 + 1 + 1 + 1 + 1 + 1 + 1) 32 (ic (zl 71)) (0, 0) _ rfl pf Tryz.underlying32 rfl (by rw [ic_size, zl_len]; exact size_Macro)) rfl ⟨by rw [chP_no (fun hh => H1.out hh.2.1), mac0_zz], Ef⟩
 obtain rfl : D1 = true := by rw [← HD1.out]; exact decide_eq_true h1
 have H1 := Lib.hid h1
 clear h1
 obtain ⟨D2, hD2⟩ : ∃ D, D = decide ((0 ≤ x) ∧ (x < t.w) ∧ (x % 8 = 0) ∧ (0 ≤ y) ∧ (y < t.h) ∧ (y % 8 = 0)) := ⟨_, rfl⟩
 have HD2 := Lib.hid hD2.symm
 clear hD2
 go_wp2_with fail
 refine (begins_any t x y a c n _).mono ?_
 rw [show decide ((0 ≤ x) ∧ (x < t.w) ∧ (x % 8 = 0) ∧ (0 ≤ y) ∧ (y < t.h) ∧ (y % 8 = 0)) = D2 from HD2.out]
 rintro e w_3 ⟨rfl, e_3⟩
 have X0_3 := e_3.blk X0_2
 have X1_3 := e_3.blk X1_2
 have X2_3 := e_3.blk X2_2
 have X3_3 := e_3.blk X3_2
 have X4_3 := e_3.blk X4_2
 have X5_3 := e_3.blk X5_2
 have X6_3 := e_3.blk X6_2
 have X7_3 := X7_2.ext e_3
 have E_3 := E_2.trans e_3
 clear k0_0 k0_1 k0_2 X0_2 k1_0 k1_1 k1_2 X1_2 k2_0 k2_1 k2_2 X2_2 k3_0 X3_2 k4_0 X4_2 k5_0 X5_2 k6_0 X6_2 X7_2 E_2 e_3
 obtain ⟨-, k0_0, k0_1, k0_2, -⟩ := bx3 X0_3
 obtain ⟨-, k1_0, k1_1, k1_2, -⟩ := bx3 X1_3
 obtain ⟨-, k2_0, k2_1, k2_2, -⟩ := bx3 X2_3
 obtain ⟨-, k3_0, -⟩ := bx1 X3_3
 obtain ⟨-, k4_0, -⟩ := bx1 X4_3
 obtain ⟨-, k5_0, -⟩ := bx1 X5_3
 obtain ⟨-, k6_0, -⟩ := bx1 X6_3
 by_cases h2 : (0 ≤ x) ∧ (x < t.w) ∧ (x % 8 = 0) ∧ (0 ≤ y) ∧ (y < t.h) ∧ (y % 8 = 0)
 rotate_left
 ·have H2 := Lib.hid h2
  obtain rfl : D2 = false := by rw [← HD2.out]; exact decide_eq_false h2
  clear h2
  have hbz := X7_3.lt
  go_wp2_with (refine wpList_istore 32 _ _ rfl rfl X7_3 0 71 rfl _ rfl (zl 71) zeroc_M size_Macro (zl_len 71) (by simp [zl]) ?_; intro wf pf gf; refine Hid.out ?_)
  rw [spl_all (by rw [zl_len])] at pf
  have Ef : Ext w wf := Ext.grown E_3 gf (fun q hq => by cases hq; omega)
  refine Lib.hid ?_
  go_wp2
  exact bodyPost_ret (v := .agg (ic (zl 71))) (results_cell_row rfl _ _ (w.heap.size + 1 + 1 + 1 + 1 + 1 + 1 + 1) 32 (ic (zl 71)) (0, 0) _ rfl pf Tryz.underlying32 rfl (by rw [ic_size, zl_len]; exact size_Macro)) rfl ⟨by rw [chP_no (fun hh => H2.out hh.2.2.1.2), mac0_zz], Ef⟩
 obtain rfl : D2 = true := by rw [← HD2.out]; exact decide_eq_true h2
 have H2 := Lib.hid h2
 clear h2
 by_cases h3 : 0 ≤ q ∧ q ≤ 15
 rotate_left
 ·have H3 : Hid (¬ (0 ≤ q ∧ q ≤ 15)) := Lib.hid h3
  go_wp2_with fail
  refine (qV_out q _ H3.out).mono ?_
  rintro e w_s ⟨rfl, rfl⟩
  have hbz := X7_3.lt
  go_wp2_with (refine wpList_istore 32 _ _ rfl rfl X7_3 0 71 rfl _ rfl (zl 71) zeroc_M size_Macro (zl_len 71) (by simp [zl]) ?_; intro wf pf gf; refine Hid.out ?_)
  rw [spl_all (by rw [zl_len])] at pf
  have Ef : Ext w wf := Ext.grown E_3 gf (fun q hq => by cases hq; omega)
  refine Lib.hid ?_
  go_wp2
  exact bodyPost_ret (v := .agg (ic (zl 71))) (results_cell_row rfl _ _ (w.heap.size + 1 + 1 + 1 + 1 + 1 + 1 + 1) 32 (ic (zl 71)) (0, 0) _ rfl pf Tryz.underlying32 rfl (by rw [ic_size, zl_len]; exact size_Macro)) rfl ⟨by rw [chP_no (fun hh => by have h9 := H3.out; have h8 := hh.2.2.2.1; first | exact h9 h8 | omega), mac0_zz], Ef⟩
 have H3 := Lib.hid h3
 go_wp2_with fail
 refine (qV_in q _ H3.out).mono ?_
 rintro e w_s ⟨rfl, rfl⟩
 by_cases h4 : 0 ≤ top
 rotate_left
 ·have H4 : Hid (¬ (0 ≤ top)) := Lib.hid h4
  have f4 : decide (top < 0) = true := by simpa using h4
  have hbz := X7_3.lt
  go_wp2_with (refine wpList_istore 32 _ _ rfl rfl X7_3 0 71 rfl _ rfl (zl 71) zeroc_M size_Macro (zl_len 71) (by simp [zl]) ?_; intro wf pf gf; refine Hid.out ?_)
  rw [spl_all (by rw [zl_len])] at pf
  have Ef : Ext w wf := Ext.grown E_3 gf (fun q hq => by cases hq; omega)
  refine Lib.hid ?_
  go_wp2
  exact bodyPost_ret (v := .agg (ic (zl 71))) (results_cell_row rfl _ _ (w.heap.size + 1 + 1 + 1 + 1 + 1 + 1 + 1) 32 (ic (zl 71)) (0, 0) _ rfl pf Tryz.underlying32 rfl (by rw [ic_size, zl_len]; exact size_Macro)) rfl ⟨by rw [chP_no (fun hh => by have h9 := H4.out; have h8 := hh.2.2.2.2.1; first | exact h9 h8 | omega), mac0_zz], Ef⟩
 have H4 := Lib.hid h4
 have f4 : decide (top < 0) = false := by simpa using h4
 by_cases h5 : top ≤ y
 rotate_left
 ·have H5 : Hid (¬ (top ≤ y)) := Lib.hid h5
  have f5 : decide (y < top) = true := by simpa using h5
  have hbz := X7_3.lt
  go_wp2_with (refine wpList_istore 32 _ _ rfl rfl X7_3 0 71 rfl _ rfl (zl 71) zeroc_M size_Macro (zl_len 71) (by simp [zl]) ?_; intro wf pf gf; refine Hid.out ?_)
  rw [spl_all (by rw [zl_len])] at pf
  have Ef : Ext w wf := Ext.grown E_3 gf (fun q hq => by cases hq; omega)
  refine Lib.hid ?_
  go_wp2
  exact bodyPost_ret (v := .agg (ic (zl 71))) (results_cell_row rfl _ _ (w.heap.size + 1 + 1 + 1 + 1 + 1 + 1 + 1) 32 (ic (zl 71)) (0, 0) _ rfl pf Tryz.underlying32 rfl (by rw [ic_size, zl_len]; exact size_Macro)) rfl ⟨by rw [chP_no (fun hh => by have h9 := H5.out; have h8 := hh.2.2.2.2.2; first | exact h9 h8 | omega), mac0_zz], Ef⟩
 have H5 := Lib.hid h5
 have f5 : decide (y < top) = false := by simpa using h5
 have ho : okC t r p x y q top := ⟨H0.out, H1.out, ⟨H0.out.1, H2.out⟩, H3.out, H4.out, H5.out⟩
 have hch := chP_yes ho
 have hx0 := H2.out.1
 have hy0 := H2.out.2.2.2.1
 have hq0 := H3.out.1
 obtain ⟨pw, ph, px⟩ := p
 obtain ⟨W, hW⟩ : ∃ W : Nat, pw = W := ⟨pw.toNat, by have := H1.out.2.1.1.1; simp only at this; omega⟩
 obtain ⟨H, hH⟩ : ∃ H : Nat, ph = H := ⟨ph.toNat, by have := H1.out.2.1.2.1.1; simp only at this; omega⟩
 obtain ⟨X, hX⟩ : ∃ X : Nat, x = X := ⟨x.toNat, by omega⟩
 obtain ⟨Y, hY⟩ : ∃ Y : Nat, y = Y := ⟨y.toNat, by omega⟩
 obtain ⟨Q, hQ⟩ : ∃ Q : Nat, q = Q := ⟨q.toNat, by omega⟩
 subst hW hH hX hY hQ
 clear hx0 hy0 hq0
 simp only [Int.toNat_natCast] at hch
 have HCH := Lib.hid hch
 clear hch ho
 have hbz := X7_3.lt
 have C0 : C7 w.heap.size t r W H a b b2 n c l d l2 d2 X Y Q top w_3 := ⟨X0_3, X1_3, X2_3, X3_3, X4_3, X5_3, X6_3⟩
 have e8 := Ext.alloc w_3 (.cells #[.func (.func 59) #[] #[], .func (.func 60) #[] #[.pointer (some ⟨w.heap.size, 0, none⟩), .pointer (some ⟨w.heap.size + 1, 0, none⟩), .pointer (some ⟨w.heap.size + 1 + 1 + 1, 0, none⟩), .pointer (some ⟨w.heap.size + 1 + 1 + 1 + 1, 0, none⟩), .pointer (some ⟨w.heap.size + 1 + 1 + 1 + 1 + 1, 0, none⟩)], .func (.func 61) #[] #[.pointer (some ⟨w.heap.size, 0, none⟩), .pointer (some ⟨w.heap.size + 1 + 1, 0, none⟩), .pointer (some ⟨w.heap.size + 1 + 1 + 1, 0, none⟩), .pointer (some ⟨w.heap.size + 1 + 1 + 1 + 1, 0, none⟩), .pointer (some ⟨w.heap.size + 1 + 1 + 1 + 1 + 1, 0, none⟩), .pointer (some ⟨w.heap.size + 1 + 1 + 1 + 1 + 1 + 1, 0, none⟩)]] 88)
 have g8 := blk_new w_3 (.cells #[.func (.func 59) #[] #[], .func (.func 60) #[] #[.pointer (some ⟨w.heap.size, 0, none⟩), .pointer (some ⟨w.heap.size + 1, 0, none⟩), .pointer (some ⟨w.heap.size + 1 + 1 + 1, 0, none⟩), .pointer (some ⟨w.heap.size + 1 + 1 + 1 + 1, 0, none⟩), .pointer (some ⟨w.heap.size + 1 + 1 + 1 + 1 + 1, 0, none⟩)], .func (.func 61) #[] #[.pointer (some ⟨w.heap.size, 0, none⟩), .pointer (some ⟨w.heap.size + 1 + 1, 0, none⟩), .pointer (some ⟨w.heap.size + 1 + 1 + 1, 0, none⟩), .pointer (some ⟨w.heap.size + 1 + 1 + 1 + 1, 0, none⟩), .pointer (some ⟨w.heap.size + 1 + 1 + 1 + 1 + 1, 0, none⟩), .pointer (some ⟨w.heap.size + 1 + 1 + 1 + 1 + 1 + 1, 0, none⟩)]] 88)
 have X8 := X7_3.ext e8
 have E8 := E_3.trans e8
 have C8 := C0.e e8
 obtain ⟨G, hG⟩ : ∃ G, G = w_3.heap.size := ⟨_, rfl⟩
 rw [← hG] at g8
 have HQ : Q < 16 := by have := H3.out; omega
 have HT5 := H5.out
 have HT4 := H4.out
 clear h3 h4 h5 X0_3 X1_3 X2_3 X3_3 X4_3 X5_3 X6_3 X7_3 E_3 C0
 go_upto_region 4 with fail
 clear k0_0 k0_1 k0_2 k1_0 k1_1 k1_2 k2_0 k2_1 k2_2 k3_0 k4_0 k5_0 k6_0 f4 f5
 rw [← hG]
 clear hG
 generalize w_3.alloc (.cells #[.func (.func 59) #[] #[], .func (.func 60) #[] #[.pointer (some ⟨w.heap.size, 0, none⟩), .pointer (some ⟨w.heap.size + 1, 0, none⟩), .pointer (some ⟨w.heap.size + 1 + 1 + 1, 0, none⟩), .pointer (some ⟨w.heap.size + 1 + 1 + 1 + 1, 0, none⟩), .pointer (some ⟨w.heap.size + 1 + 1 + 1 + 1 + 1, 0, none⟩)], .func (.func 61) #[] #[.pointer (some ⟨w.heap.size, 0, none⟩), .pointer (some ⟨w.heap.size + 1 + 1, 0, none⟩), .pointer (some ⟨w.heap.size + 1 + 1 + 1, 0, none⟩), .pointer (some ⟨w.heap.size + 1 + 1 + 1 + 1, 0, none⟩), .pointer (some ⟨w.heap.size + 1 + 1 + 1 + 1 + 1, 0, none⟩), .pointer (some ⟨w.heap.size + 1 + 1 + 1 + 1 + 1 + 1, 0, none⟩)]] 88) = w8 at *
 go_wp2_with fail
 refine (cheapest_in t r W H X Y Q px top a b b2 c d d2 n l l2 w.heap.size w8 G (hT.ext E8) C8 g8 H0.out H1.out ⟨H0.out.1, H2.out⟩ HQ ⟨HT4, HT5⟩ HN.out HL.out HL2.out (s.ext E8) (u.ext E8) (v.ext E8)).mono ?_
 rintro e w9 ⟨rfl, e9⟩
 have X9 := X8.ext e9
 have E9 := E8.trans e9
 clear X8 E8 C8 e8 e9 g8
 obtain ⟨Z, hZ⟩ : ∃ Z, Z = (chM t r ⟨W, H, px⟩ X Y Q top).zs := ⟨_, rfl⟩
 have Hrl := Lib.hid (show Z.length = 71 by rw [hZ]; exact Mac.zs_len (chM_ok _ _ _ _ _ _ _))
 rw [← hZ]
 have HZ := Lib.hid hZ
 clear hZ
 go_wp2_with (refine wpList_istore 32 _ _ rfl rfl X9 0 71 rfl _ rfl Z rfl size_Macro Hrl.out (by rw [zl_len]; omega) ?_; intro wf pf gf; refine Hid.out ?_)
 rw [spl_all (by rw [Hrl.out, zl_len])] at pf
 have Ef : Ext w wf := Ext.grown E9 gf (fun q hq => by cases hq; omega)
 refine Lib.hid ?_
 go_wp2
 exact bodyPost_ret (v := .agg (ic Z)) (results_cell_row rfl _ _ (w.heap.size + 1 + 1 + 1 + 1 + 1 + 1 + 1) 32 (ic Z) (0, 0) _ rfl pf Tryz.underlying32 rfl (by rw [ic_size, Hrl.out]; exact size_Macro)) rfl ⟨by rw [HCH.out, HZ.out], Ef⟩
end Go.Proofs.YtbnhaegidfbgbaaGreatDoor
namespace Go.Proofs.YtbnhaegidfbgbaaGreatDoor
open Go.RowKit
set_option maxHeartbeats 1000000
/-- Of what was there only blocks lo..hi-1 have changed. -/
def Tc (lo hi : Nat) (w w' : World) : Prop := ∃ row, w.grownBy w' row ∧ ∀ k, row = some k → lo ≤ k ∧ k < hi
section
variable {w w' W : World} {lo hi : Nat}
theorem Tc.ext (h : Tc lo hi w w') (e : Ext W w) (hl : W.heap.size ≤ lo) : Ext W w' := by
 obtain ⟨row, g, hr⟩ := h
 exact Ext.grown e g (fun k hk => by have := (hr k hk).1; omega)
theorem Tc.size (h : Tc lo hi w w') : w.heap.size ≤ w'.heap.size := by obtain ⟨row, g, -⟩ := h; exact g.size
theorem Tc.blk (h : Tc lo hi w w') {b : Nat} {o : Obj} (hb : w.heap[b]? = some o) (hn : b < lo ∨ hi ≤ b) : w'.heap[b]? = some o := by
 obtain ⟨row, g, hr⟩ := h
 exact blk_gr hb g (fun e => by have := hr b e; omega)
theorem Tc.own (h : Tc lo hi w w') {base e s n : Nat} {v : Value} {xs : List Value} (ho : w.ownsRow base e s v n xs) (hn : ∀ k, v.ownBlock = some k → k < lo ∨ hi ≤ k) : w'.ownsRow base e s v n xs := by
 obtain ⟨row, g, hr⟩ := h
 refine ho.kept g ?_
 cases hv : v.ownBlock with
 | none => exact .inl rfl
 | some k => right; intro e2; have := hr k e2.symm; have := hn k hv; omega
theorem Tc.sl (h : Tc lo hi w w') {a : Option Addr} {n : Nat} {xs : List Value} (hs : Sl w a n xs) (hn : ∀ y, a = some y → y.block < lo ∨ hi ≤ y.block) : Sl w' a n xs := by
 obtain ⟨row, g, hr⟩ := h
 exact hs.grown g (fun y hy e => by have := hr y.block e.symm; have := hn y hy; omega)
theorem Tc.ib (h : Tc lo hi w w') {b T : Nat} {zs : List Int} (hb : IB w b T zs) (hn : b < lo ∨ hi ≤ b) : IB w' b T zs := h.blk hb hn
theorem Tc.of {row : Option Nat} (g : w.grownBy w' row) (hr : ∀ k, row = some k → lo ≤ k ∧ k < hi) : Tc lo hi w w' := ⟨row, g, hr⟩
end
/-- A picture's box. -/
def PX (w : World) (b : Nat) (x y : Int) (a : Option Addr) (n c : Nat) : Prop := w.heap[b]? = some (.cells #[.int .i64 x, .int .i64 y, .slice a n c] 25 (0, 0))
theorem PX.ext {w w' : World} {b : Nat} {x y : Int} {a : Option Addr} {n c : Nat} (h : PX w b x y a n c) (e : Ext w w') : PX w' b x y a n c := e.blk h
theorem PX.cells {w : World} {b : Nat} {x y : Int} {a : Option Addr} {n c : Nat} (h : PX w b x y a n c) : w.cell? ⟨b, 0, none⟩ = some (.int .i64 x) ∧ w.cell? ⟨b, 1, none⟩ = some (.int .i64 y) ∧ w.cell? ⟨b, 2, none⟩ = some (.slice a n c) := by
 obtain ⟨-, h0, h1, h2, -⟩ := bx3 h
 exact ⟨h0, h1, h2⟩
/-- A box of three cells of type Picture. -/
def PZ (w : World) (b : Nat) : Prop := ∃ x y z : Value, w.heap[b]? = some (.cells #[x, y, z] 25 (0, 0))
theorem PZ.ext {w w' : World} {b : Nat} (h : PZ w b) (e : Ext w w') : PZ w' b := by
 obtain ⟨x, y, z, h⟩ := h; exact ⟨x, y, z, e.blk h⟩
theorem PX.z {w : World} {b : Nat} {x y : Int} {a : Option Addr} {n c : Nat} (h : PX w b x y a n c) : PZ w b := ⟨_, _, _, h⟩
/-- The three stores into a box. -/
def st3 (w : World) (b : Nat) (x y z : Value) : World := ((w.setCell ⟨b, 0, none⟩ x).setCell ⟨b, 1, none⟩ y).setCell ⟨b, 2, none⟩ z
end Go.Proofs.YtbnhaegidfbgbaaGreatDoor
namespace Go.Proofs.YtbnhaegidfbgbaaGreatDoor
open Go.RowKit
set_option maxHeartbeats 400000
end Go.Proofs.YtbnhaegidfbgbaaGreatDoor
