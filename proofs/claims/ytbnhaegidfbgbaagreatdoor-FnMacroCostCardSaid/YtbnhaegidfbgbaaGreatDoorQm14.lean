/- The reference's rebuild of a macroblock of a picture. | Reconstruct, both sides. | The program's scan order. | The length of a number in bits; rows of decisions and what stays beside them; the decisions for a number. | The decisions for a number. | The decisions for a number: the reference. -/
import Derived.Test.YtbnhaegidfbgbaaGreatDoorQm13
import Derived.Lib.BitFns
import Derived.Lib.Strings
import Derived.Lib.Slices
import Derived.Lib.Small
import Derived.Lib.Walk
import Derived.Deep.Cut
import Derived.RangeFuncOwn
set_option linter.unusedVariables false
set_option linter.unusedSimpArgs false
namespace Go.Proofs.YtbnhaegidfbgbaaGreatDoor
open Go.RowKit
set_option maxHeartbeats 1000000
structure RS (w : World) (base g n c : Nat) (ra : Option Addr) (rn rc W H : Nat) (ref : Pic) (m : Mac) (B : Nat) (Z : List Int) (wx : World) : Prop where
 gr : w.grownBy wx (some g)
 own : wx.ownsRow base 3 1 (.slice (some ⟨g, 0, none⟩) n c) n (Z.map (Value.int .i64))
 b0 : wx.heap[B + 1]? = some (.cells #[.int .i64 W, .int .i64 H, .slice (some ⟨g, 0, none⟩) n c] 25 (0, 0))
 b1 : wx.heap[B]? = some (.cells #[.int .i64 ref.w, .int .i64 ref.h, .slice ra rn rc] 25 (0, 0))
 b2 : IB wx (B + 1 + 1) 32 m.zs
 gB : g < B
section
variable {w wx wy : World} {base g n c rn rc W H B : Nat} {ra : Option Addr} {ref : Pic} {m : Mac} {Z Z' : List Int}
theorem RS.ex (h : RS w base g n c ra rn rc W H ref m B Z wx) (e : Ext wx wy) : RS w base g n c ra rn rc W H ref m B Z wy :=
 ⟨grown_ext h.gr e, owns_ext h.own e, e.blk h.b0, e.blk h.b1, h.b2.ext e, h.gB⟩
theorem RS.drew (h : RS w base g n c ra rn rc W H ref m B Z wx) : RS w base g n c ra rn rc W H ref m B Z wx.drew := h.ex (Ext.drewN _ 1)
theorem RS.put (h : RS w base g n c ra rn rc W H ref m B Z wx) (gr : wx.grownBy wy (some g)) (own : wy.ownsRow base 3 1 (.slice (some ⟨g, 0, none⟩) n c) n (Z'.map (Value.int .i64))) : RS w base g n c ra rn rc W H ref m B Z' wy := by
 have := h.gB
 exact ⟨grownBy_trans h.gr gr, own, blk_gr h.b0 gr (by simp; omega), blk_gr h.b1 gr (by simp; omega), h.b2.gr gr (by simp; omega), h.gB⟩
theorem RS.loc {b' : Nat} (h : RS w base g n c ra rn rc W H ref m B Z wx) (gr : wx.grownBy wy (some b')) (hb : B + 1 + 1 < b') (hw : w.heap.size ≤ B) : RS w base g n c ra rn rc W H ref m B Z wy := by
 have := h.gB
 refine ⟨⟨gr.os.trans h.gr.os, gr.tape.trans h.gr.tape, gr.output.trans h.gr.output, Nat.le_trans h.gr.size gr.size, fun k hk hne => (gr.block k (Nat.lt_of_lt_of_le hk h.gr.size) (by simp; omega)).trans (h.gr.block k hk hne)⟩, h.own.kept gr (.inr (by simp [Value.ownBlock]; omega)), blk_gr h.b0 gr (by simp; omega), blk_gr h.b1 gr (by simp; omega), h.b2.gr gr (by simp; omega), h.gB⟩
end
set_option maxRecDepth 100000 in
set_option maxHeartbeats 4000000 in
theorem l8Build_I (ref : Pic) (W H x y : Nat) (px : List Int) (m : Mac) (q : Nat) (top : Int) (ra : Option Addr) (rn rc base g n c : Nat) (w : World) (own : w.ownsRow base 3 1 (.slice (some ⟨g, 0, none⟩) n c) n (px.map (Value.int .i64)))
 (hp : placeP ⟨W, H, px⟩ x y) (hm : m.ok) (hv : m.valid) (hq : q < 16) (ht0 : 0 ≤ top) (hk : m.kind = 2) :
 Calls Tryz.prog 96 #[.agg #[.int .i64 ref.w, .int .i64 ref.h, .slice ra rn rc], .agg #[.int .i64 W, .int .i64 H, .slice (some ⟨g, 0, none⟩) n c], .int .i64 (x : Nat), .int .i64 (y : Nat), .agg (ic m.zs), .int .i64 q, .int .i64 top] w fun e w' => e = .returned (.tuple #[]) ∧ w'.ownsRow base 3 1 (.slice (some ⟨g, 0, none⟩) n c) n ((bldS ref ⟨W, H, px⟩ x y m q top 4).map (Value.int .i64)) ∧ w.grownBy w' (some g) := by
 obtain ⟨hpv, hx0, hx1, hx8, hy0, hy1, hy8⟩ := hp
 have hxx : x + 8 ≤ W := by have h1 := hpv.1.2.2; simp only at hx1 h1; omega
 have hyy : y + 8 ≤ H := by have h1 := hpv.2.1.2.2; simp only at hy1 h1; omega
 have hW32 : W ≤ 32 := by have := hpv.1.2.1; simp only at this; omega
 have hH32 : H ≤ 32 := by have := hpv.2.1.2.1; simp only at this; omega
 have hpl : n = px.length := by have := own.1; simpa using this.symm
 have hnW : n = W * H := by
  have h1 := hpv.2.2.1
  simp only [← Int.natCast_mul] at h1
  rw [hpl]; exact Int.ofNat.inj h1
 have hn1k : n ≤ 1024 := by rw [hnW]; exact Nat.mul_le_mul hW32 hH32
 have inn : ∀ u v : Nat, u + 4 ≤ H → v + 4 ≤ W → (u + 3) * W + v + 3 < n := fun u v h1 h2 => by
  have h3 := Nat.mul_le_mul_right W (show u + 4 ≤ H by omega)
  rw [Nat.add_mul, Nat.mul_comm H W, ← hnW] at h3
  rw [Nat.add_mul]
  omega
 have Inn := Lib.hid inn
 have HV := Lib.hid (fun k => bldS_valid hpv ref x y m q top k)
 have HL := Lib.hid (fun k => show n = (bldS ref ⟨W, H, px⟩ x y m q top k).length by rw [bldS_len, hpl])
 have Hmv := Lib.hid hv
 have Hm := Lib.hid hm
 have Hl := Lib.hid (Mac.zs_len hm)
 have HK := Lib.hid hk
 have hbg : base ≤ g := (own.lt g rfl).1
 have hgw : g < w.heap.size := (own.lt g rfl).2
 have R0 : RS w base g n c ra rn rc W H ref m w.heap.size px (((((w.alloc (.cells #[.int .i64 ref.w, .int .i64 ref.h, .slice ra rn rc] 25)).alloc (.cells #[.int .i64 W, .int .i64 H, .slice (some ⟨g, 0, none⟩) n c] 25)).alloc (.cells (ic m.zs) 32))).alloc (.cells #[] 3)) := by
  have a1 := Ext.alloc w (.cells #[.int .i64 ref.w, .int .i64 ref.h, .slice ra rn rc] 25)
  have a2 := Ext.alloc (w.alloc (.cells #[.int .i64 ref.w, .int .i64 ref.h, .slice ra rn rc] 25)) (.cells #[.int .i64 W, .int .i64 H, .slice (some ⟨g, 0, none⟩) n c] 25)
  have a3 := Ext.alloc ((w.alloc (.cells #[.int .i64 ref.w, .int .i64 ref.h, .slice ra rn rc] 25)).alloc (.cells #[.int .i64 W, .int .i64 H, .slice (some ⟨g, 0, none⟩) n c] 25)) (.cells (ic m.zs) 32)
  have a4 := Ext.alloc (((w.alloc (.cells #[.int .i64 ref.w, .int .i64 ref.h, .slice ra rn rc] 25)).alloc (.cells #[.int .i64 W, .int .i64 H, .slice (some ⟨g, 0, none⟩) n c] 25)).alloc (.cells (ic m.zs) 32)) (.cells #[] 3)
  have q1 := a4.blk (a3.blk (blk_new (w.alloc (.cells #[.int .i64 ref.w, .int .i64 ref.h, .slice ra rn rc] 25)) (.cells #[.int .i64 W, .int .i64 H, .slice (some ⟨g, 0, none⟩) n c] 25)))
  have q2 := (IB.new ((w.alloc (.cells #[.int .i64 ref.w, .int .i64 ref.h, .slice ra rn rc] 25)).alloc (.cells #[.int .i64 W, .int .i64 H, .slice (some ⟨g, 0, none⟩) n c] 25)) 32 m.zs).ext a4
  simp only [World.size_alloc] at q1 q2
  exact ⟨grown_ext (grown_refl _ _) (((a1.trans a2).trans a3).trans a4), owns_ext own (((a1.trans a2).trans a3).trans a4), q1, a4.blk (a3.blk (a2.blk (blk_new _ _))), q2, hgw⟩
 have hkd : (m.kind == 2) = true := by simpa using hk
 have hkn : (m.kind != 2) = false := by simpa using hk
 have k0' := R0.b2.cell (i := 0) (by rw [Hl.out]; omega)
 rw [Mac.zs_kind] at k0'
 have r2 := R0.b2
 clear hpv hpl hnW inn hv hm hk own hx8 hy8 hx0 hy0 hx1 hy1
 go_enter Tryz.func96, Tryz.ntmps96
 go_wp2_with fail
 try simp only [World.size_alloc]
 obtain ⟨B, hB⟩ : ∃ B, B = w.heap.size := ⟨_, rfl⟩
 rw [← hB] at R0 r2 k0' ⊢
 have hwB : w.heap.size ≤ B := by omega
 have HB := Lib.hid hB
 clear hB r2 k0' hkn
 have R1 := R0
 clear R0
 go_loopw [15] (fun i wr => ∃ k : Nat, k ≤ 4 ∧ i = .int .i64 k ∧ RS w base g n c ra rn rc W H ref m B (bldS ref ⟨W, H, px⟩ x y m q top k) wr) (fun i _ => 4 - (intOf i).toNat)
 case atStart => exact ⟨0, by omega, rfl, R1⟩
 case round =>
  obtain ⟨k, hk, rfl, R3⟩ := hrel
  clear R1
  by_cases hlt : k < 4
  ·have hd : decide ((k : Int) < 4) = true := by simp; omega
   have hZv := HV.out k
   have hZn := HL.out k
   have Hst := Lib.hid (bld_step ref W H px x y m q top k)
   obtain ⟨Z, hZ⟩ : ∃ Z, Z = bldS ref ⟨W, H, px⟩ x y m q top k := ⟨_, rfl⟩
   obtain ⟨Z1, hZ1⟩ : ∃ Z, Z = bldS ref ⟨W, H, px⟩ x y m q top (k + 1) := ⟨_, rfl⟩
   rw [← hZ] at R3 hZv hZn Hst
   rw [← hZ1] at Hst
   have HZ1 := Lib.hid hZ1
   have HZv := Lib.hid hZv
   have HZn := Lib.hid hZn
   obtain ⟨xi, hxi⟩ : ∃ v, v = x + k % 2 * 4 := ⟨_, rfl⟩
   obtain ⟨yj, hyj⟩ : ∃ v, v = y + k / 2 * 4 := ⟨_, rfl⟩
   have HPK := Lib.hid (show prK ref W H Z x y m top k = prd (nth m.modes k).toNat (edg ⟨W, H, Z⟩ ((x + k % 2 * 4 : Nat) : Int) ((y + k / 2 * 4 : Nat) : Int) top) from if_pos HK.out)
   rw [← hxi, ← hyj] at Hst HPK
   have hxi4 : xi + 4 ≤ W := by omega
   have hyj4 : yj + 4 ≤ H := by omega
   have Hxi := Lib.hid (show (x : Int) + (k : Int) % 2 * 4 = ((xi : Nat) : Int) by omega)
   have Hyj := Lib.hid (show (y : Int) + (k : Int) / 2 * 4 = ((yj : Nat) : Int) by omega)
   have hI := Inn.out yj xi hyj4 hxi4
   have hB16 := sub16 Hm.out.lv hlt
   have hBv := lv_blk Hm.out Hmv.out hlt
   obtain ⟨bk, hbk⟩ : ∃ b, b = sub m.lv (k * 16) 16 := ⟨_, rfl⟩
   have Hbk := Lib.hid hbk
   rw [← hbk] at hB16 hBv Hst
   have HB16 := Lib.hid hB16
   have HBv := Lib.hid hBv
   clear hZ hZ1 hxi hyj hbk hB16 hBv hZv hZn
   have hcK := R3.b2.cell (i := 0) (by rw [Hl.out]; omega)
   rw [Mac.zs_kind] at hcK
   have ib := IB.new wr 29 (List.replicate 16 0)
   have R6 := R3.ex (Ext.alloc wr (.cells (ic (List.replicate 16 0)) 29))
   have hO2 := lt_of_block R3.b2
   have hO3 := lt_of_block R3.b2
   obtain ⟨O2, hO2e⟩ : ∃ O, O = wr.heap.size := ⟨_, rfl⟩
   rw [← hO2e] at ib hO2
   have HO2 := Lib.hid hO2e
   have hb0 := R6.b0
   have hgB := R6.gB
   obtain ⟨E, hE⟩ : ∃ E, E = edg ⟨W, H, Z⟩ (xi : Int) (yj : Int) top := ⟨_, rfl⟩
   have hEok := edg_ok HZv.out (xi : Int) (yj : Int) top
   rw [← hE] at hEok HPK
   have HE := Lib.hid hE
   have HEok := Lib.hid hEok
   have hmr := Hmv.out.2.2.2.2.1 HK.out k hlt
   obtain ⟨md, hmd⟩ : ∃ v : Nat, nth m.modes k = (v : Int) := ⟨(nth m.modes k).toNat, by omega⟩
   rw [hmd] at hmr
   rw [hmd, Int.toNat_natCast] at HPK
   have Hmd := Lib.hid hmd
   obtain ⟨PR, hPR⟩ : ∃ P, P = prd md E := ⟨_, rfl⟩
   rw [← hPR] at HPK
   rw [HPK.out] at Hst
   have HPR := Lib.hid hPR
   clear hE hEok hmd hPR
   have hPl : PR.length = 16 := by rw [HPR.out, prd_len]
   have HPl := Lib.hid hPl
   have hPb : bdA 1099511627776 PR := by rw [HPR.out]; exact smp_bd (prd_smp _ HEok.out)
   have HPb := Lib.hid hPb
   clear hPl hPb
   go_wp2_with fail
   rw [← hO2e]
   clear hO2e hcK hO3
   have G7 : RS w base g n c ra rn rc W H ref m B Z (wr.alloc (.cells (ic (List.replicate 16 0)) 29)) ∧ IB (wr.alloc (.cells (ic (List.replicate 16 0)) 29)) O2 29 (List.replicate 16 0) := ⟨R6, ib⟩
   clear R3 R6 ib hb0
   refine wp_region_invL (by kernel_rfl) [(47, 0), (48, 1), (49, 2), (50, 3), (51, 4), (52, 5), (53, 6), (54, 7), (55, 8), (56, 9)] [[], [], [0, 1], [0, 1, 2], [], [], [], [], [4, 5, 6, 7], [0, 1, 2, 3, 4, 5, 6, 7, 8], [0, 1, 2, 3, 4, 5, 6, 7, 8, 9]] (fun i own ys wx => match i with | 0 => own = .int .i64 (k : Nat) | 1 => own = .pointer (some ⟨B + 1 + 1, 3, none⟩) | 2 => own = .pointer (some ⟨B + 1 + 1, 3 + k, none⟩) | 3 => own = .int .i64 (md : Nat) | 4 => own = .agg #[.int .i64 W, .int .i64 H, .slice (some ⟨g, 0, none⟩) n c] | 5 => own = .int .i64 (xi : Nat) | 6 => own = .int .i64 (yj : Nat) | 7 => own = .int .i64 top | 8 => own = .agg (edC E) | 9 => own = .agg (ic PR) | 10 => True | _ => True) (fun Lx wx => RS w base g n c ra rn rc W H ref m B Z wx ∧ IB wx O2 29 (if Lx 10 = true then PR else (List.replicate 16 0))) (by kernel_rfl) (by kernel_rfl) (by kernel_rfl) ?g0_r1 ?gop_r1 ?gend_r1
   case g0_r1 => exact ⟨G7.1.drew, G7.2.drewN 1⟩
   case gop_r1 =>
    refine ⟨?_, ?_, ?o2, ?o3, ?o4, ?o5, ?o6, ?_, ?o8, ?o9, ?o10, trivial⟩ <;> (intro Lx xs wx hG hl ha hb hD hI Qo Kx hK hQo; simp only [patchS, Nat.reduceAdd, Nat.reduceEqDiff, ↓reduceIte] at hQo ⊢)
    case o2 =>
     have l10 : Lx 10 = false := hb 10 rfl
     clear hl ha hb
     have d0 : _ = _ := hD 0 rfl
     have d1 : _ = _ := hD 1 rfl
     clear hD hI
     generalize xs 0 = y0 at *
     generalize xs 1 = y1 at *
     subst d0 d1
     go_wp2
     exact hK.out _ _ ⟨rfl, hG, fun _ _ _ _ _ _ h => h⟩
    case o3 =>
     have l10 : Lx 10 = false := hb 10 rfl
     clear hl ha hb
     have d2 : _ = _ := hD 2 rfl
     clear hD hI
     generalize xs 2 = y2 at *
     subst d2
     have cx := hG.1.b2.cell (i := 3 + k) (by rw [Hl.out]; omega)
     rw [Mac.nth_mode Hm.out k hlt, Hmd.out] at cx
     go_wp2
     exact hK.out _ _ ⟨rfl, hG, fun _ _ _ _ _ _ h => h⟩
    case o4 =>
     have l10 : Lx 10 = false := hb 10 rfl
     clear hl ha hb hD hI
     obtain ⟨-, k0, k1, k2, -⟩ := bx3 hG.1.b0
     go_wp2
     exact hK.out _ _ ⟨rfl, hG, fun _ _ _ _ _ _ h => h⟩
    case o5 =>
     have l10 : Lx 10 = false := hb 10 rfl
     clear hl ha hb hD hI
     go_wp2
     exact hK.out _ _ ⟨by rw [← Hxi.out], hG, fun _ _ _ _ _ _ h => h⟩
    case o6 =>
     have l10 : Lx 10 = false := hb 10 rfl
     clear hl ha hb hD hI
     go_wp2
     exact hK.out _ _ ⟨by rw [← Hyj.out], hG, fun _ _ _ _ _ _ h => h⟩
    case o8 =>
     have l10 : Lx 10 = false := hb 10 rfl
     clear hl ha hb
     have d4 : _ = _ := hD 4 rfl
     have d5 : _ = _ := hD 5 rfl
     have d6 : _ = _ := hD 6 rfl
     have d7 : _ = _ := hD 7 rfl
     clear hD hI
     generalize xs 4 = y4 at *
     generalize xs 5 = y5 at *
     generalize xs 6 = y6 at *
     generalize xs 7 = y7 at *
     subst d4 d5 d6 d7
     go_wp2_with fail
     refine (l6Edges_any ⟨W, H, Z⟩ xi yj W H top (some ⟨g, 0, none⟩) c n _ HZv.out HZn.out (Sl.of_owns hG.1.own) rfl rfl (by omega) (by omega) ht0).mono ?_
     rintro e w9 ⟨rfl, e9⟩
     rw [← HE.out]
     go_wp2
     exact hK.out _ _ ⟨rfl, ⟨hG.1.ex e9, hG.2.ext e9⟩, fun _ _ _ _ _ _ h => h⟩
    case o9 =>
     have l10 : Lx 10 = false := hb 10 rfl
     clear hl ha hb
     have d3 : _ = _ := hD 3 rfl
     have d8 : _ = _ := hD 8 rfl
     clear hD hI
     generalize xs 3 = y3 at *
     generalize xs 8 = y8 at *
     subst d3 d8
     go_wp2_with fail
     refine (l6Predict_any E md _ HEok.out (by omega)).mono ?_
     rintro e w9 ⟨rfl, e9⟩
     rw [← HPR.out]
     go_wp2
     exact hK.out _ _ ⟨rfl, ⟨hG.1.ex e9, hG.2.ext e9⟩, fun _ _ _ _ _ _ h => h⟩
    case o10 =>
     have l10 : Lx 10 = false := hl
     clear hl ha hb
     have d9 : _ = _ := hD 9 rfl
     clear hD hI
     generalize xs 9 = y9 at *
     subst d9
     rw [l10, ifF] at hG
     refine wpList_istore 29 _ _ rfl rfl hG.2 0 16 rfl _ rfl PR rfl size_A16 HPl.out (by simp) ?_
     intro w9 i9 g9
     rw [spl_all (by rw [HPl.out]; simp)] at i9
     exact hQo undef _ (hK.out _ _ ⟨trivial, ⟨hG.1.loc g9 (by omega) hwB, i9⟩, fun _ _ _ _ _ _ h => h⟩)
    all_goals
     have l10 : Lx 10 = false := hb 10 rfl
     clear hl ha hb hD hI
     go_wp2
     exact hK.out _ _ ⟨rfl, hG, fun _ _ _ _ _ _ h => h⟩
   intro xs wx hV hG0
   obtain ⟨Lx, hL, hG⟩ := hG0
   have l10 : Lx 10 = true := hL 10 (by decide)
   clear hL hV
   simp only [patchS, Nat.reduceAdd, Nat.reduceEqDiff, ↓reduceIte]
   generalize xs 0 = y0 at *
   generalize xs 1 = y1 at *
   generalize xs 2 = y2 at *
   generalize xs 3 = y3 at *
   generalize xs 4 = y4 at *
   generalize xs 5 = y5 at *
   generalize xs 6 = y6 at *
   generalize xs 7 = y7 at *
   generalize xs 8 = y8 at *
   generalize xs 9 = y9 at *
   generalize xs 10 = y10 at *
   replace hG : RS w base g n c ra rn rc W H ref m B Z wx ∧ IB wx O2 29 (if Lx 10 = true then PR else (List.replicate 16 0)) := hG
   rw [l10, ifT] at hG
   clear G7
   obtain ⟨RM, pM⟩ := hG
   go_wp2_with fail
   obtain ⟨D, hD⟩ : ∃ D, D = dec bk q := ⟨_, rfl⟩
   rw [← hD] at Hst
   have HD := Lib.hid hD
   have HDl := Lib.hid (show D.length = 16 by rw [hD, dec_len])
   have HDb := Lib.hid (show bdA 1099511627776 D by rw [hD]; exact dec_bd _ _)
   clear hD
   refine wp_region_invL (by kernel_rfl) [(60, 0), (61, 1), (62, 2), (63, 3), (64, 4), (65, 5), (66, 6), (67, 7), (68, 8), (69, 9), (70, 10)] [[], [], [], [], [], [], [4, 5], [4, 5, 6], [], [4, 5, 6, 7, 8], [0, 1, 2, 3, 4, 5, 6, 7, 8, 9]] (fun i own ys wx => match i with | 0 => own = .agg #[.int .i64 W, .int .i64 H, .slice (some ⟨g, 0, none⟩) n c] | 1 => own = .int .i64 (xi : Nat) | 2 => own = .int .i64 (yj : Nat) | 3 => own = .agg (ic PR) | 4 => own = .int .i64 (k : Nat) | 5 => own = .pointer (some ⟨B + 1 + 1, 7, none⟩) | 6 => own = .pointer (some ⟨B + 1 + 1, 7 + k * 16, none⟩) | 7 => own = .agg (ic bk) | 8 => own = .int .i64 (q : Nat) | 9 => own = .agg (ic D) | 10 => True | _ => True) (fun Lx wx => RS w base g n c ra rn rc W H ref m B (if Lx 10 = true then Z1 else Z) wx ∧ IB wx O2 29 PR) (by kernel_rfl) (by kernel_rfl) (by kernel_rfl) ?g0_r2 ?gop_r2 ?gend_r2
   case g0_r2 => exact ⟨RM.drew, pM.drewN 1⟩
   case gop_r2 =>
    refine ⟨?o0, ?o1, ?o2, ?o3, ?_, ?_, ?o6, ?o7, ?_, ?o9, ?o10, trivial⟩ <;> (intro Lx xs wx hG hl ha hb hD hI Qo Kx hK hQo; simp only [patchS, Nat.reduceAdd, Nat.reduceEqDiff, ↓reduceIte] at hQo ⊢)
    case o0 =>
     have l10 : Lx 10 = false := hb 10 rfl
     clear hl ha hb hD hI
     obtain ⟨-, k0, k1, k2, -⟩ := bx3 hG.1.b0
     go_wp2
     exact hK.out _ _ ⟨rfl, hG, fun _ _ _ _ _ _ h => h⟩
    case o1 =>
     have l10 : Lx 10 = false := hb 10 rfl
     clear hl ha hb hD hI
     go_wp2
     exact hK.out _ _ ⟨by rw [← Hxi.out], hG, fun _ _ _ _ _ _ h => h⟩
    case o2 =>
     have l10 : Lx 10 = false := hb 10 rfl
     clear hl ha hb hD hI
     go_wp2
     exact hK.out _ _ ⟨by rw [← Hyj.out], hG, fun _ _ _ _ _ _ h => h⟩
    case o3 =>
     have l10 : Lx 10 = false := hb 10 rfl
     clear hl ha hb hD hI
     go_wp2_with (refine wpList_iload 29 _ rfl rfl hG.2 0 16 rfl _ Tryz.underlying29 rfl size_A16 (by rw [HPl.out]; omega) _ (by rw [sub_all _ _ HPl.out]) ?_)
     exact hK.out _ _ ⟨rfl, hG, fun _ _ _ _ _ _ h => h⟩
    case o6 =>
     have l10 : Lx 10 = false := hb 10 rfl
     clear hl ha hb
     have d4 : _ = _ := hD 4 rfl
     have d5 : _ = _ := hD 5 rfl
     clear hD hI
     generalize xs 4 = y4 at *
     generalize xs 5 = y5 at *
     subst d4 d5
     go_wp2
     exact hK.out _ _ ⟨rfl, hG, fun _ _ _ _ _ _ h => h⟩
    case o7 =>
     have l10 : Lx 10 = false := hb 10 rfl
     clear hl ha hb
     have d6 : _ = _ := hD 6 rfl
     clear hD hI
     generalize xs 6 = y6 at *
     subst d6
     go_wp2_with (refine wpList_iload 29 _ rfl rfl hG.1.b2 (7 + k * 16) 16 rfl _ Tryz.underlying29 rfl size_A16 (by rw [Hl.out]; omega) _ (by rw [Mac.zs_blk Hm.out k hlt, ← Hbk.out]) ?_)
     exact hK.out _ _ ⟨rfl, hG, fun _ _ _ _ _ _ h => h⟩
    case o9 =>
     have l10 : Lx 10 = false := hb 10 rfl
     clear hl ha hb
     have d7 : _ = _ := hD 7 rfl
     have d8 : _ = _ := hD 8 rfl
     clear hD hI
     generalize xs 7 = y7 at *
     generalize xs 8 = y8 at *
     subst d7 d8
     go_wp2_with fail
     refine (l4Decode_any bk q _ HB16.out HBv.out hq).mono ?_
     rintro e w9 ⟨rfl, e9⟩
     rw [← HD.out]
     go_wp2
     exact hK.out _ _ ⟨rfl, ⟨hG.1.ex e9, hG.2.ext e9⟩, fun _ _ _ _ _ _ h => h⟩
    case o10 =>
     have l10 : Lx 10 = false := hl
     clear hl ha hb
     have d0 : _ = _ := hD 0 rfl
     have d1 : _ = _ := hD 1 rfl
     have d2 : _ = _ := hD 2 rfl
     have d3 : _ = _ := hD 3 rfl
     have d9 : _ = _ := hD 9 rfl
     clear hD hI
     generalize xs 0 = y0 at *
     generalize xs 1 = y1 at *
     generalize xs 2 = y2 at *
     generalize xs 3 = y3 at *
     generalize xs 9 = y9 at *
     subst d0 d1 d2 d3 d9
     rw [l10, ifF] at hG
     go_wp2_with fail
     refine (l8Put_any W H xi yj base g n c Z PR D _ HPl.out HDl.out HPb.out HDb.out hW32 (by omega) (by omega) hI (by omega) hG.1.own).mono ?_
     rintro e w9 ⟨rfl, o9, g9⟩
     go_wp2
     rw [← Hst.out] at o9
     exact hK.out _ _ ⟨trivial, ⟨hG.1.put g9 o9, hG.2.gr g9 (lv2 (by omega))⟩, fun _ _ _ _ _ _ h => h⟩
    all_goals
     have l10 : Lx 10 = false := hb 10 rfl
     clear hl ha hb hD hI
     go_wp2
     exact hK.out _ _ ⟨rfl, hG, fun _ _ _ _ _ _ h => h⟩
   intro xs wx hV hG0
   obtain ⟨Lx, hL, hG⟩ := hG0
   have l10 : Lx 10 = true := hL 10 (by decide)
   clear hL hV
   simp only [patchS, Nat.reduceAdd, Nat.reduceEqDiff, ↓reduceIte]
   generalize xs 0 = y0 at *
   generalize xs 1 = y1 at *
   generalize xs 2 = y2 at *
   generalize xs 3 = y3 at *
   generalize xs 4 = y4 at *
   generalize xs 5 = y5 at *
   generalize xs 6 = y6 at *
   generalize xs 7 = y7 at *
   generalize xs 8 = y8 at *
   generalize xs 9 = y9 at *
   generalize xs 10 = y10 at *
   replace hG : RS w base g n c ra rn rc W H ref m B (if Lx 10 = true then Z1 else Z) wx ∧ IB wx O2 29 PR := hG
   rw [l10, ifT] at hG
   clear RM pM
   have HG := Lib.hid hG
   clear hG
   go_wp2
   go_roundw
   case rel => exact ⟨k + 1, by omega, by go_num, by rw [← HZ1.out]; exact HG.out.1⟩
   case measure => simp [intOf]; omega
  ·obtain rfl : k = 4 := by omega
   have HR := Lib.hid R3
   clear R3
   go_wp2
   go_end0
   exact ⟨rfl, HR.out.own, HR.out.gr⟩
set_option maxRecDepth 100000 in
set_option maxHeartbeats 4000000 in
theorem l8Build_S (ref : Pic) (W H x y : Nat) (px : List Int) (m : Mac) (q : Nat) (top : Int) (ra : Option Addr) (rn rc base g n c : Nat) (w : World) (own : w.ownsRow base 3 1 (.slice (some ⟨g, 0, none⟩) n c) n (px.map (Value.int .i64)))
 (hp : placeP ⟨W, H, px⟩ x y) (hm : m.ok) (hv : m.valid) (hq : q < 16) (ht0 : 0 ≤ top) (hk : ¬ m.kind = 2) (hrv : ref.valid) (hrn : rn = ref.px.length) (hr : Sl w ra rn (ref.px.map (Value.int .i64))) (hrg : ∀ z, ra = some z → z.block ≠ g) :
 Calls Tryz.prog 96 #[.agg #[.int .i64 ref.w, .int .i64 ref.h, .slice ra rn rc], .agg #[.int .i64 W, .int .i64 H, .slice (some ⟨g, 0, none⟩) n c], .int .i64 (x : Nat), .int .i64 (y : Nat), .agg (ic m.zs), .int .i64 q, .int .i64 top] w fun e w' => e = .returned (.tuple #[]) ∧ w'.ownsRow base 3 1 (.slice (some ⟨g, 0, none⟩) n c) n ((bldS ref ⟨W, H, px⟩ x y m q top 4).map (Value.int .i64)) ∧ w.grownBy w' (some g) := by
 obtain ⟨hpv, hx0, hx1, hx8, hy0, hy1, hy8⟩ := hp
 have hxx : x + 8 ≤ W := by have h1 := hpv.1.2.2; simp only at hx1 h1; omega
 have hyy : y + 8 ≤ H := by have h1 := hpv.2.1.2.2; simp only at hy1 h1; omega
 have hW32 : W ≤ 32 := by have := hpv.1.2.1; simp only at this; omega
 have hH32 : H ≤ 32 := by have := hpv.2.1.2.1; simp only at this; omega
 have hpl : n = px.length := by have := own.1; simpa using this.symm
 have hnW : n = W * H := by
  have h1 := hpv.2.2.1
  simp only [← Int.natCast_mul] at h1
  rw [hpl]; exact Int.ofNat.inj h1
 have hn1k : n ≤ 1024 := by rw [hnW]; exact Nat.mul_le_mul hW32 hH32
 have inn : ∀ u v : Nat, u + 4 ≤ H → v + 4 ≤ W → (u + 3) * W + v + 3 < n := fun u v h1 h2 => by
  have h3 := Nat.mul_le_mul_right W (show u + 4 ≤ H by omega)
  rw [Nat.add_mul, Nat.mul_comm H W, ← hnW] at h3
  rw [Nat.add_mul]
  omega
 have Inn := Lib.hid inn
 have HV := Lib.hid (fun k => bldS_valid hpv ref x y m q top k)
 have HL := Lib.hid (fun k => show n = (bldS ref ⟨W, H, px⟩ x y m q top k).length by rw [bldS_len, hpl])
 have Hmv := Lib.hid hv
 have Hm := Lib.hid hm
 have Hl := Lib.hid (Mac.zs_len hm)
 have HK := Lib.hid hk
 have hbg : base ≤ g := (own.lt g rfl).1
 have hgw : g < w.heap.size := (own.lt g rfl).2
 have R0 : RS w base g n c ra rn rc W H ref m w.heap.size px (((((w.alloc (.cells #[.int .i64 ref.w, .int .i64 ref.h, .slice ra rn rc] 25)).alloc (.cells #[.int .i64 W, .int .i64 H, .slice (some ⟨g, 0, none⟩) n c] 25)).alloc (.cells (ic m.zs) 32))).alloc (.cells #[] 3)) := by
  have a1 := Ext.alloc w (.cells #[.int .i64 ref.w, .int .i64 ref.h, .slice ra rn rc] 25)
  have a2 := Ext.alloc (w.alloc (.cells #[.int .i64 ref.w, .int .i64 ref.h, .slice ra rn rc] 25)) (.cells #[.int .i64 W, .int .i64 H, .slice (some ⟨g, 0, none⟩) n c] 25)
  have a3 := Ext.alloc ((w.alloc (.cells #[.int .i64 ref.w, .int .i64 ref.h, .slice ra rn rc] 25)).alloc (.cells #[.int .i64 W, .int .i64 H, .slice (some ⟨g, 0, none⟩) n c] 25)) (.cells (ic m.zs) 32)
  have a4 := Ext.alloc (((w.alloc (.cells #[.int .i64 ref.w, .int .i64 ref.h, .slice ra rn rc] 25)).alloc (.cells #[.int .i64 W, .int .i64 H, .slice (some ⟨g, 0, none⟩) n c] 25)).alloc (.cells (ic m.zs) 32)) (.cells #[] 3)
  have q1 := a4.blk (a3.blk (blk_new (w.alloc (.cells #[.int .i64 ref.w, .int .i64 ref.h, .slice ra rn rc] 25)) (.cells #[.int .i64 W, .int .i64 H, .slice (some ⟨g, 0, none⟩) n c] 25)))
  have q2 := (IB.new ((w.alloc (.cells #[.int .i64 ref.w, .int .i64 ref.h, .slice ra rn rc] 25)).alloc (.cells #[.int .i64 W, .int .i64 H, .slice (some ⟨g, 0, none⟩) n c] 25)) 32 m.zs).ext a4
  simp only [World.size_alloc] at q1 q2
  exact ⟨grown_ext (grown_refl _ _) (((a1.trans a2).trans a3).trans a4), owns_ext own (((a1.trans a2).trans a3).trans a4), q1, a4.blk (a3.blk (a2.blk (blk_new _ _))), q2, hgw⟩
 have hkd : (m.kind == 2) = false := by simpa using hk
 have hkn : (m.kind != 2) = true := by simpa using hk
 have k0' := R0.b2.cell (i := 0) (by rw [Hl.out]; omega)
 rw [Mac.zs_kind] at k0'
 have r2 := R0.b2
 clear hpv hpl hnW inn hv hm hk own hx8 hy8
 have Hrv := Lib.hid hrv
 have Hrn := Lib.hid hrn
 have Hrg := Lib.hid hrg
 clear hrv hrn hrg hx0 hy0 hx1 hy1
 go_enter Tryz.func96, Tryz.ntmps96
 obtain ⟨-, k0, k1, k2, -⟩ := bx3 R0.b1
 go_wp2_with (refine wpList_iload 27 _ rfl rfl r2 1 2 rfl _ Tryz.underlying27 rfl size_Vector (by rw [Hl.out]; omega) _ Mac.zs_mv ?_)
 try simp only [World.size_alloc]
 obtain ⟨B, hB⟩ : ∃ B, B = w.heap.size := ⟨_, rfl⟩
 rw [← hB] at R0 r2 k0' ⊢
 have hwB : w.heap.size ≤ B := by omega
 have HB := Lib.hid hB
 clear hB
 have hrs := hr.grown R0.gr (fun z hz => by have := Hrg.out z hz; simp; omega)
 have hvv := Hmv.out.2.1
 refine (l7Block_any ref x y m.x m.y ra rc rn _ Hrv.out Hrn.out hrs (by omega) (by omega) (by omega) (by omega) hvv.1 hvv.2.1 hvv.2.2.1 hvv.2.2.2).mono ?_
 rintro e w2 ⟨a2, c2, rfl, o2, e2⟩
 have R2 := R0.ex e2
 have hs1 := R0.gr.size
 have ha2 : ∃ g2, a2 = some ⟨g2, 0, none⟩ ∧ g2 ≠ g := by
  rcases o2.2 with ⟨-, h0⟩ | ⟨g2, cc, cur, hv2, hb2, -⟩
  ·omega
  ·simp only [Value.slice.injEq] at hv2
   exact ⟨g2, hv2.1, by omega⟩
 obtain ⟨g2, rfl, hg2⟩ := ha2
 have s2 := Sl.of_owns o2
 have Hb := Lib.hid (blkL_len ref x y m.x m.y)
 clear k0 k1 k2 r2 R0 e2 o2 hrs hr hvv k0' hkn
 go_wp2_with fail
 go_loopw [15] (fun i wr => ∃ k : Nat, k ≤ 4 ∧ i = .int .i64 k ∧ RS w base g n c ra rn rc W H ref m B (bldS ref ⟨W, H, px⟩ x y m q top k) wr ∧ Hid (Sl wr (some ⟨g2, 0, none⟩) 64 ((blkL ref x y m.x m.y).map (Value.int .i64)))) (fun i _ => 4 - (intOf i).toNat)
 case atStart => exact ⟨0, by omega, rfl, R2, Lib.hid s2⟩
 case round =>
  obtain ⟨k, hk, rfl, R3, S3⟩ := hrel
  clear R2 s2
  by_cases hlt : k < 4
  ·have hd : decide ((k : Int) < 4) = true := by simp; omega
   have hZv := HV.out k
   have hZn := HL.out k
   have Hst := Lib.hid (bld_step ref W H px x y m q top k)
   obtain ⟨Z, hZ⟩ : ∃ Z, Z = bldS ref ⟨W, H, px⟩ x y m q top k := ⟨_, rfl⟩
   obtain ⟨Z1, hZ1⟩ : ∃ Z, Z = bldS ref ⟨W, H, px⟩ x y m q top (k + 1) := ⟨_, rfl⟩
   rw [← hZ] at R3 hZv hZn Hst
   rw [← hZ1] at Hst
   have HZ1 := Lib.hid hZ1
   have HZv := Lib.hid hZv
   have HZn := Lib.hid hZn
   obtain ⟨xi, hxi⟩ : ∃ v, v = x + k % 2 * 4 := ⟨_, rfl⟩
   obtain ⟨yj, hyj⟩ : ∃ v, v = y + k / 2 * 4 := ⟨_, rfl⟩
   have HPK := Lib.hid (show prK ref W H Z x y m top k = pof (blkL ref x y m.x m.y) (k % 2 * 4) (k / 2 * 4) from if_neg HK.out)
   rw [← hxi, ← hyj] at Hst
   have hxi4 : xi + 4 ≤ W := by omega
   have hyj4 : yj + 4 ≤ H := by omega
   have Hxi := Lib.hid (show (x : Int) + (k : Int) % 2 * 4 = ((xi : Nat) : Int) by omega)
   have Hyj := Lib.hid (show (y : Int) + (k : Int) / 2 * 4 = ((yj : Nat) : Int) by omega)
   have hI := Inn.out yj xi hyj4 hxi4
   have hB16 := sub16 Hm.out.lv hlt
   have hBv := lv_blk Hm.out Hmv.out hlt
   obtain ⟨bk, hbk⟩ : ∃ b, b = sub m.lv (k * 16) 16 := ⟨_, rfl⟩
   have Hbk := Lib.hid hbk
   rw [← hbk] at hB16 hBv Hst
   have HB16 := Lib.hid hB16
   have HBv := Lib.hid hBv
   clear hZ hZ1 hxi hyj hbk hB16 hBv hZv hZn
   have hcK := R3.b2.cell (i := 0) (by rw [Hl.out]; omega)
   rw [Mac.zs_kind] at hcK
   have ib := IB.new wr 29 (List.replicate 16 0)
   have R6 := R3.ex (Ext.alloc wr (.cells (ic (List.replicate 16 0)) 29))
   have hO2 := lt_of_block R3.b2
   have hO3 := lt_of_block R3.b2
   have S6 := S3.out.ext (Ext.alloc wr (.cells (ic (List.replicate 16 0)) 29))
   obtain ⟨O2, hO2e⟩ : ∃ O, O = wr.heap.size := ⟨_, rfl⟩
   rw [← hO2e] at ib hO2
   have HO2 := Lib.hid hO2e
   have hb0 := R6.b0
   have hgB := R6.gB
   obtain ⟨E, hE⟩ : ∃ E, E = edg ⟨W, H, Z⟩ (xi : Int) (yj : Int) top := ⟨_, rfl⟩
   clear hE
   obtain ⟨PR, hPR⟩ : ∃ P, P = pof (blkL ref x y m.x m.y) (k % 2 * 4) (k / 2 * 4) := ⟨_, rfl⟩
   rw [← hPR] at HPK
   rw [HPK.out] at Hst
   have HPR := Lib.hid hPR
   clear hPR
   have hPl : PR.length = 16 := by rw [HPR.out, pof_len]
   have HPl := Lib.hid hPl
   have hPb : bdA 1099511627776 PR := by rw [HPR.out]; exact smp_bd (pof_smp (blkL_smp Hrv.out _ _ _ _) (blkL_len _ _ _ _ _) (by omega) (by omega))
   have HPb := Lib.hid hPb
   clear hPl hPb
   go_wp2_with fail
   rw [← hO2e]
   clear hO2e hcK hO3
   refine (l8Part_any (blkL ref x y m.x m.y) k hlt (some ⟨g2, 0, none⟩) c2 _ S6).mono ?_
   rintro e w7 ⟨rfl, e7⟩
   rw [← HPR.out]
   have R7 := R6.ex e7
   have ib7 := ib.ext e7
   have S7 := S6.ext e7
   have hg2l : g2 < wr.heap.size := by
    obtain ⟨b8, o8, h8, c8⟩ := S3.out.int (show 0 < 64 by omega)
    simp only [Option.some.injEq, Addr.mk.injEq, and_true] at h8
    rw [h8.1]
    exact World.block_lt_of_cell? _ _ c8
   rw [← HO2.out] at hg2l
   clear R3 R6 ib S3 S6 e7
   go_wp2_with (refine wpList_istore 29 _ _ rfl rfl ib7 0 16 rfl _ rfl PR rfl size_A16 HPl.out (by simp) ?_; intro w8 pM g8; refine Hid.out ?_)
   rw [spl_all (by rw [HPl.out]; simp)] at pM
   have RM := R7.loc g8 (by omega) hwB
   have SM := S7.grown g8 (fun z hz => by cases hz; simp; omega)
   clear R7 ib7 S7 g8
   refine Lib.hid ?_
   go_wp2_with fail
   obtain ⟨D, hD⟩ : ∃ D, D = dec bk q := ⟨_, rfl⟩
   rw [← hD] at Hst
   have HD := Lib.hid hD
   have HDl := Lib.hid (show D.length = 16 by rw [hD, dec_len])
   have HDb := Lib.hid (show bdA 1099511627776 D by rw [hD]; exact dec_bd _ _)
   clear hD
   refine wp_region_invL (by kernel_rfl) [(60, 0), (61, 1), (62, 2), (63, 3), (64, 4), (65, 5), (66, 6), (67, 7), (68, 8), (69, 9), (70, 10)] [[], [], [], [], [], [], [4, 5], [4, 5, 6], [], [4, 5, 6, 7, 8], [0, 1, 2, 3, 4, 5, 6, 7, 8, 9]] (fun i own ys wx => match i with | 0 => own = .agg #[.int .i64 W, .int .i64 H, .slice (some ⟨g, 0, none⟩) n c] | 1 => own = .int .i64 (xi : Nat) | 2 => own = .int .i64 (yj : Nat) | 3 => own = .agg (ic PR) | 4 => own = .int .i64 (k : Nat) | 5 => own = .pointer (some ⟨B + 1 + 1, 7, none⟩) | 6 => own = .pointer (some ⟨B + 1 + 1, 7 + k * 16, none⟩) | 7 => own = .agg (ic bk) | 8 => own = .int .i64 (q : Nat) | 9 => own = .agg (ic D) | 10 => True | _ => True) (fun Lx wx => RS w base g n c ra rn rc W H ref m B (if Lx 10 = true then Z1 else Z) wx ∧ IB wx O2 29 PR ∧ Sl wx (some ⟨g2, 0, none⟩) 64 ((blkL ref x y m.x m.y).map (Value.int .i64))) (by kernel_rfl) (by kernel_rfl) (by kernel_rfl) ?g0_r3 ?gop_r3 ?gend_r3
   case g0_r3 => exact ⟨RM.drew, pM.drewN 1, SM.drewN 1⟩
   case gop_r3 =>
    refine ⟨?o0, ?o1, ?o2, ?o3, ?_, ?_, ?o6, ?o7, ?_, ?o9, ?o10, trivial⟩ <;> (intro Lx xs wx hG hl ha hb hD hI Qo Kx hK hQo; simp only [patchS, Nat.reduceAdd, Nat.reduceEqDiff, ↓reduceIte] at hQo ⊢)
    case o0 =>
     have l10 : Lx 10 = false := hb 10 rfl
     clear hl ha hb hD hI
     obtain ⟨-, k0, k1, k2, -⟩ := bx3 hG.1.b0
     go_wp2
     exact hK.out _ _ ⟨rfl, hG, fun _ _ _ _ _ _ h => h⟩
    case o1 =>
     have l10 : Lx 10 = false := hb 10 rfl
     clear hl ha hb hD hI
     go_wp2
     exact hK.out _ _ ⟨by rw [← Hxi.out], hG, fun _ _ _ _ _ _ h => h⟩
    case o2 =>
     have l10 : Lx 10 = false := hb 10 rfl
     clear hl ha hb hD hI
     go_wp2
     exact hK.out _ _ ⟨by rw [← Hyj.out], hG, fun _ _ _ _ _ _ h => h⟩
    case o3 =>
     have l10 : Lx 10 = false := hb 10 rfl
     clear hl ha hb hD hI
     go_wp2_with (refine wpList_iload 29 _ rfl rfl hG.2.1 0 16 rfl _ Tryz.underlying29 rfl size_A16 (by rw [HPl.out]; omega) _ (by rw [sub_all _ _ HPl.out]) ?_)
     exact hK.out _ _ ⟨rfl, hG, fun _ _ _ _ _ _ h => h⟩
    case o6 =>
     have l10 : Lx 10 = false := hb 10 rfl
     clear hl ha hb
     have d4 : _ = _ := hD 4 rfl
     have d5 : _ = _ := hD 5 rfl
     clear hD hI
     generalize xs 4 = y4 at *
     generalize xs 5 = y5 at *
     subst d4 d5
     go_wp2
     exact hK.out _ _ ⟨rfl, hG, fun _ _ _ _ _ _ h => h⟩
    case o7 =>
     have l10 : Lx 10 = false := hb 10 rfl
     clear hl ha hb
     have d6 : _ = _ := hD 6 rfl
     clear hD hI
     generalize xs 6 = y6 at *
     subst d6
     go_wp2_with (refine wpList_iload 29 _ rfl rfl hG.1.b2 (7 + k * 16) 16 rfl _ Tryz.underlying29 rfl size_A16 (by rw [Hl.out]; omega) _ (by rw [Mac.zs_blk Hm.out k hlt, ← Hbk.out]) ?_)
     exact hK.out _ _ ⟨rfl, hG, fun _ _ _ _ _ _ h => h⟩
    case o9 =>
     have l10 : Lx 10 = false := hb 10 rfl
     clear hl ha hb
     have d7 : _ = _ := hD 7 rfl
     have d8 : _ = _ := hD 8 rfl
     clear hD hI
     generalize xs 7 = y7 at *
     generalize xs 8 = y8 at *
     subst d7 d8
     go_wp2_with fail
     refine (l4Decode_any bk q _ HB16.out HBv.out hq).mono ?_
     rintro e w9 ⟨rfl, e9⟩
     rw [← HD.out]
     go_wp2
     exact hK.out _ _ ⟨rfl, ⟨hG.1.ex e9, hG.2.1.ext e9, hG.2.2.ext e9⟩, fun _ _ _ _ _ _ h => h⟩
    case o10 =>
     have l10 : Lx 10 = false := hl
     clear hl ha hb
     have d0 : _ = _ := hD 0 rfl
     have d1 : _ = _ := hD 1 rfl
     have d2 : _ = _ := hD 2 rfl
     have d3 : _ = _ := hD 3 rfl
     have d9 : _ = _ := hD 9 rfl
     clear hD hI
     generalize xs 0 = y0 at *
     generalize xs 1 = y1 at *
     generalize xs 2 = y2 at *
     generalize xs 3 = y3 at *
     generalize xs 9 = y9 at *
     subst d0 d1 d2 d3 d9
     rw [l10, ifF] at hG
     go_wp2_with fail
     refine (l8Put_any W H xi yj base g n c Z PR D _ HPl.out HDl.out HPb.out HDb.out hW32 (by omega) (by omega) hI (by omega) hG.1.own).mono ?_
     rintro e w9 ⟨rfl, o9, g9⟩
     go_wp2
     rw [← Hst.out] at o9
     exact hK.out _ _ ⟨trivial, ⟨hG.1.put g9 o9, hG.2.1.gr g9 (lv2 (by omega)), hG.2.2.grown g9 (fun z hz => by cases hz; simpa using hg2)⟩, fun _ _ _ _ _ _ h => h⟩
    all_goals
     have l10 : Lx 10 = false := hb 10 rfl
     clear hl ha hb hD hI
     go_wp2
     exact hK.out _ _ ⟨rfl, hG, fun _ _ _ _ _ _ h => h⟩
   intro xs wx hV hG0
   obtain ⟨Lx, hL, hG⟩ := hG0
   have l10 : Lx 10 = true := hL 10 (by decide)
   clear hL hV
   simp only [patchS, Nat.reduceAdd, Nat.reduceEqDiff, ↓reduceIte]
   generalize xs 0 = y0 at *
   generalize xs 1 = y1 at *
   generalize xs 2 = y2 at *
   generalize xs 3 = y3 at *
   generalize xs 4 = y4 at *
   generalize xs 5 = y5 at *
   generalize xs 6 = y6 at *
   generalize xs 7 = y7 at *
   generalize xs 8 = y8 at *
   generalize xs 9 = y9 at *
   generalize xs 10 = y10 at *
   replace hG : RS w base g n c ra rn rc W H ref m B (if Lx 10 = true then Z1 else Z) wx ∧ IB wx O2 29 PR ∧ Sl wx (some ⟨g2, 0, none⟩) 64 ((blkL ref x y m.x m.y).map (Value.int .i64)) := hG
   rw [l10, ifT] at hG
   clear RM pM SM
   have HG := Lib.hid hG
   clear hG
   go_wp2
   go_roundw
   case rel => exact ⟨k + 1, by omega, by go_num, by rw [← HZ1.out]; exact HG.out.1, Lib.hid HG.out.2.2⟩
   case measure => simp [intOf]; omega
  ·obtain rfl : k = 4 := by omega
   have HR := Lib.hid R3
   clear R3
   go_wp2
   go_end0
   exact ⟨rfl, HR.out.own, HR.out.gr⟩
end Go.Proofs.YtbnhaegidfbgbaaGreatDoor
namespace Go.Proofs.YtbnhaegidfbgbaaGreatDoor
open Go.RowKit
set_option maxHeartbeats 1000000
/-- The reconstructed picture. -/
noncomputable def recP (ref p : Pic) (x y : Int) (m : Mac) (q top : Int) : Pic := if okR ref p x y m q top then ⟨p.w, p.h, bldS ref p x.toNat y.toNat m q.toNat top 4⟩ else pic0
theorem recP_yes {ref p : Pic} {x y : Int} {m : Mac} {q top : Int} (h : okR ref p x y m q top) : recP ref p x y m q top = ⟨p.w, p.h, bldS ref p x.toNat y.toNat m q.toNat top 4⟩ := if_pos h
theorem kind3 {m : Mac} (hv : m.valid) (h : ¬ m.kind = 2) : m.kind = 0 ∨ m.kind = 1 := by have := hv.1; omega
theorem okR_ref {ref p : Pic} {x y : Int} {m : Mac} {q top : Int} (h : okR ref p x y m q top) (hk : ¬ m.kind = 2) : ref.valid := (h.2.2.2.2.resolve_left hk).1
theorem rebuild_any (ref : Pic) (W H x y : Nat) (px : List Int) (m : Mac) (q : Nat) (top : Int) (ra : Option Addr) (rn rc base g n c : Nat) (w : World) (hT : TabQ w) (hbT : 0 < base) (own : w.ownsRow base 3 1 (.slice (some ⟨g, 0, none⟩) n c) n (px.map (Value.int .i64)))
 (hp : placeP ⟨W, H, px⟩ x y) (hm : m.ok) (hv : m.valid) (hq : q < 16) (hrv : ¬ m.kind = 2 → ref.valid) (hrn : rn = ref.px.length) (hr : Sl w ra rn (ref.px.map (Value.int .i64))) (hrg : ¬ m.kind = 2 → ∀ z, ra = some z → z.block ≠ g) :
 Calls Tryz.prog 46 #[.agg #[.int .i64 W, .int .i64 H, .slice (some ⟨g, 0, none⟩) n c], .agg #[.int .i64 ref.w, .int .i64 ref.h, .slice ra rn rc], .int .i64 (x : Nat), .int .i64 (y : Nat), .agg (ic m.zs), .int .i64 q, .int .i64 top] w fun e w' => e = .returned (.tuple #[]) ∧ w'.ownsRow base 3 1 (.slice (some ⟨g, 0, none⟩) n c) n ((bldS ref ⟨W, H, px⟩ x y m q top 4).map (Value.int .i64)) ∧ w.grownBy w' (some g) := by
 by_cases hk : m.kind = 2
 ·exact rebuild_I ref W H x y px m q top ra rn rc base g n c w hT hbT own hp hm hv hq hk
 ·rcases kind3 hv hk with h | h
  ·exact rebuild_S ref W H x y px m q top ra rn rc base g n c w hT hbT own hp hm hv hq h (hrv hk) hrn hr (hrg hk)
  ·exact rebuild_P ref W H x y px m q top ra rn rc base g n c w hT hbT own hp hm hv hq h (hrv hk) hrn hr (hrg hk)
theorem l8Build_any (ref : Pic) (W H x y : Nat) (px : List Int) (m : Mac) (q : Nat) (top : Int) (ra : Option Addr) (rn rc base g n c : Nat) (w : World) (own : w.ownsRow base 3 1 (.slice (some ⟨g, 0, none⟩) n c) n (px.map (Value.int .i64)))
 (hp : placeP ⟨W, H, px⟩ x y) (hm : m.ok) (hv : m.valid) (hq : q < 16) (ht0 : 0 ≤ top) (hrv : ¬ m.kind = 2 → ref.valid) (hrn : rn = ref.px.length) (hr : Sl w ra rn (ref.px.map (Value.int .i64))) (hrg : ¬ m.kind = 2 → ∀ z, ra = some z → z.block ≠ g) :
 Calls Tryz.prog 96 #[.agg #[.int .i64 ref.w, .int .i64 ref.h, .slice ra rn rc], .agg #[.int .i64 W, .int .i64 H, .slice (some ⟨g, 0, none⟩) n c], .int .i64 (x : Nat), .int .i64 (y : Nat), .agg (ic m.zs), .int .i64 q, .int .i64 top] w fun e w' => e = .returned (.tuple #[]) ∧ w'.ownsRow base 3 1 (.slice (some ⟨g, 0, none⟩) n c) n ((bldS ref ⟨W, H, px⟩ x y m q top 4).map (Value.int .i64)) ∧ w.grownBy w' (some g) := by
 by_cases hk : m.kind = 2
 ·exact l8Build_I ref W H x y px m q top ra rn rc base g n c w own hp hm hv hq ht0 hk
 ·exact l8Build_S ref W H x y px m q top ra rn rc base g n c w own hp hm hv hq ht0 hk (hrv hk) hrn hr (hrg hk)
set_option maxRecDepth 100000 in
theorem impl_Reconstruct_no (ref p : Pic) (x y : Int) (m : Mac) (q top : Int) (a b : Option Addr) (c d n l : Nat) (w : World) (hT : TabQ w) (hn : n = ref.px.length) (hl : l = p.px.length) (nc : n ≤ 9223372036854775807) (lc : l ≤ 9223372036854775807) (r : Sl w a n (ref.px.map (Value.int .i64))) (s : Sl w b l (p.px.map (Value.int .i64))) (hm : m.ok) (ho : ¬ okR ref p x y m q top) :
 Calls Tryz.prog 11 #[.agg #[.int .i64 ref.w, .int .i64 ref.h, .slice a n c], .agg #[.int .i64 p.w, .int .i64 p.h, .slice b l d], .int .i64 x, .int .i64 y, .agg (ic m.zs), .int .i64 q, .int .i64 top] w fun e w' => e = .returned (.agg #[.int .i64 0, .int .i64 0, .slice none 0 0]) ∧ Ext w w' := by
 have Hn := Lib.hid hn
 have HL := Lib.hid hl
 have Hm := Lib.hid hm
 have Hl := Lib.hid (Mac.zs_len hm)
 have HO := Lib.hid (show decide (okR ref p x y m q top) = false from decide_eq_false ho)
 clear hn hl hm ho
 have a2 := Ext.alloc (w.alloc (.cells #[.int .i64 ref.w, .int .i64 ref.h, .slice a n c] 25)) (.cells #[.int .i64 p.w, .int .i64 p.h, .slice b l d] 25)
 have a3 := Ext.alloc ((w.alloc (.cells #[.int .i64 ref.w, .int .i64 ref.h, .slice a n c] 25)).alloc (.cells #[.int .i64 p.w, .int .i64 p.h, .slice b l d] 25)) (.cells (ic m.zs) 32)
 have a4 := Ext.alloc (((w.alloc (.cells #[.int .i64 ref.w, .int .i64 ref.h, .slice a n c] 25)).alloc (.cells #[.int .i64 p.w, .int .i64 p.h, .slice b l d] 25)).alloc (.cells (ic m.zs) 32)) (.cells #[.int .i64 0, .int .i64 0, .slice none 0 0] 25)
 have p0 := a4.blk (a3.blk (a2.blk (blk_new w (.cells #[.int .i64 ref.w, .int .i64 ref.h, .slice a n c] 25))))
 have p1 := a4.blk (a3.blk (blk_new (w.alloc (.cells #[.int .i64 ref.w, .int .i64 ref.h, .slice a n c] 25)) (.cells #[.int .i64 p.w, .int .i64 p.h, .slice b l d] 25)))
 have p2 := (IB.new ((w.alloc (.cells #[.int .i64 ref.w, .int .i64 ref.h, .slice a n c] 25)).alloc (.cells #[.int .i64 p.w, .int .i64 p.h, .slice b l d] 25)) 32 m.zs).ext a4
 have p3 := blk_new (((w.alloc (.cells #[.int .i64 ref.w, .int .i64 ref.h, .slice a n c] 25)).alloc (.cells #[.int .i64 p.w, .int .i64 p.h, .slice b l d] 25)).alloc (.cells (ic m.zs) 32)) (.cells #[.int .i64 0, .int .i64 0, .slice none 0 0] 25)
 have E0 := (((Ext.alloc w (.cells #[.int .i64 ref.w, .int .i64 ref.h, .slice a n c] 25)).trans a2).trans a3).trans a4
 simp only [World.size_alloc] at p1 p2 p3
 clear a2 a3 a4
 obtain ⟨-, i0, i1, i2, -⟩ := bx3 p0
 obtain ⟨-, j0, j1, j2, -⟩ := bx3 p1
 go_enter Tryz.func11, Tryz.ntmps11
 go_wp2_with (refine wpList_iload 32 _ rfl rfl p2 0 71 rfl _ Tryz.underlying32 rfl size_Macro (by rw [Hl.out]; omega) _ (by rw [sub_all _ _ Hl.out]) ?_)
 refine (reconstructs_any ref p x y m q top a b c d n l _ Hn.out HL.out nc lc (r.ext E0) (s.ext E0) Hm.out).mono ?_
 rw [HO.out]
 rintro e w1 ⟨rfl, e1⟩
 have r1 := e1.blk p3
 have E1 := E0.trans e1
 clear p0 p1 p2 p3 E0 e1 i0 i1 i2 j0 j1 j2
 obtain ⟨-, s0, s1, s2, f0, f1, f2⟩ := bx3 r1
 have hb1 := lt_of_block r1
 have hres := blk_set3 (x' := .int .i64 0) (y' := .int .i64 0) (z' := .slice none 0 0) r1
 have hext := Ext.grown (Ext.grown (Ext.grown E1 (gr_set _ (w.heap.size + 1 + 1 + 1) 0 (.int .i64 0)) (fun k e => by cases e; omega)) (gr_set _ (w.heap.size + 1 + 1 + 1) 1 (.int .i64 0)) (fun k e => by cases e; omega)) (gr_set _ (w.heap.size + 1 + 1 + 1) 2 (.slice none 0 0)) (fun k e => by cases e; omega)
 go_wp2
 exact bodyPost_ret (v := .agg #[.int .i64 0, .int .i64 0, .slice none 0 0]) (results_cell_row rfl _ _ (w.heap.size + 1 + 1 + 1) 25 #[.int .i64 0, .int .i64 0, .slice none 0 0] (0, 0) _ rfl hres Tryz.underlying25 rfl size_Picture) rfl ⟨rfl, hext⟩
set_option maxRecDepth 100000 in
theorem impl_Reconstruct_yes (ref : Pic) (W H x y : Nat) (px : List Int) (m : Mac) (q : Nat) (top : Int) (a b : Option Addr) (c d n l : Nat) (w : World) (hT : TabQ w) (hn : n = ref.px.length) (hl : l = px.length) (nc : n ≤ 9223372036854775807) (r : Sl w a n (ref.px.map (Value.int .i64))) (s : Sl w b l (px.map (Value.int .i64))) (hm : m.ok) (ho : okR ref ⟨W, H, px⟩ x y m q top) :
 Calls Tryz.prog 11 #[.agg #[.int .i64 ref.w, .int .i64 ref.h, .slice a n c], .agg #[.int .i64 W, .int .i64 H, .slice b l d], .int .i64 (x : Nat), .int .i64 (y : Nat), .agg (ic m.zs), .int .i64 q, .int .i64 top] w fun e w' => ∃ a' c', e = .returned (.agg #[.int .i64 W, .int .i64 H, .slice a' l c']) ∧ w'.ownsRow w.heap.size 3 1 (.slice a' l c') l ((bldS ref ⟨W, H, px⟩ x y m q top 4).map (Value.int .i64)) ∧ Ext w w' := by
 have hlen := Pic.len_le ho.1.1
 simp only at hlen
 rw [← hl] at hlen
 have Hn := Lib.hid hn
 have HL := Lib.hid hl
 have Hm := Lib.hid hm
 have Hl := Lib.hid (Mac.zs_len hm)
 have Hok := Lib.hid ho
 have HO := Lib.hid (show decide (okR ref ⟨W, H, px⟩ x y m q top) = true from decide_eq_true ho)
 have hq : q < 16 := by have := ho.2.2.1; omega
 have ht0 : 0 ≤ top := ho.2.2.2.1.1
 clear hn hl hm ho
 have a2 := Ext.alloc (w.alloc (.cells #[.int .i64 ref.w, .int .i64 ref.h, .slice a n c] 25)) (.cells #[.int .i64 W, .int .i64 H, .slice b l d] 25)
 have a3 := Ext.alloc ((w.alloc (.cells #[.int .i64 ref.w, .int .i64 ref.h, .slice a n c] 25)).alloc (.cells #[.int .i64 W, .int .i64 H, .slice b l d] 25)) (.cells (ic m.zs) 32)
 have a4 := Ext.alloc (((w.alloc (.cells #[.int .i64 ref.w, .int .i64 ref.h, .slice a n c] 25)).alloc (.cells #[.int .i64 W, .int .i64 H, .slice b l d] 25)).alloc (.cells (ic m.zs) 32)) (.cells #[.int .i64 0, .int .i64 0, .slice none 0 0] 25)
 have p0 := a4.blk (a3.blk (a2.blk (blk_new w (.cells #[.int .i64 ref.w, .int .i64 ref.h, .slice a n c] 25))))
 have p1 := a4.blk (a3.blk (blk_new (w.alloc (.cells #[.int .i64 ref.w, .int .i64 ref.h, .slice a n c] 25)) (.cells #[.int .i64 W, .int .i64 H, .slice b l d] 25)))
 have p2 := (IB.new ((w.alloc (.cells #[.int .i64 ref.w, .int .i64 ref.h, .slice a n c] 25)).alloc (.cells #[.int .i64 W, .int .i64 H, .slice b l d] 25)) 32 m.zs).ext a4
 have p3 := blk_new (((w.alloc (.cells #[.int .i64 ref.w, .int .i64 ref.h, .slice a n c] 25)).alloc (.cells #[.int .i64 W, .int .i64 H, .slice b l d] 25)).alloc (.cells (ic m.zs) 32)) (.cells #[.int .i64 0, .int .i64 0, .slice none 0 0] 25)
 have E0 := (((Ext.alloc w (.cells #[.int .i64 ref.w, .int .i64 ref.h, .slice a n c] 25)).trans a2).trans a3).trans a4
 simp only [World.size_alloc] at p1 p2 p3
 clear a2 a3 a4
 obtain ⟨-, i0, i1, i2, -⟩ := bx3 p0
 obtain ⟨-, j0, j1, j2, -⟩ := bx3 p1
 go_enter Tryz.func11, Tryz.ntmps11
 go_wp2_with (refine wpList_iload 32 _ rfl rfl p2 0 71 rfl _ Tryz.underlying32 rfl size_Macro (by rw [Hl.out]; omega) _ (by rw [sub_all _ _ Hl.out]) ?_)
 refine (reconstructs_any ref ⟨W, H, px⟩ x y m q top a b c d n l _ Hn.out HL.out nc (by omega) (r.ext E0) (s.ext E0) Hm.out).mono ?_
 rw [HO.out]
 rintro e w1 ⟨rfl, e1⟩
 have q0 := e1.blk p0
 have q1 := e1.blk p1
 have q2 := p2.ext e1
 have q3 := e1.blk p3
 have E1 := E0.trans e1
 clear p0 p1 p2 p3 E0 e1 i0 i1 i2 j0 j1 j2
 obtain ⟨B, hB⟩ : ∃ B, B = w.heap.size := ⟨_, rfl⟩
 try simp only [World.size_alloc]
 rw [← hB] at q0 q1 q2 q3 ⊢
 have hwB : w.heap.size ≤ B := by omega
 have HB := Lib.hid hB
 clear hB
 obtain ⟨-, i0, i1, i2, -⟩ := bx3 q0
 obtain ⟨-, j0, j1, j2, -⟩ := bx3 q1
 have hb1 := lt_of_block q3
 go_wp2_with fail
 refine (clone_any W H b d l px _ (by omega) (s.ext E1)).mono ?_
 rintro e wa ⟨a1, c1, rfl, own1, e2⟩
 have r0 := e2.blk q0
 have r1 := e2.blk q1
 have r2 := q2.ext e2
 have r3 := e2.blk q3
 have E2 := E1.trans e2
 clear q0 q1 q2 q3 E1 e2 i0 i1 i2 j0 j1 j2
 have hgo : ∃ g, a1 = some ⟨g, 0, none⟩ ∧ g < wa.heap.size ∧ w1.heap.size ≤ g := by
  rcases own1.2 with ⟨-, h0⟩ | ⟨g, cc, cur, hv, hb, hb2, -⟩
  ·omega
  ·simp only [Value.slice.injEq] at hv
   exact ⟨g, hv.1, lt_of_block hb2, hb⟩
 obtain ⟨g, rfl, hg1, hg2⟩ := hgo
 have a5 := Ext.alloc wa (.cells #[.int .i64 W, .int .i64 H, .slice (some ⟨g, 0, none⟩) l c1] 25)
 have z0 := a5.blk r0
 have z1 := a5.blk r1
 have z2 := r2.ext a5
 have z3 := a5.blk r3
 have z4 := blk_new wa (.cells #[.int .i64 W, .int .i64 H, .slice (some ⟨g, 0, none⟩) l c1] 25)
 have own2 := owns_ext own1 a5
 have E3 := E2.trans a5
 have hO := lt_of_block r3
 obtain ⟨O, hOe⟩ : ∃ O, O = wa.heap.size := ⟨_, rfl⟩
 rw [← hOe] at z4 hg1 hO
 have HO2 := Lib.hid hOe
 clear r0 r1 r2 r3 own1 E2 a5
 obtain ⟨-, i0, i1, i2, -⟩ := bx3 z0
 obtain ⟨-, o0, o1, o2, -⟩ := bx3 z4
 have hOlt := lt_of_block z4
 go_upto_region 4 with fail
 rw [← hOe]
 clear hOe
 generalize wa.alloc (.cells #[.int .i64 W, .int .i64 H, .slice (some ⟨g, 0, none⟩) l c1] 25) = w2 at *
 go_wp2_with (refine wpList_iload 32 _ rfl rfl z2 0 71 rfl _ Tryz.underlying32 rfl size_Macro (by rw [Hl.out]; omega) _ (by rw [sub_all _ _ Hl.out]) ?_)
 have hT0 := World.block_lt_of_cell? w _ (hT 0 (by omega))
 have hrz : ¬ m.kind = 2 → ∀ z, a = some z → z.block ≠ g := fun hk z hz => by
  have h9 := Pic.len_le (okR_ref Hok.out hk)
  rw [← Hn.out] at h9
  have := sl_bound r z hz (by omega)
  omega
 refine (rebuild_any ref W H x y px m q top a n c w1.heap.size g l c1 _ (hT.ext E3) (by simp only at hT0; omega) own2 Hok.out.1 Hm.out Hok.out.2.1 hq (fun hk => okR_ref Hok.out hk) Hn.out (r.ext E3) hrz).mono ?_
 rintro e w3 ⟨rfl, own3, g3⟩
 have y3 := blk_gr z3 g3 (by simp; omega)
 have y4 := blk_gr z4 g3 (by simp; omega)
 have hs1 : B ≤ w1.heap.size := by omega
 have E4 : Ext w w3 := Ext.grown E3 g3 (fun k e => by cases e; omega)
 clear z0 z1 z2 z3 z4 own2 E3 g3 i0 i1 i2 o0 o1 o2
 obtain ⟨-, o0, o1, o2, -⟩ := bx3 y4
 obtain ⟨-, r0, r1, r2, f0, f1, f2⟩ := bx3 y3
 have Y3 := Lib.hid y3
 clear y3 y4
 go_wp2
 have hres := blk_set3 (x' := .int .i64 W) (y' := .int .i64 H) (z' := .slice (some ⟨g, 0, none⟩) l c1) Y3.out
 have hown := own_gr (own_gr (own_gr own3 (gr_set _ (B + 1 + 1 + 1) 0 (.int .i64 W)) (by omega)) (gr_set _ (B + 1 + 1 + 1) 1 (.int .i64 H)) (by omega)) (gr_set _ (B + 1 + 1 + 1) 2 (.slice (some ⟨g, 0, none⟩) l c1)) (by omega)
 have hext := Ext.grown (Ext.grown (Ext.grown E4 (gr_set _ (B + 1 + 1 + 1) 0 (.int .i64 W)) (fun k e => by cases e; omega)) (gr_set _ (B + 1 + 1 + 1) 1 (.int .i64 H)) (fun k e => by cases e; omega)) (gr_set _ (B + 1 + 1 + 1) 2 (.slice (some ⟨g, 0, none⟩) l c1)) (fun k e => by cases e; omega)
 exact bodyPost_ret (v := .agg #[.int .i64 W, .int .i64 H, .slice (some ⟨g, 0, none⟩) l c1]) (results_cell_row rfl _ _ (B + 1 + 1 + 1) 25 #[.int .i64 W, .int .i64 H, .slice (some ⟨g, 0, none⟩) l c1] (0, 0) _ rfl hres Tryz.underlying25 rfl size_Picture) rfl ⟨_, _, rfl, owns_mono hown (by omega), hext⟩
theorem impl_Reconstruct_any (ref p : Pic) (x y : Int) (m : Mac) (q top : Int) (a b : Option Addr) (c d n l : Nat) (w : World) (hT : TabQ w) (hn : n = ref.px.length) (hl : l = p.px.length) (nc : n ≤ 9223372036854775807) (lc : l ≤ 9223372036854775807) (r : Sl w a n (ref.px.map (Value.int .i64))) (s : Sl w b l (p.px.map (Value.int .i64))) (hm : m.ok) :
 Calls Tryz.prog 11 #[.agg #[.int .i64 ref.w, .int .i64 ref.h, .slice a n c], .agg #[.int .i64 p.w, .int .i64 p.h, .slice b l d], .int .i64 x, .int .i64 y, .agg (ic m.zs), .int .i64 q, .int .i64 top] w fun e w' => ∃ a' c', e = .returned (.agg #[.int .i64 (recP ref p x y m q top).w, .int .i64 (recP ref p x y m q top).h, .slice a' (recP ref p x y m q top).px.length c']) ∧ w'.ownsRow w.heap.size 3 1 (.slice a' (recP ref p x y m q top).px.length c') (recP ref p x y m q top).px.length ((recP ref p x y m q top).px.map (Value.int .i64)) ∧ Ext w w' := by
 unfold recP
 by_cases ho : okR ref p x y m q top
 ·rw [if_pos ho]
  obtain ⟨W, hW⟩ : ∃ W : Nat, p.w = W := ⟨p.w.toNat, by have := ho.1.1.1.1; omega⟩
  obtain ⟨H, hH⟩ : ∃ H : Nat, p.h = H := ⟨p.h.toNat, by have := ho.1.1.2.1.1; omega⟩
  obtain ⟨pw, ph, px⟩ := p
  simp only at hW hH hl s ho ⊢
  subst hW hH
  have x0 := ho.1.2.1
  have y0 := ho.1.2.2.2.2.1
  have q0 := ho.2.2.1.1
  have h2 := impl_Reconstruct_yes ref W H x.toNat y.toNat px m q.toNat top a b c d n l w hT hn hl nc r s hm (by rw [show ((x.toNat : Nat) : Int) = x by omega, show ((y.toNat : Nat) : Int) = y by omega, show ((q.toNat : Nat) : Int) = q by omega]; exact ho)
  rw [show ((x.toNat : Nat) : Int) = x by omega, show ((y.toNat : Nat) : Int) = y by omega, show ((q.toNat : Nat) : Int) = q by omega] at h2
  have hbl := bldS_len ref ⟨W, H, px⟩ x.toNat y.toNat m q.toNat top 4
  simp only at hbl
  simp only [hbl, ← hl]
  exact h2
 ·rw [if_neg ho]
  refine (impl_Reconstruct_no ref p x y m q top a b c d n l w hT hn hl nc lc r s hm ho).mono ?_
  rintro e w' ⟨rfl, e1⟩
  exact ⟨none, 0, rfl, World.ownsRow_nil _ _ _ _, e1⟩
end Go.Proofs.YtbnhaegidfbgbaaGreatDoor
namespace Go.Proofs.YtbnhaegidfbgbaaGreatDoor
open Go.RowKit
set_option maxHeartbeats 1000000
/-- The row of the j-th number of diagonal d. -/
def scRow (d j : Nat) : Nat := if d % 2 = 0 then d - j else j
def scStep (d j : Nat) (s : Nat × List Int) : Nat × List Int := if scRow d j < 4 ∧ d - scRow d j < 4 then (s.1 + 1, s.2.set s.1 (4 * (scRow d j : Int) + ((d - scRow d j : Nat) : Int))) else (s.1, s.2)
def scIn (d : Nat) (s : Nat × List Int) : Nat → Nat × List Int
 | 0 => s
 | j + 1 => scStep d j (scIn d s j)
def scOut : Nat → Nat × List Int
 | 0 => (0, zl 16)
 | d + 1 => scIn d (scOut d) (d + 1)
/-- The order. -/
def scanL : List Int := [0, 1, 4, 8, 5, 2, 3, 6, 9, 12, 13, 10, 7, 11, 14, 15]
theorem scOut_all : scOut 7 = (16, scanL) := by decide
theorem sc_len : ∀ d, d < 7 → ∀ j, j ≤ d + 1 → (scIn d (scOut d) j).2.length = 16 ∧ (scIn d (scOut d) j).1 ≤ 16 ∧ (j < d + 1 → scRow d j < 4 ∧ d - scRow d j < 4 → (scIn d (scOut d) j).1 < 16) := by decide
theorem zero_A16s : (Tryz.prog.info? 29).map (·.zero) = some (some (.agg (ic (zl 16)))) := by kernel_rfl
theorem size_A16s : (Tryz.prog.info? 29).map (·.size) = some 16 := by kernel_rfl
set_option maxRecDepth 100000 in
theorem scanOrder_any (w : World) :
 Calls Tryz.prog 149 #[] w fun e w' => e = .returned (.agg (ic scanL)) ∧ Ext w w' := by
 go_enter Tryz.func149, Tryz.ntmps149
 have r0 := (IB.new w 29 (zl 16)).alloc (.cells (ic (zl 16)) 29)
 have p0 := IB.new (w.alloc (.cells (ic (zl 16)) 29)) 29 (zl 16)
 have E0 := (Ext.alloc w (.cells (ic (zl 16)) 29)).trans (Ext.alloc _ (.cells (ic (zl 16)) 29))
 simp only [World.size_alloc] at p0
 go_wp2_with (refine wpList_iallocz 29 rfl rfl 16 zero_A16s ?_; (try simp only [World.size_alloc]))
 go_loopw [2, 7] (fun n i wr => ∃ d : Nat, d ≤ 7 ∧ i = .int .i64 d ∧ n = .int .i64 ((scOut d).1 : Nat) ∧ Ext w wr ∧ IB wr w.heap.size 29 (zl 16) ∧ IB wr (w.heap.size + 1) 29 (scOut d).2) (fun _ i _ => 7 - (intOf i).toNat)
 case atStart => exact ⟨0, by omega, rfl, rfl, E0, r0, p0⟩
 case round =>
  obtain ⟨d, hd, rfl, rfl, E1, r1, p1⟩ := hrel
  clear E0 r0 p0
  by_cases hlt : d < 7
  ·have hd7 : decide ((d : Int) < 7) = true := by simp; omega
   go_wp2_with fail
   go_loopw [2, 12] (fun n i wr => ∃ j : Nat, j ≤ d + 1 ∧ i = .int .i64 j ∧ n = .int .i64 ((scIn d (scOut d) j).1 : Nat) ∧ Ext w wr ∧ IB wr w.heap.size 29 (zl 16) ∧ IB wr (w.heap.size + 1) 29 (scIn d (scOut d) j).2) (fun _ i _ => d + 1 - (intOf i).toNat)
   case atStart => exact ⟨0, by omega, rfl, rfl, E1, r1, p1⟩
   case round =>
    obtain ⟨j, hj, rfl, rfl, E2, r2, p2⟩ := hrel
    clear E1 r1 p1
    by_cases hlt2 : j < d + 1
    ·have hdj : decide ((j : Int) < (d : Int) + 1) = true := by simp; omega
     obtain ⟨l1, l2, l3⟩ := sc_len d hlt j hj
     have hst : scIn d (scOut d) (j + 1) = scStep d j (scIn d (scOut d) j) := rfl
     unfold scStep at hst
     obtain ⟨n, hn⟩ : ∃ n, n = (scIn d (scOut d) j).1 := ⟨_, rfl⟩
     obtain ⟨zs, hzs⟩ : ∃ zs, zs = (scIn d (scOut d) j).2 := ⟨_, rfl⟩
     rw [← hn, ← hzs] at hst
     rw [← hn] at l2 l3 ⊢
     rw [← hzs] at l1 p2
     have Hst := Lib.hid hst
     have L1 := Lib.hid l1
     have L3 := Lib.hid (l3 hlt2)
     clear hst hn hzs l1 l3
     obtain ⟨rw', hrw⟩ : ∃ r, r = scRow d j := ⟨_, rfl⟩
     rw [← hrw] at Hst L3
     have hrle : rw' ≤ d := by rw [hrw]; unfold scRow; split <;> omega
     have hfr := p2.frozen n
     by_cases hev : d % 2 = 0
     ·have he : rw' = d - j := by rw [hrw]; unfold scRow; rw [if_pos hev]
      have hm : ((d : Int) % 2 == 0) = true := by simp; omega
      have hev2 := Lib.hid hev
      clear hev hrw
      by_cases h1 : rw' < 4
      ·have d1 : decide (((d : Int) - (j : Int)) < 4) = true := by simp; omega
       by_cases h2 : d - rw' < 4
       ·have d2 : decide (((d : Int) - ((d : Int) - (j : Int))) < 4) = true := by simp; omega
        have hn16 := L3.out ⟨h1, h2⟩
        have hc := p2.cell (i := n) (by rw [L1.out]; exact hn16)
        have hst := Hst.out
        rw [if_pos ⟨h1, h2⟩] at hst
        have hv : 4 * ((d : Int) - (j : Int)) + ((d : Int) - ((d : Int) - (j : Int))) = 4 * (rw' : Int) + ((d - rw' : Nat) : Int) := by omega
        have Hv := Lib.hid hv
        have HS := Lib.hid hst
        clear hst hv Hst L3
        go_wp2
        go_roundw
        case rel => exact ⟨j + 1, by omega, by go_num, by rw [HS.out]; simp, Ext.grown E2 (gr_set _ _ _ _) (fun q hq => by cases hq; omega), r2.set_other (by omega), by rw [HS.out, ← Hv.out]; exact p2.set n _⟩
        case measure => simp [intOf]; omega
       ·have d2 : decide (((d : Int) - ((d : Int) - (j : Int))) < 4) = false := by simp; omega
        have hst := Hst.out
        rw [if_neg (fun h => h2 h.2)] at hst
        have HS := Lib.hid hst
        clear hst Hst L3
        go_wp2
        go_roundw
        case rel => exact ⟨j + 1, by omega, by go_num, by rw [HS.out], E2, r2, by rw [HS.out]; exact p2⟩
        case measure => simp [intOf]; omega
      ·have d1 : decide (((d : Int) - (j : Int)) < 4) = false := by simp; omega
       have hst := Hst.out
       rw [if_neg (fun h => h1 h.1)] at hst
       have HS := Lib.hid hst
       clear hst Hst L3
       go_wp2
       go_roundw
       case rel => exact ⟨j + 1, by omega, by go_num, by rw [HS.out], E2, r2, by rw [HS.out]; exact p2⟩
       case measure => simp [intOf]; omega
     ·have he : rw' = j := by rw [hrw]; unfold scRow; rw [if_neg hev]
      have hm : ((d : Int) % 2 == 0) = false := by simp; omega
      have hev2 := Lib.hid hev
      clear hev hrw
      by_cases h1 : rw' < 4
      ·have d1 : decide ((j : Int) < 4) = true := by simp; omega
       by_cases h2 : d - rw' < 4
       ·have d2 : decide (((d : Int) - (j : Int)) < 4) = true := by simp; omega
        have hn16 := L3.out ⟨h1, h2⟩
        have hc := p2.cell (i := n) (by rw [L1.out]; exact hn16)
        have hst := Hst.out
        rw [if_pos ⟨h1, h2⟩] at hst
        have hv : 4 * (j : Int) + ((d : Int) - (j : Int)) = 4 * (rw' : Int) + ((d - rw' : Nat) : Int) := by omega
        have Hv := Lib.hid hv
        have HS := Lib.hid hst
        clear hst hv Hst L3
        go_wp2
        go_roundw
        case rel => exact ⟨j + 1, by omega, by go_num, by rw [HS.out]; simp, Ext.grown E2 (gr_set _ _ _ _) (fun q hq => by cases hq; omega), r2.set_other (by omega), by rw [HS.out, ← Hv.out]; exact p2.set n _⟩
        case measure => simp [intOf]; omega
       ·have d2 : decide (((d : Int) - (j : Int)) < 4) = false := by simp; omega
        have hst := Hst.out
        rw [if_neg (fun h => h2 h.2)] at hst
        have HS := Lib.hid hst
        clear hst Hst L3
        go_wp2
        go_roundw
        case rel => exact ⟨j + 1, by omega, by go_num, by rw [HS.out], E2, r2, by rw [HS.out]; exact p2⟩
        case measure => simp [intOf]; omega
      ·have d1 : decide ((j : Int) < 4) = false := by simp; omega
       have hst := Hst.out
       rw [if_neg (fun h => h1 h.1)] at hst
       have HS := Lib.hid hst
       clear hst Hst L3
       go_wp2
       go_roundw
       case rel => exact ⟨j + 1, by omega, by go_num, by rw [HS.out], E2, r2, by rw [HS.out]; exact p2⟩
       case measure => simp [intOf]; omega
    ·obtain rfl : j = d + 1 := by omega
     have hdj : decide (((d + 1 : Nat) : Int) < (d : Int) + 1) = false := by simp
     go_wp2
     go_roundw
     case rel => exact ⟨d + 1, by omega, by go_num, rfl, E2, r2, p2⟩
     case measure => simp [intOf]; omega
  ·obtain rfl : d = 7 := by omega
   rw [scOut_all] at p1
   replace p1 : IB wr (w.heap.size + 1) 29 scanL := p1
   go_wp2_with (first | (refine wpList_iload 29 _ rfl rfl p1 0 16 rfl _ Tryz.underlying29 rfl size_A16s (by simp [scanL]) _ (by rw [sub_all scanL 16 rfl]) ?_) | (refine wpList_istore 29 _ _ rfl rfl r1 0 16 rfl _ rfl scanL rfl size_A16s rfl (by simp [zl]) ?_; intro wf pf gf; refine Hid.out ?_))
   rw [spl_all (by simp [zl, scanL])] at pf
   have Ef : Ext w wf := Ext.grown E1 gf (fun q hq => by cases hq; omega)
   refine Lib.hid ?_
   go_wp2
   exact bodyPost_ret (v := .agg (ic scanL)) (results_cell_row rfl _ _ w.heap.size 29 (ic scanL) (0, 0) _ rfl pf Tryz.underlying29 rfl (by rw [ic_size]; exact size_A16s)) rfl ⟨rfl, Ef⟩
end Go.Proofs.YtbnhaegidfbgbaaGreatDoor
namespace Go.Proofs.YtbnhaegidfbgbaaGreatDoor
open Go.RowKit
set_option maxHeartbeats 1000000
/-- Not a block of type T. -/
def notT (T : TypeId) (o : Obj) : Prop := ∀ cs fr, o ≠ .cells cs T fr
/-- Nothing below B changed, and of the rest only rows of type T. -/
structure FR (B T : Nat) (w w' : World) : Prop where
 lo : Below B w w'
 ot : ∀ (i : Nat) (o : Obj), w.heap[i]? = some o → notT T o → w'.heap[i]? = some o
theorem FR.refl (B T : Nat) (w : World) : FR B T w w := ⟨Below.refl _ _, fun _ _ h _ => h⟩
theorem FR.trans {B T : Nat} {a b c : World} (h : FR B T a b) (k : FR B T b c) : FR B T a c := ⟨h.lo.trans k.lo, fun i o h1 h2 => k.ot i o (h.ot i o h1 h2) h2⟩
theorem FR.of_ext {B T : Nat} {w w' : World} (h : Ext w w') (hB : B ≤ w.heap.size) : FR B T w w' := ⟨h.mono hB, fun _ _ h1 _ => h.blk h1⟩
theorem FR.of_row {B T s n : Nat} {v : Value} {xs : List Value} {w w' : World} (o : w.ownsRow B T s v n xs) (g : w.grownBy w' v.ownBlock) (hB : B ≤ w.heap.size) : FR B T w w' := by
 have hge := owns_ge o
 refine ⟨⟨g.os, g.tape, g.output, g.size, fun k hk => g.block k (by omega) (fun e => by have := hge k e.symm; omega)⟩, fun i ob h1 h2 => ?_⟩
 refine (g.block i (lt_of_block h1) (fun e => ?_)).trans h1
 rcases o.2 with ⟨rfl, -⟩ | ⟨b, cap, cur, rfl, -, hb, -⟩
 ·cases e
 ·cases e
  rw [hb] at h1
  cases h1
  exact h2 _ _ rfl
theorem FR.size {B T : Nat} {w w' : World} (h : FR B T w w') : w.heap.size ≤ w'.heap.size := h.lo.size
theorem FR.ext {B T : Nat} {a w w' : World} (h : Ext a w) (f : FR B T w w') (hB : a.heap.size ≤ B) : Ext a w' := Below.trans h (f.lo.mono hB)
theorem FR.ib {B T U b : Nat} {zs : List Int} {w w' : World} (f : FR B T w w') (h : IB w b U zs) (hne : U ≠ T) : IB w' b U zs := f.ot b _ h (fun cs fr e => by cases e; exact hne rfl)
theorem FR.blk {B T U b : Nat} {cs : Array Value} {fr : Nat × Nat} {w w' : World} (f : FR B T w w') (h : w.heap[b]? = some (.cells cs U fr)) (hne : U ≠ T) : w'.heap[b]? = some (.cells cs U fr) := f.ot b _ h (fun cs fr e => by cases e; exact hne rfl)
theorem FR.keeps {B T : Nat} {w w' : World} (f : FR B T w w') : KeepsOthers w w' := ⟨f.size, fun k o h1 h2 => f.ot k o h1 (fun cs fr e => by subst e; cases h2)⟩
theorem FR.low {B T b : Nat} {o : Obj} {w w' : World} (f : FR B T w w') (h : w.heap[b]? = some o) (hb : b < B) : w'.heap[b]? = some o := (f.lo.block b hb).trans h
set_option maxRecDepth 100000 in
set_option maxHeartbeats 4000000 in
theorem len64_in (x : Int) (w : World) (h0 : 0 ≤ x) (h1 : x < 65536) :
 Calls Tryz.prog 168 #[.int .u64 x] w fun e w' => e = .returned (.int .i64 (Lib.bitLen x.toNat)) ∧ w' = w := by
 by_cases hc : x < 256
 ·have h2 : x ≤ 255 := by omega
  have l := Lib.bitLen_le8' x h0 h2
  have e8 := Lib.len8_of x h0 h2
  go_enter Tryz.func168, Tryz.ntmps168
  go_wp2
  go_ret
  refine ⟨congrArg Ending.returned (congrArg (Value.int IntKind.i64) ?_), rfl⟩
  first | rfl | (unfold wrap64; omega)
 ·have h2 : 0 ≤ x / 256 := by omega
  have h3 : x / 256 ≤ 255 := by omega
  have l := Lib.bitLen_le8' (x / 256) h2 h3
  have e8 := Lib.len8_of (x / 256) h2 h3
  have s := Lib.bitLen_shift8 x.toNat (by omega) (by omega)
  have e : (x / 256).toNat = x.toNat / 256 := by omega
  rw [e] at l e8
  go_enter Tryz.func168, Tryz.ntmps168
  go_wp2
  go_ret
  refine ⟨congrArg Ending.returned (congrArg (Value.int IntKind.i64) ?_), rfl⟩
  first | rfl | (unfold wrap64; omega)
theorem len_in (x : Int) (w : World) (h0 : 0 ≤ x) (h1 : x < 65536) :
 Calls Tryz.prog 147 #[.int .u64 x] w fun e w' => e = .returned (.int .i64 (Lib.bitLen x.toNat)) ∧ w = w' := by
 have hw : IntKind.u64.wrap x = x := by rw [IntKind.wrap_u64]; omega
 go_enter Tryz.func147, Tryz.ntmps147
 go_wp2_with fail
 refine (len64_in x _ h0 h1).mono ?_
 rintro e w1 ⟨rfl, rfl⟩
 go_wp2
 go_ret
 exact ⟨rfl, rfl⟩
theorem bitLen_of {x k : Nat} (h1 : 2 ^ k ≤ x) (h2 : x < 2 ^ (k + 1)) (h3 : x < 2 ^ 64) : Lib.bitLen x = k + 1 := by
 rw [Lib.bitLen_shift k x h1 h3]
 have hp : 0 < 2 ^ k := Nat.pow_pos (by decide)
 have e : x / 2 ^ k = 1 := by
  rw [Nat.pow_succ] at h2
  exact (Nat.div_eq_iff hp).2 ⟨by omega, by omega⟩
 rw [e]
 rfl
/-- One less than the number of binary digits of n + 1. -/
def kOf (n : Nat) : Nat := Nat.log2 (n + 1)
theorem kOf_lo (n : Nat) : 2 ^ kOf n ≤ n + 1 := Nat.log2_self_le (by omega)
theorem kOf_hi (n : Nat) : n + 1 < 2 ^ (kOf n + 1) := Nat.lt_log2_self
theorem kOf_le {n : Nat} (h : n < 32768) : kOf n ≤ 15 := by
 have h1 := kOf_lo n
 refine Classical.byContradiction fun hk => ?_
 have h2 := Nat.pow_le_pow_right (show 0 < 2 by decide) (show 16 ≤ kOf n by omega)
 have : (2 : Nat) ^ 16 = 65536 := by decide
 omega
/-- The first i decisions: k times 1, and 0. -/
def upL (b k : Nat) : Nat → List Int
 | 0 => []
 | i + 1 => upL b k i ++ [((b + min i 5 : Nat) : Int), if i = k then 0 else 1]
/-- The k digits behind the first one, down to digit j. -/
def dnL (m b k : Nat) : Nat → List Int
 | 0 => []
 | j + 1 => dnL m b k j ++ [((b + 6 : Nat) : Int), ((m / 2 ^ (k - 1 - j) % 2 : Nat) : Int)]
def numL (n b : Nat) : List Int := upL b (kOf n) (kOf n + 1) ++ dnL (n + 1) b (kOf n) (kOf n)
/-- How many decisions there are. -/
def numN (n : Nat) : Nat := 2 * kOf n + 1
theorem numN_le {n : Nat} (h : n < 32768) : numN n ≤ 31 := by have := kOf_le h; unfold numN; omega
def sidx (v : Int) : Int := if 0 < v then 2 * v - 1 else -2 * v
theorem sidx_rng {v B : Int} (h1 : -B ≤ v) (h2 : v ≤ B) : 0 ≤ sidx v ∧ sidx v ≤ 2 * B := by unfold sidx; split <;> omega
theorem impl_SignedIndex_in (v : Int) (w : World) (h1 : -32767 ≤ v) (h2 : v ≤ 32767) :
 Calls Tryz.prog 107 #[.int .i64 v] w fun e w' => e = .returned (.int .i64 (sidx v)) ∧ w = w' := by
 unfold sidx
 go_enter Tryz.func107, Tryz.ntmps107
 by_cases hc : 0 < v
 ·rw [if_pos hc]
  go_wp2
  go_ret
  first | exact ⟨rfl, rfl⟩ | exact ⟨by simp; omega, rfl⟩
 ·rw [if_neg hc]
  go_wp2
  go_ret
  first | exact ⟨rfl, rfl⟩ | exact ⟨by simp; omega, rfl⟩
theorem spec_SignedIndex_in (v : Int) (w : World) (h1 : -32767 ≤ v) (h2 : v ≤ 32767) :
 Calls Tryz.prog 145 #[.int .i64 v] w fun e w' => e = .returned (.int .i64 (sidx v)) ∧ w = w' := by
 unfold sidx
 go_enter Tryz.func145, Tryz.ntmps145
 by_cases hc : 0 < v
 ·rw [if_pos hc]
  go_wp2_with fail
  refine (l1In_yes v (-32767) 32767 _ h1 h2).mono ?_
  rintro e w1 ⟨rfl, rfl⟩
  go_wp2
  go_ret
  first | exact ⟨rfl, rfl⟩ | exact ⟨by simp; omega, rfl⟩
 ·rw [if_neg hc]
  go_wp2_with fail
  refine (l1In_yes v (-32767) 32767 _ h1 h2).mono ?_
  rintro e w1 ⟨rfl, rfl⟩
  go_wp2
  go_ret
  first | exact ⟨rfl, rfl⟩ | exact ⟨by simp; omega, rfl⟩
end Go.Proofs.YtbnhaegidfbgbaaGreatDoor
namespace Go.Proofs.YtbnhaegidfbgbaaGreatDoor
open Go.RowKit
set_option maxHeartbeats 1000000
theorem info_Bin : (Tryz.prog.info? 133).map (fun i => (i.zero, i.size, i.bytes)) = some (some (.agg #[.int .i64 0, .int .i64 0]), 2, 16) := by kernel_rfl
theorem bin_new (w : World) (c b : Int) : Sl (w.alloc (.cells #[.int .i64 c, .int .i64 b] 133)) (some ⟨w.heap.size, 0, none⟩) 2 [.int .i64 c, .int .i64 b] := Sl_new w [.int .i64 c, .int .i64 b] 133
theorem i64_and_one (a : Nat) (ha : a < 9223372036854775808) : bits .and .i64 (a : Int) 1 = ((a % 2 : Nat) : Int) := by
 show IntKind.i64.wrap ((BitVec.ofInt 64 (a : Int) &&& BitVec.ofInt 64 ((1 : Nat) : Int)).toNat : Int) = _
 rw [BitVec.toNat_and, i64_nat_ofInt a ha, i64_nat_ofInt 1 (by decide), Nat.and_one_is_mod, IntKind.wrap_i64]
 omega
theorem ownc {w : World} {b e s n : Nat} {v : Value} {xs ys : List Value} (h : w.ownsRow b e s v n xs) (he : xs = ys) : w.ownsRow b e s v n ys := he ▸ h
set_option maxRecDepth 100000 in
theorem appendNumber_any (v : Value) (N : Nat) (xs : List Int) (n b B : Nat) (w : World) (own : w.ownsRow B 133 2 v N (xs.map (Value.int .i64))) (hB : B ≤ w.heap.size) (hN : N ≤ 1000000) (hn : n < 32768) (hb : b ≤ 100) :
 Calls Tryz.prog 106 #[v, .int .i64 n, .int .i64 b] w fun e w' => ∃ a c, e = .returned (.slice a (N + numN n) c) ∧ w'.ownsRow B 133 2 (.slice a (N + numN n) c) (N + numN n) ((xs ++ numL n b).map (Value.int .i64)) ∧ FR B 133 w w' := by
 obtain ⟨k, hk⟩ : ∃ k, k = kOf n := ⟨_, rfl⟩
 have hk15 := kOf_le hn
 have hbl := bitLen_of (kOf_lo n) (kOf_hi n) (by omega)
 rw [← hk] at hk15 hbl
 have HK := Lib.hid (show numL n b = upL b k (k + 1) ++ dnL (n + 1) b k k by rw [hk]; rfl)
 have HKN := Lib.hid (show numN n = 2 * k + 1 by rw [hk]; rfl)
 have hw : IntKind.u64.wrap ((n : Int) + 1) = ((n + 1 : Nat) : Int) := by rw [IntKind.wrap_u64]; omega
 have F0 := FR.refl B 133 w
 clear hk
 go_enter Tryz.func106, Tryz.ntmps106
 go_wp2_with fail
 refine (len_in ((n : Int) + 1) _ (by omega) (by omega)).mono ?_
 rintro e w1 ⟨rfl, rfl⟩
 rw [show ((n : Int) + 1).toNat = n + 1 by omega, hbl]
 clear hbl hw
 have hkk : ((k + 1 : Nat) : Int) - 1 = k := by omega
 go_wp2_with fail
 go_loopw [0, 18] (fun v y wr => ∃ i : Nat, i ≤ k + 1 ∧ y = .int .i64 i ∧ wr.ownsRow B 133 2 v (N + i) ((xs ++ upL b k i).map (Value.int .i64)) ∧ FR B 133 w wr) (fun _ y _ => k + 1 - (intOf y).toNat)
 case atStart => exact ⟨0, by omega, rfl, by simpa [upL] using own, F0⟩
 case round =>
  obtain ⟨i, hi, rfl, o1, F1⟩ := hrel
  clear own F0
  obtain ⟨a1, c1, rfl⟩ := owns_form o1
  have hB1 := Nat.le_trans hB F1.size
  by_cases hlt : i < k + 1
  ·have hd : decide ((i : Int) < (k : Int) + 1) = true := by simp; omega
   by_cases hik : i = k
   ·subst hik
    have HNX := Lib.hid (show upL b i (i + 1) = upL b i i ++ [(b : Int) + min (i : Int) 5, 0] by rw [upL, if_pos rfl]; congr 2; omega)
    have hd2 : ((i : Int) == (i : Int)) = true := by simp
    go_wp2_with (at_builtin; go_loud (refine wpList_appk _ rfl (o1.alloc _) (by simp; omega) _ _ 40 rfl (.agg #[.int .i64 0, .int .i64 0]) 16 Tryz.underlying40 info_Bin rfl (by decide) rfl ⟨wr.heap.size, 0, none⟩ 1 1 [.int .i64 _, .int .i64 _] rfl rfl ((bin_new wr _ _).cellsOf _ (by simp)) (by intro u hu; simp at hu; rcases hu with rfl | rfl <;> rfl) (by omega) (by omega) ?_; intro v2 w2 own2 gr2 _; refine Hid.out ?_))
    all_goals
     refine Lib.hid ?_
     obtain ⟨a2, c2, rfl⟩ := owns_form own2
     have F2 := (F1.trans (FR.of_ext (Ext.alloc wr (.cells #[_, _] 133)) hB1)).trans (FR.of_row (o1.alloc _) gr2 (by simp; omega))
     go_wp2
     go_roundw
     case rel => exact ⟨i + 1, by omega, by go_num, ownc own2 (by rw [HNX.out]; simp), F2⟩
     case measure => simp [intOf] <;> omega
   ·have HNX := Lib.hid (show upL b k (i + 1) = upL b k i ++ [(b : Int) + min (i : Int) 5, 1] by rw [upL, if_neg hik]; congr 2; omega)
    have hd2 : ((i : Int) == (k : Int)) = false := by simp; omega
    go_wp2_with (at_builtin; go_loud (refine wpList_appk _ rfl (o1.alloc _) (by simp; omega) _ _ 40 rfl (.agg #[.int .i64 0, .int .i64 0]) 16 Tryz.underlying40 info_Bin rfl (by decide) rfl ⟨wr.heap.size, 0, none⟩ 1 1 [.int .i64 _, .int .i64 _] rfl rfl ((bin_new wr _ _).cellsOf _ (by simp)) (by intro u hu; simp at hu; rcases hu with rfl | rfl <;> rfl) (by omega) (by omega) ?_; intro v2 w2 own2 gr2 _; refine Hid.out ?_))
    all_goals
     refine Lib.hid ?_
     obtain ⟨a2, c2, rfl⟩ := owns_form own2
     have F2 := (F1.trans (FR.of_ext (Ext.alloc wr (.cells #[_, _] 133)) hB1)).trans (FR.of_row (o1.alloc _) gr2 (by simp; omega))
     go_wp2
     go_roundw
     case rel => exact ⟨i + 1, by omega, by go_num, ownc own2 (by rw [HNX.out]; simp), F2⟩
     case measure => simp [intOf] <;> omega
  ·have HI := Lib.hid (show i = k + 1 by omega)
   have hd : decide ((i : Int) < (k : Int) + 1) = false := by simp; omega
   go_wp2_with fail
   go_loopw [0, 10] (fun v y wr => ∃ J : Nat, J ≤ k ∧ y = .int .i64 ((J : Int) - 1) ∧ wr.ownsRow B 133 2 v (N + (k + 1) + (k - J)) ((xs ++ upL b k (k + 1) ++ dnL (n + 1) b k (k - J)).map (Value.int .i64)) ∧ FR B 133 w wr) (fun _ y _ => ((intOf y) + 1).toNat)
   case atStart => exact ⟨k, by omega, rfl, by have hI := HI.out; subst hI; simpa [dnL] using o1, F1⟩
   case round =>
    obtain ⟨J, hJ, rfl, o3, F3⟩ := hrel
    clear o1 F1 hi hlt hd
    obtain ⟨a3, c3, rfl⟩ := owns_form o3
    have hB3 := Nat.le_trans hB F3.size
    cases J with
    | zero =>
     have hd3 : decide ((0 : Int) ≤ ((0 : Nat) : Int) - 1) = false := by simp
     have hc : N + (k + 1) + (k - 0) = N + numN n := by rw [HKN.out]; omega
     have ho := Lib.hid (show (xs ++ upL b k (k + 1) ++ dnL (n + 1) b k (k - 0)) = xs ++ numL n b by rw [HK.out, ← List.append_assoc]; rfl)
     rw [hc] at o3 ⊢
     rw [ho.out] at o3
     clear hc
     go_wp2
     go_ret
     exact ⟨_, _, rfl, o3, F3⟩
    | succ J' =>
     rw [show (((J' + 1 : Nat) : Int) - 1) = (J' : Int) by omega]
     have hd3 : decide ((0 : Int) ≤ (J' : Int)) = true := by simp
     have hq : ((n : Int) + 1) / 2 ^ J' = (((n + 1) / 2 ^ J' : Nat) : Int) := by simp
     have hand := i64_and_one ((n + 1) / 2 ^ J') (by have := Nat.div_le_self (n + 1) (2 ^ J'); omega)
     rw [← hq] at hand
     clear hq
     have hkJ : k - (J' + 1) + 1 = k - J' := by omega
     have HNX := Lib.hid (show dnL (n + 1) b k (k - J') = dnL (n + 1) b k (k - (J' + 1)) ++ [(b : Int) + 6, (((n + 1) / 2 ^ J' % 2 : Nat) : Int)] by rw [← hkJ, dnL, show k - 1 - (k - (J' + 1)) = J' by omega]; congr 2)
     have HC := Lib.hid (show N + (k + 1) + (k - (J' + 1)) + 1 = N + (k + 1) + (k - J') by omega)
     clear hkJ
     go_wp2_with (at_builtin; go_loud (refine wpList_appk _ rfl (o3.alloc _) (by simp; omega) _ _ 40 rfl (.agg #[.int .i64 0, .int .i64 0]) 16 Tryz.underlying40 info_Bin rfl (by decide) rfl ⟨wr.heap.size, 0, none⟩ 1 1 [.int .i64 _, .int .i64 _] rfl rfl ((bin_new wr _ _).cellsOf _ (by simp)) (by intro u hu; simp at hu; rcases hu with rfl | rfl <;> rfl) (by omega) (by omega) ?_; intro v2 w2 own2 gr2 _; refine Hid.out ?_))
     refine Lib.hid ?_
     obtain ⟨a2, c2, rfl⟩ := owns_form own2
     have F2 := (F3.trans (FR.of_ext (Ext.alloc wr (.cells #[_, _] 133)) hB3)).trans (FR.of_row (o3.alloc _) gr2 (by simp; omega))
     rw [HC.out] at own2 ⊢
     have own3 := ownc own2 (show _ = (xs ++ upL b k (k + 1) ++ dnL (n + 1) b k (k - J')).map (Value.int .i64) by rw [HNX.out]; simp)
     clear own2 hand
     go_wp2
     go_roundw
     case rel => exact ⟨J', by omega, by go_num, own3, F2⟩
     case measure => simp [intOf] <;> omega
end Go.Proofs.YtbnhaegidfbgbaaGreatDoor
namespace Go.Proofs.YtbnhaegidfbgbaaGreatDoor
open Go.RowKit
set_option maxHeartbeats 1000000
theorem upL_one {b k : Nat} {i : Nat} (h : i < k) : upL b k (i + 1) = upL b k i ++ [(b : Int) + min (i : Int) 5, 1] := by
 rw [upL, if_neg (by omega)]; congr 2; omega
theorem upL_zero (b k : Nat) : upL b k (k + 1) = upL b k k ++ [(b : Int) + min (k : Int) 5, 0] := by
 rw [upL, if_pos rfl]; congr 2; omega
theorem pow_le15 {i : Nat} (h : i ≤ 15) : 2 ^ (i + 1) ≤ 65536 := Nat.pow_le_pow_right (by decide) (show i + 1 ≤ 16 by omega)
set_option maxRecDepth 100000 in
theorem l10Number_any (n b : Nat) (w : World) (hn : n < 32768) (hb : b ≤ 100) :
 Calls Tryz.prog 144 #[.int .i64 n, .int .i64 b] w fun e w' => ∃ a c, e = .returned (.slice a (numN n) c) ∧ w'.ownsRow w.heap.size 133 2 (.slice a (numN n) c) (numN n) ((numL n b).map (Value.int .i64)) ∧ Ext w w' := by
 obtain ⟨k, hk⟩ : ∃ k, k = kOf n := ⟨_, rfl⟩
 have hk15 := kOf_le hn
 have hlo := kOf_lo n
 have hhi := kOf_hi n
 rw [← hk] at hk15 hlo hhi
 have HK := Lib.hid (show numL n b = upL b k (k + 1) ++ dnL (n + 1) b k k by rw [hk]; rfl)
 have HKN := Lib.hid (show numN n = 2 * k + 1 by rw [hk]; rfl)
 have HLO := Lib.hid hlo
 have HHI := Lib.hid hhi
 obtain ⟨W, hW⟩ : ∃ W, W = w.heap.size := ⟨_, rfl⟩
 have F0 : FR w.heap.size 133 w (w.alloc (.cells #[] 133)) := FR.of_ext (Ext.alloc w _) (Nat.le_refl _)
 have o0 := World.ownsRow_made (base := w.heap.size) (e := 133) (size := 2) w #[] 0 (Nat.le_refl _) (by simp) rfl
 rw [← hW] at F0 o0 ⊢
 have hWw : W ≤ w.heap.size := by omega
 have HW := Lib.hid hW
 clear hk hlo hhi
 go_enter Tryz.func144, Tryz.ntmps144
 go_wp2_with fail
 rw [← hW]
 clear hW
 go_loopw [5, 6] (fun v y wr => ∃ i : Nat, i ≤ k ∧ y = .int .i64 i ∧ wr.ownsRow W 133 2 v i ((upL b k i).map (Value.int .i64)) ∧ FR W 133 w wr) (fun _ y _ => k - (intOf y).toNat)
 case atStart => exact ⟨0, by omega, rfl, by simpa [upL] using o0, F0⟩
 case round =>
  obtain ⟨i, hi, rfl, o1, F1⟩ := hrel
  clear o0 F0
  obtain ⟨a1, c1, rfl⟩ := owns_form o1
  have hB1 := Nat.le_trans hWw F1.size
  have hp := pow_le15 (show i ≤ 15 by omega)
  have hpi : (2 : Int) ^ (i + 1) = ((2 ^ (i + 1) : Nat) : Int) := by simp
  have hp0 := Nat.pow_pos (show 0 < 2 by decide) (n := i + 1)
  have hsh : wrap64 (2 * 2 ^ i) = (2 : Int) ^ (i + 1) := by
   have e : (2 : Int) * 2 ^ i = 2 ^ (i + 1) := by rw [Int.pow_succ, Int.mul_comm]
   rw [e, hpi]; unfold wrap64; omega
  have HPI := Lib.hid hpi
  clear hpi
  by_cases hlt : i < k
  ·have hd : decide ((2 : Int) ^ (i + 1) ≤ (n : Int) + 1) = true := by
    have := Nat.pow_le_pow_right (show 0 < 2 by decide) (show i + 1 ≤ k by omega)
    have := HLO.out
    rw [HPI.out]
    simp only [decide_eq_true_eq]; omega
   have HNX := Lib.hid (upL_one (b := b) hlt)
   go_wp2_with (at_builtin; go_loud (refine wpList_appk _ rfl (o1.alloc _) (by simp; omega) _ _ 40 rfl (.agg #[.int .i64 0, .int .i64 0]) 16 Tryz.underlying40 info_Bin rfl (by decide) rfl ⟨wr.heap.size, 0, none⟩ 1 1 [.int .i64 _, .int .i64 _] rfl rfl ((bin_new wr _ _).cellsOf _ (by simp)) (by intro u hu; simp at hu; rcases hu with rfl | rfl <;> rfl) (by omega) (by omega) ?_; intro v2 w2 own2 gr2 _; refine Hid.out ?_))
   refine Lib.hid ?_
   obtain ⟨a2, c2, rfl⟩ := owns_form own2
   have F2 := (F1.trans (FR.of_ext (Ext.alloc wr (.cells #[_, _] 133)) hB1)).trans (FR.of_row (o1.alloc _) gr2 (by simp; omega))
   have own3 := ownc own2 (show _ = (upL b k (i + 1)).map (Value.int .i64) by rw [HNX.out]; simp)
   clear own2 hsh
   go_wp2
   go_roundw
   case rel => exact ⟨i + 1, by omega, by go_num, own3, F2⟩
   case measure => simp [intOf] <;> omega
  ·have HI := Lib.hid (show i = k by omega)
   have hd : decide ((2 : Int) ^ (i + 1) ≤ (n : Int) + 1) = false := by
    have := HHI.out
    rw [HPI.out, HI.out]
    simp only [decide_eq_false_iff_not]; omega
   go_wp2_with (at_builtin; go_loud (refine wpList_appk _ rfl (o1.alloc _) (by simp; omega) _ _ 40 rfl (.agg #[.int .i64 0, .int .i64 0]) 16 Tryz.underlying40 info_Bin rfl (by decide) rfl ⟨wr.heap.size, 0, none⟩ 1 1 [.int .i64 _, .int .i64 _] rfl rfl ((bin_new wr _ _).cellsOf _ (by simp)) (by intro u hu; simp at hu; rcases hu with rfl | rfl <;> rfl) (by omega) (by omega) ?_; intro v2 w2 own2 gr2 _; refine Hid.out ?_))
   refine Lib.hid ?_
   obtain ⟨a2, c2, rfl⟩ := owns_form own2
   have F2 := (F1.trans (FR.of_ext (Ext.alloc wr (.cells #[_, _] 133)) hB1)).trans (FR.of_row (o1.alloc _) gr2 (by simp; omega))
   have own3 := ownc own2 (show _ = (upL b k (k + 1)).map (Value.int .i64) by rw [upL_zero, HI.out]; simp)
   clear own2 hsh hd o1 F1 hlt hi
   go_wp2_with fail
   go_loopw [5, 7] (fun v y wr => ∃ J : Nat, J ≤ k ∧ y = .int .i64 ((J : Int) - 1) ∧ wr.ownsRow W 133 2 v (k + 1 + (k - J)) ((upL b k (k + 1) ++ dnL (n + 1) b k (k - J)).map (Value.int .i64)) ∧ FR W 133 w wr) (fun _ y _ => ((intOf y) + 1).toNat)
   case atStart => exact ⟨k, by omega, by rw [HI.out]; congr 1; unfold wrap64; omega, by have hI := HI.out; subst hI; simpa [dnL] using own3, F2⟩
   case round =>
    obtain ⟨J, hJ, rfl, o3, F3⟩ := hrel
    clear own3 F2
    obtain ⟨a3, c3, rfl⟩ := owns_form o3
    have hB3 := Nat.le_trans hWw F3.size
    cases J with
    | zero =>
     have hd3 : decide ((0 : Int) ≤ ((0 : Nat) : Int) - 1) = false := by simp
     have hc : k + 1 + (k - 0) = numN n := by rw [HKN.out]; omega
     have ho := Lib.hid (show (upL b k (k + 1) ++ dnL (n + 1) b k (k - 0)) = numL n b by rw [HK.out]; rfl)
     rw [hc] at o3 ⊢
     rw [ho.out] at o3
     clear hc
     go_wp2
     go_ret
     exact ⟨_, _, rfl, o3, by show Below w.heap.size w wr; rw [← HW.out]; exact F3.lo⟩
    | succ J' =>
     rw [show (((J' + 1 : Nat) : Int) - 1) = (J' : Int) by omega]
     have hd3 : decide ((0 : Int) ≤ (J' : Int)) = true := by simp
     have hq : ((n : Int) + 1) / 2 ^ J' = (((n + 1) / 2 ^ J' : Nat) : Int) := by simp
     have hkJ : k - (J' + 1) + 1 = k - J' := by omega
     have HNX := Lib.hid (show dnL (n + 1) b k (k - J') = dnL (n + 1) b k (k - (J' + 1)) ++ [(b : Int) + 6, ((n : Int) + 1) / 2 ^ J' % 2] by rw [← hkJ, dnL, show k - 1 - (k - (J' + 1)) = J' by omega]; congr 2)
     have HC := Lib.hid (show k + 1 + (k - (J' + 1)) + 1 = k + 1 + (k - J') by omega)
     have HTM := Lib.hid (show (((n : Int) + 1) / 2 ^ J').tmod 2 = ((n : Int) + 1) / 2 ^ J' % 2 from Int.tmod_eq_emod_of_nonneg (hq ▸ Int.natCast_nonneg _))
     clear hkJ hq
     go_wp2_with (at_builtin; go_loud (refine wpList_appk _ rfl (o3.alloc _) (by simp; omega) _ _ 40 rfl (.agg #[.int .i64 0, .int .i64 0]) 16 Tryz.underlying40 info_Bin rfl (by decide) rfl ⟨wr.heap.size, 0, none⟩ 1 1 [.int .i64 _, .int .i64 _] rfl rfl ((bin_new wr _ _).cellsOf _ (by simp)) (by intro u hu; simp at hu; rcases hu with rfl | rfl <;> rfl) (by omega) (by omega) ?_; intro v2 w2 own2 gr2 _; refine Hid.out ?_))
     refine Lib.hid ?_
     obtain ⟨a2, c2, rfl⟩ := owns_form own2
     have F2 := (F3.trans (FR.of_ext (Ext.alloc wr (.cells #[_, _] 133)) hB3)).trans (FR.of_row (o3.alloc _) gr2 (by simp; omega))
     rw [HC.out] at own2 ⊢
     have own3 := ownc own2 (show _ = (upL b k (k + 1) ++ dnL (n + 1) b k (k - J')).map (Value.int .i64) by rw [HNX.out]; simp; exact HTM.out)
     clear own2
     go_wp2
     go_roundw
     case rel => exact ⟨J', by omega, by go_num, own3, F2⟩
     case measure => simp [intOf] <;> omega
end Go.Proofs.YtbnhaegidfbgbaaGreatDoor
