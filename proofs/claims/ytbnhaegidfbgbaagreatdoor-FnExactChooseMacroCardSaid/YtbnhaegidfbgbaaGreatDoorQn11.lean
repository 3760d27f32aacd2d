/- The reference's rebuild of a macroblock of a picture. | append onto a row of the call's own keeps each row no longer than it. | Pictures copied, both sides. | Reconstruct, both sides. | The program's scan order. | The length of a number in bits; rows of decisions and what stays beside them; the decisions for a number. | The reader of drawn numbers: l20Open, pick, odd. -/
import Derived.Test.YtbnhaegidfbgbaaGreatDoorQn10
import Derived.Deep.Cut
import Derived.Lib.BitFns
import Derived.Lib.Strings
import Derived.Lib.Slices
import Derived.Lib.Small
import Derived.Lib.Walk
import Derived.RangeFuncOwn
set_option linter.unusedVariables false
set_option linter.unusedSimpArgs false
namespace Go.Proofs.YtbnhaegidfbgbaaGreatDoor
open Go.RowKit
set_option maxHeartbeats 1000000
structure RS (w : World) (base g n c : Nat) (ra : Option Addr) (rn rc W H : Nat) (ref : Pic) (m : Mac) (B : Nat) (Z : List Int) (wx : World) : Prop where
 gr : w.grownBy wx (some g)
 own : wx.ownsRow base 3 1 (.slice (some ⟨g, 0, none⟩) n c) n (Z.map (Value.int .i64))
 b0 : wx.heap[B + 1]? = some (.cells #[.int .i64 W, .int .i64 H, .slice (some ⟨g, 0, none⟩) n c] 25 (0, 0))
 b1 : wx.heap[B]? = some (.cells #[.int .i64 ref.w, .int .i64 ref.h, .slice ra rn rc] 25 (0, 0))
 b2 : IB wx (B + 1 + 1) 32 m.zs
 gB : g < B
section
variable {w wx wy : World} {base g n c rn rc W H B : Nat} {ra : Option Addr} {ref : Pic} {m : Mac} {Z Z' : List Int}
theorem RS.ex (h : RS w base g n c ra rn rc W H ref m B Z wx) (e : Ext wx wy) : RS w base g n c ra rn rc W H ref m B Z wy :=
 ⟨grown_ext h.gr e, owns_ext h.own e, e.blk h.b0, e.blk h.b1, h.b2.ext e, h.gB⟩
theorem RS.drew (h : RS w base g n c ra rn rc W H ref m B Z wx) : RS w base g n c ra rn rc W H ref m B Z wx.drew := h.ex (Ext.drewN _ 1)
theorem RS.put (h : RS w base g n c ra rn rc W H ref m B Z wx) (gr : wx.grownBy wy (some g)) (own : wy.ownsRow base 3 1 (.slice (some ⟨g, 0, none⟩) n c) n (Z'.map (Value.int .i64))) : RS w base g n c ra rn rc W H ref m B Z' wy := by
 have := h.gB
 exact ⟨grownBy_trans h.gr gr, own, blk_gr h.b0 gr (by simp; omega), blk_gr h.b1 gr (by simp; omega), h.b2.gr gr (by simp; omega), h.gB⟩
theorem RS.loc {b' : Nat} (h : RS w base g n c ra rn rc W H ref m B Z wx) (gr : wx.grownBy wy (some b')) (hb : B + 1 + 1 < b') (hw : w.heap.size ≤ B) : RS w base g n c ra rn rc W H ref m B Z wy := by
 have := h.gB
 refine ⟨⟨gr.os.trans h.gr.os, gr.tape.trans h.gr.tape, gr.output.trans h.gr.output, Nat.le_trans h.gr.size gr.size, fun k hk hne => (gr.block k (Nat.lt_of_lt_of_le hk h.gr.size) (by simp; omega)).trans (h.gr.block k hk hne)⟩, h.own.kept gr (.inr (by simp [Value.ownBlock]; omega)), blk_gr h.b0 gr (by simp; omega), blk_gr h.b1 gr (by simp; omega), h.b2.gr gr (by simp; omega), h.gB⟩
end
set_option maxRecDepth 100000 in
set_option maxHeartbeats 4000000 in
theorem l8Build_I (ref : Pic) (W H x y : Nat) (px : List Int) (m : Mac) (q : Nat) (top : Int) (ra : Option Addr) (rn rc base g n c : Nat) (w : World) (own : w.ownsRow base 3 1 (.slice (some ⟨g, 0, none⟩) n c) n (px.map (Value.int .i64)))
 (hp : placeP ⟨W, H, px⟩ x y) (hm : m.ok) (hv : m.valid) (hq : q < 16) (ht0 : 0 ≤ top) (hk : m.kind = 2) :
 Calls Tryz.prog 96 #[.agg #[.int .i64 ref.w, .int .i64 ref.h, .slice ra rn rc], .agg #[.int .i64 W, .int .i64 H, .slice (some ⟨g, 0, none⟩) n c], .int .i64 (x : Nat), .int .i64 (y : Nat), .agg (ic m.zs), .int .i64 q, .int .i64 top] w fun e w' => e = .returned (.tuple #[]) ∧ w'.ownsRow base 3 1 (.slice (some ⟨g, 0, none⟩) n c) n ((bldS ref ⟨W, H, px⟩ x y m q top 4).map (Value.int .i64)) ∧ w.grownBy w' (some g) := by
 obtain ⟨hpv, hx0, hx1, hx8, hy0, hy1, hy8⟩ := hp
 have hxx : x + 8 ≤ W := by have h1 := hpv.1.2.2; simp only at hx1 h1; omega
 have hyy : y + 8 ≤ H := by have h1 := hpv.2.1.2.2; simp only at hy1 h1; omega
 have hW32 : W ≤ 32 := by have := hpv.1.2.1; simp only at this; omega
 have hH32 : H ≤ 32 := by have := hpv.2.1.2.1; simp only at this; omega
 have hpl : n = px.length := by have := own.1; simpa using this.symm
 have hnW : n = W * H := by
  have h1 := hpv.2.2.1
  simp only [← Int.natCast_mul] at h1
  rw [hpl]; exact Int.ofNat.inj h1
 have hn1k : n ≤ 1024 := by rw [hnW]; exact Nat.mul_le_mul hW32 hH32
 have inn : ∀ u v : Nat, u + 4 ≤ H → v + 4 ≤ W → (u + 3) * W + v + 3 < n := fun u v h1 h2 => by
  have h3 := Nat.mul_le_mul_right W (show u + 4 ≤ H by omega)
  rw [Nat.add_mul, Nat.mul_comm H W, ← hnW] at h3
  rw [Nat.add_mul]
  omega
 have Inn := Lib.hid inn
 have HV := Lib.hid (fun k => bldS_valid hpv ref x y m q top k)
 have HL := Lib.hid (fun k => show n = (bldS ref ⟨W, H, px⟩ x y m q top k).length by rw [bldS_len, hpl])
 have Hmv := Lib.hid hv
 have Hm := Lib.hid hm
 have Hl := Lib.hid (Mac.zs_len hm)
 have HK := Lib.hid hk
 have hbg : base ≤ g := (own.lt g rfl).1
 have hgw : g < w.heap.size := (own.lt g rfl).2
 have R0 : RS w base g n c ra rn rc W H ref m w.heap.size px (((((w.alloc (.cells #[.int .i64 ref.w, .int .i64 ref.h, .slice ra rn rc] 25)).alloc (.cells #[.int .i64 W, .int .i64 H, .slice (some ⟨g, 0, none⟩) n c] 25)).alloc (.cells (ic m.zs) 32))).alloc (.cells #[] 3)) := by
  have a1 := Ext.alloc w (.cells #[.int .i64 ref.w, .int .i64 ref.h, .slice ra rn rc] 25)
  have a2 := Ext.alloc (w.alloc (.cells #[.int .i64 ref.w, .int .i64 ref.h, .slice ra rn rc] 25)) (.cells #[.int .i64 W, .int .i64 H, .slice (some ⟨g, 0, none⟩) n c] 25)
  have a3 := Ext.alloc ((w.alloc (.cells #[.int .i64 ref.w, .int .i64 ref.h, .slice ra rn rc] 25)).alloc (.cells #[.int .i64 W, .int .i64 H, .slice (some ⟨g, 0, none⟩) n c] 25)) (.cells (ic m.zs) 32)
  have a4 := Ext.alloc (((w.alloc (.cells #[.int .i64 ref.w, .int .i64 ref.h, .slice ra rn rc] 25)).alloc (.cells #[.int .i64 W, .int .i64 H, .slice (some ⟨g, 0, none⟩) n c] 25)).alloc (.cells (ic m.zs) 32)) (.cells #[] 3)
  have q1 := a4.blk (a3.blk (blk_new (w.alloc (.cells #[.int .i64 ref.w, .int .i64 ref.h, .slice ra rn rc] 25)) (.cells #[.int .i64 W, .int .i64 H, .slice (some ⟨g, 0, none⟩) n c] 25)))
  have q2 := (IB.new ((w.alloc (.cells #[.int .i64 ref.w, .int .i64 ref.h, .slice ra rn rc] 25)).alloc (.cells #[.int .i64 W, .int .i64 H, .slice (some ⟨g, 0, none⟩) n c] 25)) 32 m.zs).ext a4
  simp only [World.size_alloc] at q1 q2
  exact ⟨grown_ext (grown_refl _ _) (((a1.trans a2).trans a3).trans a4), owns_ext own (((a1.trans a2).trans a3).trans a4), q1, a4.blk (a3.blk (a2.blk (blk_new _ _))), q2, hgw⟩
 have hkd : (m.kind == 2) = true := by simpa using hk
 have hkn : (m.kind != 2) = false := by simpa using hk
 have k0' := R0.b2.cell (i := 0) (by rw [Hl.out]; omega)
 rw [Mac.zs_kind] at k0'
 have r2 := R0.b2
 clear hpv hpl hnW inn hv hm hk own hx8 hy8 hx0 hy0 hx1 hy1
 go_enter Tryz.func96, Tryz.ntmps96
 go_wp2_with fail
 try simp only [World.size_alloc]
 obtain ⟨B, hB⟩ : ∃ B, B = w.heap.size := ⟨_, rfl⟩
 rw [← hB] at R0 r2 k0' ⊢
 have hwB : w.heap.size ≤ B := by omega
 have HB := Lib.hid hB
 clear hB r2 k0' hkn
 have R1 := R0
 clear R0
 go_loopw [15] (fun i wr => ∃ k : Nat, k ≤ 4 ∧ i = .int .i64 k ∧ RS w base g n c ra rn rc W H ref m B (bldS ref ⟨W, H, px⟩ x y m q top k) wr) (fun i _ => 4 - (intOf i).toNat)
 case atStart => exact ⟨0, by omega, rfl, R1⟩
 case round =>
  obtain ⟨k, hk, rfl, R3⟩ := hrel
  clear R1
  by_cases hlt : k < 4
  ·have hd : decide ((k : Int) < 4) = true := by simp; omega
   have hZv := HV.out k
   have hZn := HL.out k
   have Hst := Lib.hid (bld_step ref W H px x y m q top k)
   obtain ⟨Z, hZ⟩ : ∃ Z, Z = bldS ref ⟨W, H, px⟩ x y m q top k := ⟨_, rfl⟩
   obtain ⟨Z1, hZ1⟩ : ∃ Z, Z = bldS ref ⟨W, H, px⟩ x y m q top (k + 1) := ⟨_, rfl⟩
   rw [← hZ] at R3 hZv hZn Hst
   rw [← hZ1] at Hst
   have HZ1 := Lib.hid hZ1
   have HZv := Lib.hid hZv
   have HZn := Lib.hid hZn
   obtain ⟨xi, hxi⟩ : ∃ v, v = x + k % 2 * 4 := ⟨_, rfl⟩
   obtain ⟨yj, hyj⟩ : ∃ v, v = y + k / 2 * 4 := ⟨_, rfl⟩
   have HPK := Lib.hid (show prK ref W H Z x y m top k = prd (nth m.modes k).toNat (edg ⟨W, H, Z⟩ ((x + k % 2 * 4 : Nat) : Int) ((y + k / 2 * 4 : Nat) : Int) top) from if_pos HK.out)
   rw [← hxi, ← hyj] at Hst HPK
   have hxi4 : xi + 4 ≤ W := by omega
   have hyj4 : yj + 4 ≤ H := by omega
   have Hxi := Lib.hid (show (x : Int) + (k : Int) % 2 * 4 = ((xi : Nat) : Int) by omega)
   have Hyj := Lib.hid (show (y : Int) + (k : Int) / 2 * 4 = ((yj : Nat) : Int) by omega)
   have hI := Inn.out yj xi hyj4 hxi4
   have hB16 := sub16 Hm.out.lv hlt
   have hBv := lv_blk Hm.out Hmv.out hlt
   obtain ⟨bk, hbk⟩ : ∃ b, b = sub m.lv (k * 16) 16 := ⟨_, rfl⟩
   have Hbk := Lib.hid hbk
   rw [← hbk] at hB16 hBv Hst
   have HB16 := Lib.hid hB16
   have HBv := Lib.hid hBv
   clear hZ hZ1 hxi hyj hbk hB16 hBv hZv hZn
   have hcK := R3.b2.cell (i := 0) (by rw [Hl.out]; omega)
   rw [Mac.zs_kind] at hcK
   have ib := IB.new wr 29 (List.replicate 16 0)
   have R6 := R3.ex (Ext.alloc wr (.cells (ic (List.replicate 16 0)) 29))
   have hO2 := lt_of_block R3.b2
   have hO3 := lt_of_block R3.b2
   obtain ⟨O2, hO2e⟩ : ∃ O, O = wr.heap.size := ⟨_, rfl⟩
   rw [← hO2e] at ib hO2
   have HO2 := Lib.hid hO2e
   have hb0 := R6.b0
   have hgB := R6.gB
   obtain ⟨E, hE⟩ : ∃ E, E = edg ⟨W, H, Z⟩ (xi : Int) (yj : Int) top := ⟨_, rfl⟩
   have hEok := edg_ok HZv.out (xi : Int) (yj : Int) top
   rw [← hE] at hEok HPK
   have HE := Lib.hid hE
   have HEok := Lib.hid hEok
   have hmr := Hmv.out.2.2.2.2.1 HK.out k hlt
   obtain ⟨md, hmd⟩ : ∃ v : Nat, nth m.modes k = (v : Int) := ⟨(nth m.modes k).toNat, by omega⟩
   rw [hmd] at hmr
   rw [hmd, Int.toNat_natCast] at HPK
   have Hmd := Lib.hid hmd
   obtain ⟨PR, hPR⟩ : ∃ P, P = prd md E := ⟨_, rfl⟩
   rw [← hPR] at HPK
   rw [HPK.out] at Hst
   have HPR := Lib.hid hPR
   clear hE hEok hmd hPR
   have hPl : PR.length = 16 := by rw [HPR.out, prd_len]
   have HPl := Lib.hid hPl
   have hPb : bdA 1099511627776 PR := by rw [HPR.out]; exact smp_bd (prd_smp _ HEok.out)
   have HPb := Lib.hid hPb
   clear hPl hPb
   go_wp2_with fail
   rw [← hO2e]
   clear hO2e hcK hO3
   have G7 : RS w base g n c ra rn rc W H ref m B Z (wr.alloc (.cells (ic (List.replicate 16 0)) 29)) ∧ IB (wr.alloc (.cells (ic (List.replicate 16 0)) 29)) O2 29 (List.replicate 16 0) := ⟨R6, ib⟩
   clear R3 R6 ib hb0
   refine wp_region_invL (by kernel_rfl) [(47, 0), (48, 1), (49, 2), (50, 3), (51, 4), (52, 5), (53, 6), (54, 7), (55, 8), (56, 9)] [[], [], [0, 1], [0, 1, 2], [], [], [], [], [4, 5, 6, 7], [0, 1, 2, 3, 4, 5, 6, 7, 8], [0, 1, 2, 3, 4, 5, 6, 7, 8, 9]] (fun i own ys wx => match i with | 0 => own = .int .i64 (k : Nat) | 1 => own = .pointer (some ⟨B + 1 + 1, 3, none⟩) | 2 => own = .pointer (some ⟨B + 1 + 1, 3 + k, none⟩) | 3 => own = .int .i64 (md : Nat) | 4 => own = .agg #[.int .i64 W, .int .i64 H, .slice (some ⟨g, 0, none⟩) n c] | 5 => own = .int .i64 (xi : Nat) | 6 => own = .int .i64 (yj : Nat) | 7 => own = .int .i64 top | 8 => own = .agg (edC E) | 9 => own = .agg (ic PR) | 10 => True | _ => True) (fun Lx wx => RS w base g n c ra rn rc W H ref m B Z wx ∧ IB wx O2 29 (if Lx 10 = true then PR else (List.replicate 16 0))) (by kernel_rfl) (by kernel_rfl) (by kernel_rfl) ?g0_r1 ?gop_r1 ?gend_r1
   case g0_r1 => exact ⟨G7.1.drew, G7.2.drewN 1⟩
   case gop_r1 =>
    refine ⟨?_, ?_, ?o2, ?o3, ?o4, ?o5, ?o6, ?_, ?o8, ?o9, ?o10, trivial⟩ <;> (intro Lx xs wx hG hl ha hb hD hI Qo Kx hK hQo; simp only [patchS, Nat.reduceAdd, Nat.reduceEqDiff, ↓reduceIte] at hQo ⊢)
    case o2 =>
     have l10 : Lx 10 = false := hb 10 rfl
     clear hl ha hb
     have d0 : _ = _ := hD 0 rfl
     have d1 : _ = _ := hD 1 rfl
     clear hD hI
     generalize xs 0 = y0 at *
     generalize xs 1 = y1 at *
     subst d0 d1
     go_wp2
     exact hK.out _ _ ⟨rfl, hG, fun _ _ _ _ _ _ h => h⟩
    case o3 =>
     have l10 : Lx 10 = false := hb 10 rfl
     clear hl ha hb
     have d2 : _ = _ := hD 2 rfl
     clear hD hI
     generalize xs 2 = y2 at *
     subst d2
     have cx := hG.1.b2.cell (i := 3 + k) (by rw [Hl.out]; omega)
     rw [Mac.nth_mode Hm.out k hlt, Hmd.out] at cx
     go_wp2
     exact hK.out _ _ ⟨rfl, hG, fun _ _ _ _ _ _ h => h⟩
    case o4 =>
     have l10 : Lx 10 = false := hb 10 rfl
     clear hl ha hb hD hI
     obtain ⟨-, k0, k1, k2, -⟩ := bx3 hG.1.b0
     go_wp2
     exact hK.out _ _ ⟨rfl, hG, fun _ _ _ _ _ _ h => h⟩
    case o5 =>
     have l10 : Lx 10 = false := hb 10 rfl
     clear hl ha hb hD hI
     go_wp2
     exact hK.out _ _ ⟨by rw [← Hxi.out], hG, fun _ _ _ _ _ _ h => h⟩
    case o6 =>
     have l10 : Lx 10 = false := hb 10 rfl
     clear hl ha hb hD hI
     go_wp2
     exact hK.out _ _ ⟨by rw [← Hyj.out], hG, fun _ _ _ _ _ _ h => h⟩
    case o8 =>
     have l10 : Lx 10 = false := hb 10 rfl
     clear hl ha hb
     have d4 : _ = _ := hD 4 rfl
     have d5 : _ = _ := hD 5 rfl
     have d6 : _ = _ := hD 6 rfl
     have d7 : _ = _ := hD 7 rfl
     clear hD hI
     generalize xs 4 = y4 at *
     generalize xs 5 = y5 at *
     generalize xs 6 = y6 at *
     generalize xs 7 = y7 at *
     subst d4 d5 d6 d7
     go_wp2_with fail
     refine (l6Edges_any ⟨W, H, Z⟩ xi yj W H top (some ⟨g, 0, none⟩) c n _ HZv.out HZn.out (Sl.of_owns hG.1.own) rfl rfl (by omega) (by omega) ht0).mono ?_
     rintro e w9 ⟨rfl, e9⟩
     rw [← HE.out]
     go_wp2
     exact hK.out _ _ ⟨rfl, ⟨hG.1.ex e9, hG.2.ext e9⟩, fun _ _ _ _ _ _ h => h⟩
    case o9 =>
     have l10 : Lx 10 = false := hb 10 rfl
     clear hl ha hb
     have d3 : _ = _ := hD 3 rfl
     have d8 : _ = _ := hD 8 rfl
     clear hD hI
     generalize xs 3 = y3 at *
     generalize xs 8 = y8 at *
     subst d3 d8
     go_wp2_with fail
     refine (l6Predict_any E md _ HEok.out (by omega)).mono ?_
     rintro e w9 ⟨rfl, e9⟩
     rw [← HPR.out]
     go_wp2
     exact hK.out _ _ ⟨rfl, ⟨hG.1.ex e9, hG.2.ext e9⟩, fun _ _ _ _ _ _ h => h⟩
    case o10 =>
     have l10 : Lx 10 = false := hl
     clear hl ha hb
     have d9 : _ = _ := hD 9 rfl
     clear hD hI
     generalize xs 9 = y9 at *
     subst d9
     rw [l10, ifF] at hG
     refine wpList_istore 29 _ _ rfl rfl hG.2 0 16 rfl _ rfl PR rfl size_A16 HPl.out (by simp) ?_
     intro w9 i9 g9
     rw [spl_all (by rw [HPl.out]; simp)] at i9
     exact hQo undef _ (hK.out _ _ ⟨trivial, ⟨hG.1.loc g9 (by omega) hwB, i9⟩, fun _ _ _ _ _ _ h => h⟩)
    all_goals
     have l10 : Lx 10 = false := hb 10 rfl
     clear hl ha hb hD hI
     go_wp2
     exact hK.out _ _ ⟨rfl, hG, fun _ _ _ _ _ _ h => h⟩
   intro xs wx hV hG0
   obtain ⟨Lx, hL, hG⟩ := hG0
   have l10 : Lx 10 = true := hL 10 (by decide)
   clear hL hV
   simp only [patchS, Nat.reduceAdd, Nat.reduceEqDiff, ↓reduceIte]
   generalize xs 0 = y0 at *
   generalize xs 1 = y1 at *
   generalize xs 2 = y2 at *
   generalize xs 3 = y3 at *
   generalize xs 4 = y4 at *
   generalize xs 5 = y5 at *
   generalize xs 6 = y6 at *
   generalize xs 7 = y7 at *
   generalize xs 8 = y8 at *
   generalize xs 9 = y9 at *
   generalize xs 10 = y10 at *
   replace hG : RS w base g n c ra rn rc W H ref m B Z wx ∧ IB wx O2 29 (if Lx 10 = true then PR else (List.replicate 16 0)) := hG
   rw [l10, ifT] at hG
   clear G7
   obtain ⟨RM, pM⟩ := hG
   go_wp2_with fail
   obtain ⟨D, hD⟩ : ∃ D, D = dec bk q := ⟨_, rfl⟩
   rw [← hD] at Hst
   have HD := Lib.hid hD
   have HDl := Lib.hid (show D.length = 16 by rw [hD, dec_len])
   have HDb := Lib.hid (show bdA 1099511627776 D by rw [hD]; exact dec_bd _ _)
   clear hD
   refine wp_region_invL (by kernel_rfl) [(60, 0), (61, 1), (62, 2), (63, 3), (64, 4), (65, 5), (66, 6), (67, 7), (68, 8), (69, 9), (70, 10)] [[], [], [], [], [], [], [4, 5], [4, 5, 6], [], [4, 5, 6, 7, 8], [0, 1, 2, 3, 4, 5, 6, 7, 8, 9]] (fun i own ys wx => match i with | 0 => own = .agg #[.int .i64 W, .int .i64 H, .slice (some ⟨g, 0, none⟩) n c] | 1 => own = .int .i64 (xi : Nat) | 2 => own = .int .i64 (yj : Nat) | 3 => own = .agg (ic PR) | 4 => own = .int .i64 (k : Nat) | 5 => own = .pointer (some ⟨B + 1 + 1, 7, none⟩) | 6 => own = .pointer (some ⟨B + 1 + 1, 7 + k * 16, none⟩) | 7 => own = .agg (ic bk) | 8 => own = .int .i64 (q : Nat) | 9 => own = .agg (ic D) | 10 => True | _ => True) (fun Lx wx => RS w base g n c ra rn rc W H ref m B (if Lx 10 = true then Z1 else Z) wx ∧ IB wx O2 29 PR) (by kernel_rfl) (by kernel_rfl) (by kernel_rfl) ?g0_r2 ?gop_r2 ?gend_r2
   case g0_r2 => exact ⟨RM.drew, pM.drewN 1⟩
   case gop_r2 =>
    refine ⟨?o0, ?o1, ?o2, ?o3, ?_, ?_, ?o6, ?o7, ?_, ?o9, ?o10, trivial⟩ <;> (intro Lx xs wx hG hl ha hb hD hI Qo Kx hK hQo; simp only [patchS, Nat.reduceAdd, Nat.reduceEqDiff, ↓reduceIte] at hQo ⊢)
    case o0 =>
     have l10 : Lx 10 = false := hb 10 rfl
     clear hl ha hb hD hI
     obtain ⟨-, k0, k1, k2, -⟩ := bx3 hG.1.b0
     go_wp2
     exact hK.out _ _ ⟨rfl, hG, fun _ _ _ _ _ _ h => h⟩
    case o1 =>
     have l10 : Lx 10 = false := hb 10 rfl
     clear hl ha hb hD hI
     go_wp2
     exact hK.out _ _ ⟨by rw [← Hxi.out], hG, fun _ _ _ _ _ _ h => h⟩
    case o2 =>
     have l10 : Lx 10 = false := hb 10 rfl
     clear hl ha hb hD hI
     go_wp2
     exact hK.out _ _ ⟨by rw [← Hyj.out], hG, fun _ _ _ _ _ _ h => h⟩
    case o3 =>
     have l10 : Lx 10 = false := hb 10 rfl
     clear hl ha hb hD hI
     go_wp2_with (refine wpList_iload 29 _ rfl rfl hG.2 0 16 rfl _ Tryz.underlying29 rfl size_A16 (by rw [HPl.out]; omega) _ (by rw [sub_all _ _ HPl.out]) ?_)
     exact hK.out _ _ ⟨rfl, hG, fun _ _ _ _ _ _ h => h⟩
    case o6 =>
     have l10 : Lx 10 = false := hb 10 rfl
     clear hl ha hb
     have d4 : _ = _ := hD 4 rfl
     have d5 : _ = _ := hD 5 rfl
     clear hD hI
     generalize xs 4 = y4 at *
     generalize xs 5 = y5 at *
     subst d4 d5
     go_wp2
     exact hK.out _ _ ⟨rfl, hG, fun _ _ _ _ _ _ h => h⟩
    case o7 =>
     have l10 : Lx 10 = false := hb 10 rfl
     clear hl ha hb
     have d6 : _ = _ := hD 6 rfl
     clear hD hI
     generalize xs 6 = y6 at *
     subst d6
     go_wp2_with (refine wpList_iload 29 _ rfl rfl hG.1.b2 (7 + k * 16) 16 rfl _ Tryz.underlying29 rfl size_A16 (by rw [Hl.out]; omega) _ (by rw [Mac.zs_blk Hm.out k hlt, ← Hbk.out]) ?_)
     exact hK.out _ _ ⟨rfl, hG, fun _ _ _ _ _ _ h => h⟩
    case o9 =>
     have l10 : Lx 10 = false := hb 10 rfl
     clear hl ha hb
     have d7 : _ = _ := hD 7 rfl
     have d8 : _ = _ := hD 8 rfl
     clear hD hI
     generalize xs 7 = y7 at *
     generalize xs 8 = y8 at *
     subst d7 d8
     go_wp2_with fail
     refine (l4Decode_any bk q _ HB16.out HBv.out hq).mono ?_
     rintro e w9 ⟨rfl, e9⟩
     rw [← HD.out]
     go_wp2
     exact hK.out _ _ ⟨rfl, ⟨hG.1.ex e9, hG.2.ext e9⟩, fun _ _ _ _ _ _ h => h⟩
    case o10 =>
     have l10 : Lx 10 = false := hl
     clear hl ha hb
     have d0 : _ = _ := hD 0 rfl
     have d1 : _ = _ := hD 1 rfl
     have d2 : _ = _ := hD 2 rfl
     have d3 : _ = _ := hD 3 rfl
     have d9 : _ = _ := hD 9 rfl
     clear hD hI
     generalize xs 0 = y0 at *
     generalize xs 1 = y1 at *
     generalize xs 2 = y2 at *
     generalize xs 3 = y3 at *
     generalize xs 9 = y9 at *
     subst d0 d1 d2 d3 d9
     rw [l10, ifF] at hG
     go_wp2_with fail
     refine (l8Put_any W H xi yj base g n c Z PR D _ HPl.out HDl.out HPb.out HDb.out hW32 (by omega) (by omega) hI (by omega) hG.1.own).mono ?_
     rintro e w9 ⟨rfl, o9, g9⟩
     go_wp2
     rw [← Hst.out] at o9
     exact hK.out _ _ ⟨trivial, ⟨hG.1.put g9 o9, hG.2.gr g9 (lv2 (by omega))⟩, fun _ _ _ _ _ _ h => h⟩
    all_goals
     have l10 : Lx 10 = false := hb 10 rfl
     clear hl ha hb hD hI
     go_wp2
     exact hK.out _ _ ⟨rfl, hG, fun _ _ _ _ _ _ h => h⟩
   intro xs wx hV hG0
   obtain ⟨Lx, hL, hG⟩ := hG0
   have l10 : Lx 10 = true := hL 10 (by decide)
   clear hL hV
   simp only [patchS, Nat.reduceAdd, Nat.reduceEqDiff, ↓reduceIte]
   generalize xs 0 = y0 at *
   generalize xs 1 = y1 at *
   generalize xs 2 = y2 at *
   generalize xs 3 = y3 at *
   generalize xs 4 = y4 at *
   generalize xs 5 = y5 at *
   generalize xs 6 = y6 at *
   generalize xs 7 = y7 at *
   generalize xs 8 = y8 at *
   generalize xs 9 = y9 at *
   generalize xs 10 = y10 at *
   replace hG : RS w base g n c ra rn rc W H ref m B (if Lx 10 = true then Z1 else Z) wx ∧ IB wx O2 29 PR := hG
   rw [l10, ifT] at hG
   clear RM pM
   have HG := Lib.hid hG
   clear hG
   go_wp2
   go_roundw
   case rel => exact ⟨k + 1, by omega, by go_num, by rw [← HZ1.out]; exact HG.out.1⟩
   case measure => simp [intOf]; omega
  ·obtain rfl : k = 4 := by omega
   have HR := Lib.hid R3
   clear R3
   go_wp2
   go_end0
   exact ⟨rfl, HR.out.own, HR.out.gr⟩
set_option maxRecDepth 100000 in
set_option maxHeartbeats 4000000 in
theorem l8Build_S (ref : Pic) (W H x y : Nat) (px : List Int) (m : Mac) (q : Nat) (top : Int) (ra : Option Addr) (rn rc base g n c : Nat) (w : World) (own : w.ownsRow base 3 1 (.slice (some ⟨g, 0, none⟩) n c) n (px.map (Value.int .i64)))
 (hp : placeP ⟨W, H, px⟩ x y) (hm : m.ok) (hv : m.valid) (hq : q < 16) (ht0 : 0 ≤ top) (hk : ¬ m.kind = 2) (hrv : ref.valid) (hrn : rn = ref.px.length) (hr : Sl w ra rn (ref.px.map (Value.int .i64))) (hrg : ∀ z, ra = some z → z.block ≠ g) :
 Calls Tryz.prog 96 #[.agg #[.int .i64 ref.w, .int .i64 ref.h, .slice ra rn rc], .agg #[.int .i64 W, .int .i64 H, .slice (some ⟨g, 0, none⟩) n c], .int .i64 (x : Nat), .int .i64 (y : Nat), .agg (ic m.zs), .int .i64 q, .int .i64 top] w fun e w' => e = .returned (.tuple #[]) ∧ w'.ownsRow base 3 1 (.slice (some ⟨g, 0, none⟩) n c) n ((bldS ref ⟨W, H, px⟩ x y m q top 4).map (Value.int .i64)) ∧ w.grownBy w' (some g) := by
 obtain ⟨hpv, hx0, hx1, hx8, hy0, hy1, hy8⟩ := hp
 have hxx : x + 8 ≤ W := by have h1 := hpv.1.2.2; simp only at hx1 h1; omega
 have hyy : y + 8 ≤ H := by have h1 := hpv.2.1.2.2; simp only at hy1 h1; omega
 have hW32 : W ≤ 32 := by have := hpv.1.2.1; simp only at this; omega
 have hH32 : H ≤ 32 := by have := hpv.2.1.2.1; simp only at this; omega
 have hpl : n = px.length := by have := own.1; simpa using this.symm
 have hnW : n = W * H := by
  have h1 := hpv.2.2.1
  simp only [← Int.natCast_mul] at h1
  rw [hpl]; exact Int.ofNat.inj h1
 have hn1k : n ≤ 1024 := by rw [hnW]; exact Nat.mul_le_mul hW32 hH32
 have inn : ∀ u v : Nat, u + 4 ≤ H → v + 4 ≤ W → (u + 3) * W + v + 3 < n := fun u v h1 h2 => by
  have h3 := Nat.mul_le_mul_right W (show u + 4 ≤ H by omega)
  rw [Nat.add_mul, Nat.mul_comm H W, ← hnW] at h3
  rw [Nat.add_mul]
  omega
 have Inn := Lib.hid inn
 have HV := Lib.hid (fun k => bldS_valid hpv ref x y m q top k)
 have HL := Lib.hid (fun k => show n = (bldS ref ⟨W, H, px⟩ x y m q top k).length by rw [bldS_len, hpl])
 have Hmv := Lib.hid hv
 have Hm := Lib.hid hm
 have Hl := Lib.hid (Mac.zs_len hm)
 have HK := Lib.hid hk
 have hbg : base ≤ g := (own.lt g rfl).1
 have hgw : g < w.heap.size := (own.lt g rfl).2
 have R0 : RS w base g n c ra rn rc W H ref m w.heap.size px (((((w.alloc (.cells #[.int .i64 ref.w, .int .i64 ref.h, .slice ra rn rc] 25)).alloc (.cells #[.int .i64 W, .int .i64 H, .slice (some ⟨g, 0, none⟩) n c] 25)).alloc (.cells (ic m.zs) 32))).alloc (.cells #[] 3)) := by
  have a1 := Ext.alloc w (.cells #[.int .i64 ref.w, .int .i64 ref.h, .slice ra rn rc] 25)
  have a2 := Ext.alloc (w.alloc (.cells #[.int .i64 ref.w, .int .i64 ref.h, .slice ra rn rc] 25)) (.cells #[.int .i64 W, .int .i64 H, .slice (some ⟨g, 0, none⟩) n c] 25)
  have a3 := Ext.alloc ((w.alloc (.cells #[.int .i64 ref.w, .int .i64 ref.h, .slice ra rn rc] 25)).alloc (.cells #[.int .i64 W, .int .i64 H, .slice (some ⟨g, 0, none⟩) n c] 25)) (.cells (ic m.zs) 32)
  have a4 := Ext.alloc (((w.alloc (.cells #[.int .i64 ref.w, .int .i64 ref.h, .slice ra rn rc] 25)).alloc (.cells #[.int .i64 W, .int .i64 H, .slice (some ⟨g, 0, none⟩) n c] 25)).alloc (.cells (ic m.zs) 32)) (.cells #[] 3)
  have q1 := a4.blk (a3.blk (blk_new (w.alloc (.cells #[.int .i64 ref.w, .int .i64 ref.h, .slice ra rn rc] 25)) (.cells #[.int .i64 W, .int .i64 H, .slice (some ⟨g, 0, none⟩) n c] 25)))
  have q2 := (IB.new ((w.alloc (.cells #[.int .i64 ref.w, .int .i64 ref.h, .slice ra rn rc] 25)).alloc (.cells #[.int .i64 W, .int .i64 H, .slice (some ⟨g, 0, none⟩) n c] 25)) 32 m.zs).ext a4
  simp only [World.size_alloc] at q1 q2
  exact ⟨grown_ext (grown_refl _ _) (((a1.trans a2).trans a3).trans a4), owns_ext own (((a1.trans a2).trans a3).trans a4), q1, a4.blk (a3.blk (a2.blk (blk_new _ _))), q2, hgw⟩
 have hkd : (m.kind == 2) = false := by simpa using hk
 have hkn : (m.kind != 2) = true := by simpa using hk
 have k0' := R0.b2.cell (i := 0) (by rw [Hl.out]; omega)
 rw [Mac.zs_kind] at k0'
 have r2 := R0.b2
 clear hpv hpl hnW inn hv hm hk own hx8 hy8
 have Hrv := Lib.hid hrv
 have Hrn := Lib.hid hrn
 have Hrg := Lib.hid hrg
 clear hrv hrn hrg hx0 hy0 hx1 hy1
 go_enter Tryz.func96, Tryz.ntmps96
 obtain ⟨-, k0, k1, k2, -⟩ := bx3 R0.b1
 go_wp2_with (refine wpList_iload 27 _ rfl rfl r2 1 2 rfl _ Tryz.underlying27 rfl size_Vector (by rw [Hl.out]; omega) _ Mac.zs_mv ?_)
 try simp only [World.size_alloc]
 obtain ⟨B, hB⟩ : ∃ B, B = w.heap.size := ⟨_, rfl⟩
 rw [← hB] at R0 r2 k0' ⊢
 have hwB : w.heap.size ≤ B := by omega
 have HB := Lib.hid hB
 clear hB
 have hrs := hr.grown R0.gr (fun z hz => by have := Hrg.out z hz; simp; omega)
 have hvv := Hmv.out.2.1
 refine (l7Block_any ref x y m.x m.y ra rc rn _ Hrv.out Hrn.out hrs (by omega) (by omega) (by omega) (by omega) hvv.1 hvv.2.1 hvv.2.2.1 hvv.2.2.2).mono ?_
 rintro e w2 ⟨a2, c2, rfl, o2, e2⟩
 have R2 := R0.ex e2
 have hs1 := R0.gr.size
 have ha2 : ∃ g2, a2 = some ⟨g2, 0, none⟩ ∧ g2 ≠ g := by
  rcases o2.2 with ⟨-, h0⟩ | ⟨g2, cc, cur, hv2, hb2, -⟩
  ·omega
  ·simp only [Value.slice.injEq] at hv2
   exact ⟨g2, hv2.1, by omega⟩
 obtain ⟨g2, rfl, hg2⟩ := ha2
 have s2 := Sl.of_owns o2
 have Hb := Lib.hid (blkL_len ref x y m.x m.y)
 clear k0 k1 k2 r2 R0 e2 o2 hrs hr hvv k0' hkn
 go_wp2_with fail
 go_loopw [15] (fun i wr => ∃ k : Nat, k ≤ 4 ∧ i = .int .i64 k ∧ RS w base g n c ra rn rc W H ref m B (bldS ref ⟨W, H, px⟩ x y m q top k) wr ∧ Hid (Sl wr (some ⟨g2, 0, none⟩) 64 ((blkL ref x y m.x m.y).map (Value.int .i64)))) (fun i _ => 4 - (intOf i).toNat)
 case atStart => exact ⟨0, by omega, rfl, R2, Lib.hid s2⟩
 case round =>
  obtain ⟨k, hk, rfl, R3, S3⟩ := hrel
  clear R2 s2
  by_cases hlt : k < 4
  ·have hd : decide ((k : Int) < 4) = true := by simp; omega
   have hZv := HV.out k
   have hZn := HL.out k
   have Hst := Lib.hid (bld_step ref W H px x y m q top k)
   obtain ⟨Z, hZ⟩ : ∃ Z, Z = bldS ref ⟨W, H, px⟩ x y m q top k := ⟨_, rfl⟩
   obtain ⟨Z1, hZ1⟩ : ∃ Z, Z = bldS ref ⟨W, H, px⟩ x y m q top (k + 1) := ⟨_, rfl⟩
   rw [← hZ] at R3 hZv hZn Hst
   rw [← hZ1] at Hst
   have HZ1 := Lib.hid hZ1
   have HZv := Lib.hid hZv
   have HZn := Lib.hid hZn
   obtain ⟨xi, hxi⟩ : ∃ v, v = x + k % 2 * 4 := ⟨_, rfl⟩
   obtain ⟨yj, hyj⟩ : ∃ v, v = y + k / 2 * 4 := ⟨_, rfl⟩
   have HPK := Lib.hid (show prK ref W H Z x y m top k = pof (blkL ref x y m.x m.y) (k % 2 * 4) (k / 2 * 4) from if_neg HK.out)
   rw [← hxi, ← hyj] at Hst
   have hxi4 : xi + 4 ≤ W := by omega
   have hyj4 : yj + 4 ≤ H := by omega
   have Hxi := Lib.hid (show (x : Int) + (k : Int) % 2 * 4 = ((xi : Nat) : Int) by omega)
   have Hyj := Lib.hid (show (y : Int) + (k : Int) / 2 * 4 = ((yj : Nat) : Int) by omega)
   have hI := Inn.out yj xi hyj4 hxi4
   have hB16 := sub16 Hm.out.lv hlt
   have hBv := lv_blk Hm.out Hmv.out hlt
   obtain ⟨bk, hbk⟩ : ∃ b, b = sub m.lv (k * 16) 16 := ⟨_, rfl⟩
   have Hbk := Lib.hid hbk
   rw [← hbk] at hB16 hBv Hst
   have HB16 := Lib.hid hB16
   have HBv := Lib.hid hBv
   clear hZ hZ1 hxi hyj hbk hB16 hBv hZv hZn
   have hcK := R3.b2.cell (i := 0) (by rw [Hl.out]; omega)
   rw [Mac.zs_kind] at hcK
   have ib := IB.new wr 29 (List.replicate 16 0)
   have R6 := R3.ex (Ext.alloc wr (.cells (ic (List.replicate 16 0)) 29))
   have hO2 := lt_of_block R3.b2
   have hO3 := lt_of_block R3.b2
   have S6 := S3.out.ext (Ext.alloc wr (.cells (ic (List.replicate 16 0)) 29))
   obtain ⟨O2, hO2e⟩ : ∃ O, O = wr.heap.size := ⟨_, rfl⟩
   rw [← hO2e] at ib hO2
   have HO2 := Lib.hid hO2e
   have hb0 := R6.b0
   have hgB := R6.gB
   obtain ⟨E, hE⟩ : ∃ E, E = edg ⟨W, H, Z⟩ (xi : Int) (yj : Int) top := ⟨_, rfl⟩
   clear hE
   obtain ⟨PR, hPR⟩ : ∃ P, P = pof (blkL ref x y m.x m.y) (k % 2 * 4) (k / 2 * 4) := ⟨_, rfl⟩
   rw [← hPR] at HPK
   rw [HPK.out] at Hst
   have HPR := Lib.hid hPR
   clear hPR
   have hPl : PR.length = 16 := by rw [HPR.out, pof_len]
   have HPl := Lib.hid hPl
   have hPb : bdA 1099511627776 PR := by rw [HPR.out]; exact smp_bd (pof_smp (blkL_smp Hrv.out _ _ _ _) (blkL_len _ _ _ _ _) (by omega) (by omega))
   have HPb := Lib.hid hPb
   clear hPl hPb
   go_wp2_with fail
   rw [← hO2e]
   clear hO2e hcK hO3
   refine (l8Part_any (blkL ref x y m.x m.y) k hlt (some ⟨g2, 0, none⟩) c2 _ S6).mono ?_
   rintro e w7 ⟨rfl, e7⟩
   rw [← HPR.out]
   have R7 := R6.ex e7
   have ib7 := ib.ext e7
   have S7 := S6.ext e7
   have hg2l : g2 < wr.heap.size := by
    obtain ⟨b8, o8, h8, c8⟩ := S3.out.int (show 0 < 64 by omega)
    simp only [Option.some.injEq, Addr.mk.injEq, and_true] at h8
    rw [h8.1]
    exact World.block_lt_of_cell? _ _ c8
   rw [← HO2.out] at hg2l
   clear R3 R6 ib S3 S6 e7
   go_wp2_with (refine wpList_istore 29 _ _ rfl rfl ib7 0 16 rfl _ rfl PR rfl size_A16 HPl.out (by simp) ?_; intro w8 pM g8; refine Hid.out ?_)
   rw [spl_all (by rw [HPl.out]; simp)] at pM
   have RM := R7.loc g8 (by omega) hwB
   have SM := S7.grown g8 (fun z hz => by cases hz; simp; omega)
   clear R7 ib7 S7 g8
   refine Lib.hid ?_
   go_wp2_with fail
   obtain ⟨D, hD⟩ : ∃ D, D = dec bk q := ⟨_, rfl⟩
   rw [← hD] at Hst
   have HD := Lib.hid hD
   have HDl := Lib.hid (show D.length = 16 by rw [hD, dec_len])
   have HDb := Lib.hid (show bdA 1099511627776 D by rw [hD]; exact dec_bd _ _)
   clear hD
   refine wp_region_invL (by kernel_rfl) [(60, 0), (61, 1), (62, 2), (63, 3), (64, 4), (65, 5), (66, 6), (67, 7), (68, 8), (69, 9), (70, 10)] [[], [], [], [], [], [], [4, 5], [4, 5, 6], [], [4, 5, 6, 7, 8], [0, 1, 2, 3, 4, 5, 6, 7, 8, 9]] (fun i own ys wx => match i with | 0 => own = .agg #[.int .i64 W, .int .i64 H, .slice (some ⟨g, 0, none⟩) n c] | 1 => own = .int .i64 (xi : Nat) | 2 => own = .int .i64 (yj : Nat) | 3 => own = .agg (ic PR) | 4 => own = .int .i64 (k : Nat) | 5 => own = .pointer (some ⟨B + 1 + 1, 7, none⟩) | 6 => own = .pointer (some ⟨B + 1 + 1, 7 + k * 16, none⟩) | 7 => own = .agg (ic bk) | 8 => own = .int .i64 (q : Nat) | 9 => own = .agg (ic D) | 10 => True | _ => True) (fun Lx wx => RS w base g n c ra rn rc W H ref m B (if Lx 10 = true then Z1 else Z) wx ∧ IB wx O2 29 PR ∧ Sl wx (some ⟨g2, 0, none⟩) 64 ((blkL ref x y m.x m.y).map (Value.int .i64))) (by kernel_rfl) (by kernel_rfl) (by kernel_rfl) ?g0_r3 ?gop_r3 ?gend_r3
   case g0_r3 => exact ⟨RM.drew, pM.drewN 1, SM.drewN 1⟩
   case gop_r3 =>
    refine ⟨?o0, ?o1, ?o2, ?o3, ?_, ?_, ?o6, ?o7, ?_, ?o9, ?o10, trivial⟩ <;> (intro Lx xs wx hG hl ha hb hD hI Qo Kx hK hQo; simp only [patchS, Nat.reduceAdd, Nat.reduceEqDiff, ↓reduceIte] at hQo ⊢)
    case o0 =>
     have l10 : Lx 10 = false := hb 10 rfl
     clear hl ha hb hD hI
     obtain ⟨-, k0, k1, k2, -⟩ := bx3 hG.1.b0
     go_wp2
     exact hK.out _ _ ⟨rfl, hG, fun _ _ _ _ _ _ h => h⟩
    case o1 =>
     have l10 : Lx 10 = false := hb 10 rfl
     clear hl ha hb hD hI
     go_wp2
     exact hK.out _ _ ⟨by rw [← Hxi.out], hG, fun _ _ _ _ _ _ h => h⟩
    case o2 =>
     have l10 : Lx 10 = false := hb 10 rfl
     clear hl ha hb hD hI
     go_wp2
     exact hK.out _ _ ⟨by rw [← Hyj.out], hG, fun _ _ _ _ _ _ h => h⟩
    case o3 =>
     have l10 : Lx 10 = false := hb 10 rfl
     clear hl ha hb hD hI
     go_wp2_with (refine wpList_iload 29 _ rfl rfl hG.2.1 0 16 rfl _ Tryz.underlying29 rfl size_A16 (by rw [HPl.out]; omega) _ (by rw [sub_all _ _ HPl.out]) ?_)
     exact hK.out _ _ ⟨rfl, hG, fun _ _ _ _ _ _ h => h⟩
    case o6 =>
     have l10 : Lx 10 = false := hb 10 rfl
     clear hl ha hb
     have d4 : _ = _ := hD 4 rfl
     have d5 : _ = _ := hD 5 rfl
     clear hD hI
     generalize xs 4 = y4 at *
     generalize xs 5 = y5 at *
     subst d4 d5
     go_wp2
     exact hK.out _ _ ⟨rfl, hG, fun _ _ _ _ _ _ h => h⟩
    case o7 =>
     have l10 : Lx 10 = false := hb 10 rfl
     clear hl ha hb
     have d6 : _ = _ := hD 6 rfl
     clear hD hI
     generalize xs 6 = y6 at *
     subst d6
     go_wp2_with (refine wpList_iload 29 _ rfl rfl hG.1.b2 (7 + k * 16) 16 rfl _ Tryz.underlying29 rfl size_A16 (by rw [Hl.out]; omega) _ (by rw [Mac.zs_blk Hm.out k hlt, ← Hbk.out]) ?_)
     exact hK.out _ _ ⟨rfl, hG, fun _ _ _ _ _ _ h => h⟩
    case o9 =>
     have l10 : Lx 10 = false := hb 10 rfl
     clear hl ha hb
     have d7 : _ = _ := hD 7 rfl
     have d8 : _ = _ := hD 8 rfl
     clear hD hI
     generalize xs 7 = y7 at *
     generalize xs 8 = y8 at *
     subst d7 d8
     go_wp2_with fail
     refine (l4Decode_any bk q _ HB16.out HBv.out hq).mono ?_
     rintro e w9 ⟨rfl, e9⟩
     rw [← HD.out]
     go_wp2
     exact hK.out _ _ ⟨rfl, ⟨hG.1.ex e9, hG.2.1.ext e9, hG.2.2.ext e9⟩, fun _ _ _ _ _ _ h => h⟩
    case o10 =>
     have l10 : Lx 10 = false := hl
     clear hl ha hb
     have d0 : _ = _ := hD 0 rfl
     have d1 : _ = _ := hD 1 rfl
     have d2 : _ = _ := hD 2 rfl
     have d3 : _ = _ := hD 3 rfl
     have d9 : _ = _ := hD 9 rfl
     clear hD hI
     generalize xs 0 = y0 at *
     generalize xs 1 = y1 at *
     generalize xs 2 = y2 at *
     generalize xs 3 = y3 at *
     generalize xs 9 = y9 at *
     subst d0 d1 d2 d3 d9
     rw [l10, ifF] at hG
     go_wp2_with fail
     refine (l8Put_any W H xi yj base g n c Z PR D _ HPl.out HDl.out HPb.out HDb.out hW32 (by omega) (by omega) hI (by omega) hG.1.own).mono ?_
     rintro e w9 ⟨rfl, o9, g9⟩
     go_wp2
     rw [← Hst.out] at o9
     exact hK.out _ _ ⟨trivial, ⟨hG.1.put g9 o9, hG.2.1.gr g9 (lv2 (by omega)), hG.2.2.grown g9 (fun z hz => by cases hz; simpa using hg2)⟩, fun _ _ _ _ _ _ h => h⟩
    all_goals
     have l10 : Lx 10 = false := hb 10 rfl
     clear hl ha hb hD hI
     go_wp2
     exact hK.out _ _ ⟨rfl, hG, fun _ _ _ _ _ _ h => h⟩
   intro xs wx hV hG0
   obtain ⟨Lx, hL, hG⟩ := hG0
   have l10 : Lx 10 = true := hL 10 (by decide)
   clear hL hV
   simp only [patchS, Nat.reduceAdd, Nat.reduceEqDiff, ↓reduceIte]
   generalize xs 0 = y0 at *
   generalize xs 1 = y1 at *
   generalize xs 2 = y2 at *
   generalize xs 3 = y3 at *
   generalize xs 4 = y4 at *
   generalize xs 5 = y5 at *
   generalize xs 6 = y6 at *
   generalize xs 7 = y7 at *
   generalize xs 8 = y8 at *
   generalize xs 9 = y9 at *
   generalize xs 10 = y10 at *
   replace hG : RS w base g n c ra rn rc W H ref m B (if Lx 10 = true then Z1 else Z) wx ∧ IB wx O2 29 PR ∧ Sl wx (some ⟨g2, 0, none⟩) 64 ((blkL ref x y m.x m.y).map (Value.int .i64)) := hG
   rw [l10, ifT] at hG
   clear RM pM SM
   have HG := Lib.hid hG
   clear hG
   go_wp2
   go_roundw
   case rel => exact ⟨k + 1, by omega, by go_num, by rw [← HZ1.out]; exact HG.out.1, Lib.hid HG.out.2.2⟩
   case measure => simp [intOf]; omega
  ·obtain rfl : k = 4 := by omega
   have HR := Lib.hid R3
   clear R3
   go_wp2
   go_end0
   exact ⟨rfl, HR.out.own, HR.out.gr⟩
end Go.Proofs.YtbnhaegidfbgbaaGreatDoor
namespace Go.Proofs.YtbnhaegidfbgbaaGreatDoor
open Go.RowKit
section
variable {P : Program} (w : World)
theorem run_append_keep (base : Nat) (t ty e : TypeId) (i : TypeInfo) (z : Value) (size bytes : Nat) (ht : P.underlying t = some (.slice e)) (hi : P.info? e = some i) (hz : i.zero = some z)
 (hsize : i.size = size) (hby : i.bytes = bytes) (hzs : z.cells.size = size) (hsz : 0 < size)
 (v : Value) (n : Nat) (xs : List Value) (hown : w.ownsRow base e size v n xs)
 (a : Addr) (m c : Nat) (news : List Value) (hl : news.length = m * size) (hnews : ∀ j u, news[j]? = some u → w.cell? (a.add j) = some u) (h1 : ∀ u ∈ news, u.oneCell' = true)
 (h63 : n + m ≤ maxLen) (hbytes : (n + m) * bytes ≤ 140737488355328) (hbase : base ≤ w.heap.size) :
 ∃ v' w', (Builtin.append_ #[t, t] ty #[v, .slice (some a) m c]).run P w = .ok v' w' ∧ w'.ownsRow base e size v' (n + m) (xs ++ news) ∧ w.grownBy w' v.ownBlock ∧
  (∀ b' n' own xs', n' ≤ n → w.ownsRow b' e size own n' xs' → w'.ownsRow b' e size own n' xs') := by
 obtain ⟨v', w', hr, h2, h3, -⟩ := run_append_own (P := P) w base t ty e i z size bytes ht hi hz hsize hby hzs hsz v n xs hown a m c news hl hnews h1 h63 hbytes hbase
 refine ⟨v', w', hr, h2, h3, fun b' n' own xs' hn' ho => ?_⟩
 by_cases hne : own.ownBlock = none ∨ own.ownBlock ≠ v.ownBlock
 ·exact ho.kept h3 hne
 ·have hsm : n + m ≤ 9223372036854775807 := by simp only [maxLen] at h63; omega
  rcases id hown.2 with ⟨rfl, rfl⟩ | ⟨g, cap, cur, rfl, hbg, hg, hnc, hcm, hcs, htake⟩
  ·exact absurd (show own.ownBlock = none ∨ _ from by
    cases h : own.ownBlock with
    | none => exact .inl rfl
    | some q => exact .inr (by simp [Value.ownBlock])) hne
  ·subst hsize
   by_cases hroom : n + m ≤ cap
   ·have hfit : n * i.size + news.length ≤ cur.size := by rw [hl, hcs, ← Nat.add_mul]; exact Nat.mul_le_mul_right _ hroom
    have hr2 := run_append_room (P := P) w t ty e i ht hi g n cap cur hg a m c news hl hnews h1 hroom hfit
    rw [hr] at hr2
    simp only [Result.ok.injEq] at hr2
    obtain ⟨-, rfl⟩ := hr2
    rcases id ho.2 with ⟨rfl, -⟩ | ⟨g', cap', cur', rfl, hb', hg', hnc', hcm', hcs', htake'⟩
    ·exact absurd (.inl rfl) hne
    ·have hgg : g' = g := by
      have : ¬ (some g' : Option Nat) ≠ some g := fun h => hne (.inr h)
      simpa using this
     subst hgg
     rw [hg] at hg'
     simp only [Option.some.injEq, Obj.cells.injEq, and_true] at hg'
     subst hg'
     refine ⟨ho.1, .inr ⟨g', cap', _, rfl, hb', setRow_heap w g' cur _ e _ hg, hnc', hcm', ?_, ?_⟩⟩
     ·simp only [List.size_toArray, List.length_append, List.length_take, List.length_drop, Array.length_toList]
      omega
     ·have hle : n' * i.size ≤ n * i.size := Nat.mul_le_mul_right _ hn'
      have hlen : (cur.toList.take (n * i.size)).length = n * i.size := by
       rw [List.length_take, Array.length_toList]; omega
      rw [List.toList_toArray, List.append_assoc, List.take_append_of_le_length (by rw [hlen]; exact hle), List.take_take, Nat.min_eq_left hle]
      exact htake'
   ·have holds : ∀ j u, xs[j]? = some u → w.cell? ((⟨g, 0, none⟩ : Addr).add j) = some u := hown.cells (g := g) rfl
    have hr2 := run_append_grow (P := P) w t ty e i z ht hi hz ⟨g, 0, none⟩ n cap xs hown.1 holds a m c news hl hnews (by omega) (by omega) (growslice_fits (by omega) (by rw [hby]; exact hbytes))
    rw [hr] at hr2
    simp only [Result.ok.injEq] at hr2
    obtain ⟨-, rfl⟩ := hr2
    exact ho.kept (row := none) ⟨rfl, rfl, rfl, by simp, fun k hk _ => (World.grownBy_alloc w.drew _ none).block k hk (by simp)⟩ (by cases own.ownBlock <;> simp)
/-- an operation that is wanted. -/
theorem wpList_want {ops : Array Oper} {rest : List Oper} {o : Oper} {a : Act} {Q : Exit → Act → World → Prop} {w : World} (hw : Region.wanted o (yielded ops a.tmps) = true)
 (h : ∀ K : Act → World → Prop, (∀ a w, wpList P ops Q rest a w → K a w) → o.wp P a w K Q) : wpList P ops Q (o :: rest) a w :=
 wpList_step fun K hK => by rw [if_pos hw]; exact h K hK
theorem wpList_appk {ops : Array Oper} {rest : List Oper} {o : Oper} {a : Act} {Q : Exit → Act → World → Prop} {base e size : Nat} {v : Value} {n : Nat} {xs : List Value}
 (hw : Region.wanted o (yielded ops a.tmps) = true)
 (hown : w.ownsRow base e size v n xs) (hbase : base ≤ w.heap.size)
 (s x : Operand) (t : TypeId) (ho : o.op = .call { callee := .builtin .append, args := #[s, x], argTypes := #[t, t] })
 (z : Value) (bytes : Nat) (h1 : P.underlying t = some (.slice e)) (h2 : (P.info? e).map (fun i => (i.zero, i.size, i.bytes)) = some (some z, size, bytes)) (hz1 : z.cells.size = size) (hsz : 0 < size)
 (hs : a.eval s = v) (ad : Addr) (m c : Nat) (us : List Value) (hx : a.eval x = .slice (some ad) m c) (hl : us.length = m * size) (hcell : ∀ (j : Nat) q, us[j]? = some q → w.cell? (ad.add j) = some q) (hu1 : ∀ u ∈ us, u.oneCell' = true)
 (hb : (n + m) * bytes ≤ 140737488355328) (hn : n + m < 2 ^ 62)
 (h : ∀ v' w', w'.ownsRow base e size v' (n + m) (xs ++ us) → w.grownBy w' v.ownBlock → (∀ b' n' own xs', n' ≤ n → w.ownsRow b' e size own n' xs' → w'.ownsRow b' e size own n' xs') → wpList P ops Q rest (a.put o.dst v') w') : wpList P ops Q (o :: rest) a w := by
 obtain ⟨i0, hi, hz0, hz1', hz2⟩ := info_parts h2
 obtain ⟨v', w', hr, k2, k3, k4⟩ := run_append_keep (P := P) w base t o.type e i0 z size bytes h1 hi hz0 hz1' hz2 hz1 hsz v n xs hown ad m c us hl hcell hu1 (by unfold maxLen; omega) hb hbase
 refine wpList_want hw fun K hK => ?_
 unfold Oper.wp execOp
 simp only [ho, resolve, invoke, builtin, Sem.run_bind, Sem.run_pure, Result.andThen_ok, List.map_toArray, List.map_cons, List.map_nil, hs, hx, hr]
 exact hK _ _ (h v' w' k2 k3 k4)
/-- append that does not fit. -/
theorem wpList_appn {ops : Array Oper} {rest : List Oper} {o : Oper} {a : Act} {Q : Exit → Act → World → Prop} {base e size g cap : Nat} {n : Nat} {xs : List Value}
 (hw : Region.wanted o (yielded ops a.tmps) = true)
 (hown : w.ownsRow base e size (.slice (some ⟨g, 0, none⟩) n cap) n xs) (hbase : base ≤ w.heap.size)
 (s x : Operand) (t : TypeId) (ho : o.op = .call { callee := .builtin .append, args := #[s, x], argTypes := #[t, t] })
 (z : Value) (bytes : Nat) (h1 : P.underlying t = some (.slice e)) (h2 : (P.info? e).map (fun i => (i.zero, i.size, i.bytes)) = some (some z, size, bytes)) (hz1 : z.cells.size = size) (hsz : 0 < size)
 (hs : a.eval s = .slice (some ⟨g, 0, none⟩) n cap) (ad : Addr) (m c : Nat) (us : List Value) (hx : a.eval x = .slice (some ad) m c) (hl : us.length = m * size) (hcell : ∀ (j : Nat) q, us[j]? = some q → w.cell? (ad.add j) = some q) (hu1 : ∀ u ∈ us, u.oneCell' = true)
 (hb : (n + m) * bytes ≤ 140737488355328) (hn : n + m < 2 ^ 62) (hcap : cap < n + m)
 (h : ∀ v' w', w'.ownsRow base e size v' (n + m) (xs ++ us) → Ext w w' → wpList P ops Q rest (a.put o.dst v') w') : wpList P ops Q (o :: rest) a w := by
 obtain ⟨i0, hi, hz0, hz1', hz2⟩ := info_parts h2
 obtain ⟨v', w', hr, k2, k3, k4⟩ := run_append_keep (P := P) w base t o.type e i0 z size bytes h1 hi hz0 hz1' hz2 hz1 hsz _ n xs hown ad m c us hl hcell hu1 (by unfold maxLen; omega) hb hbase
 have hE : Ext w w' := by
  subst hz1'
  have holds : ∀ j u, xs[j]? = some u → w.cell? ((⟨g, 0, none⟩ : Addr).add j) = some u := hown.cells (g := g) rfl
  have hr2 := run_append_grow (P := P) w t o.type e i0 z h1 hi hz0 ⟨g, 0, none⟩ n cap xs hown.1 holds ad m c us hl hcell (by omega) (by omega) (growslice_fits (by omega) (by rw [hz2]; exact hb))
  rw [hr] at hr2
  simp only [Result.ok.injEq] at hr2
  obtain ⟨-, rfl⟩ := hr2
  exact (Ext.drewN w 1).trans (Ext.alloc _ _)
 refine wpList_want hw fun K hK => ?_
 unfold Oper.wp execOp
 simp only [ho, resolve, invoke, builtin, Sem.run_bind, Sem.run_pure, Result.andThen_ok, List.map_toArray, List.map_cons, List.map_nil, hs, hx, hr]
 exact hK _ _ (h v' w' k2 hE)
end
end Go.Proofs.YtbnhaegidfbgbaaGreatDoor
namespace Go.Proofs.YtbnhaegidfbgbaaGreatDoor
open Go.RowKit
set_option maxHeartbeats 1000000
theorem one_i64 (zs : List Int) : ∀ u ∈ zs.map (Value.int .i64), u.oneCell' = true := by
 intro u hu
 obtain ⟨z, -, rfl⟩ := List.mem_map.1 hu
 rfl
theorem ext_noneP {w w' : World} {r : Option Nat} (g : w.grownBy w' r) (hr : r = none) : Ext w w' := Ext.grown (Below.refl _ _) g (fun k hk => by rw [hr] at hk; cases hk)
set_option maxRecDepth 100000 in
theorem clone_any (W H : Int) (a : Option Addr) (c n : Nat) (zs : List Int) (w : World) (hn : n < 2^40) (r : Sl w a n (zs.map (Value.int .i64))) :
 Calls Tryz.prog 45 #[.agg #[.int .i64 W, .int .i64 H, .slice a n c]] w fun e w' => ∃ a' c', e = .returned (.agg #[.int .i64 W, .int .i64 H, .slice a' n c']) ∧ w'.ownsRow w.heap.size 3 1 (.slice a' n c') n (zs.map (Value.int .i64)) ∧ Ext w w' := by
 have p0 := blk_alloc (blk_new w (.cells #[.int .i64 W, .int .i64 H, .slice a n c] 25)) (.cells #[.int .i64 0, .int .i64 0, .slice none 0 0] 25)
 have r0 := blk_new (w.alloc (.cells #[.int .i64 W, .int .i64 H, .slice a n c] 25)) (.cells #[.int .i64 0, .int .i64 0, .slice none 0 0] 25)
 have E0 := (Ext.alloc w (.cells #[.int .i64 W, .int .i64 H, .slice a n c] 25)).trans (Ext.alloc _ (.cells #[.int .i64 0, .int .i64 0, .slice none 0 0] 25))
 have hs : ((w.alloc (.cells #[.int .i64 W, .int .i64 H, .slice a n c] 25)).alloc (.cells #[.int .i64 0, .int .i64 0, .slice none 0 0] 25)).heap.size = w.heap.size + 1 + 1 := by simp
 simp only [World.size_alloc] at r0
 go_enter Tryz.func45, Tryz.ntmps45
 go_upto_region 1 with fail
 try simp only [World.size_alloc]
 generalize (w.alloc (.cells #[.int .i64 W, .int .i64 H, .slice a n c] 25)).alloc (.cells #[.int .i64 0, .int .i64 0, .slice none 0 0] 25) = w0 at *
 obtain ⟨B, hB⟩ : ∃ B, B = w.heap.size := ⟨_, rfl⟩
 rw [← hB] at p0 r0 hs ⊢
 have HB := Lib.hid hB
 have hsz : B + 2 ≤ w0.heap.size := by omega
 have hwB : w.heap.size ≤ B := by omega
 clear hB hs
 have hext : ∀ (i : Nat) (own : Value) (ys : Nat → Value) (wa wb : World), Ext wa wb → (match i with | 0 => own = .pointer (some ⟨B, 0, none⟩) | 1 => own = .int .i64 W | 2 => own = .pointer (some ⟨B, 1, none⟩) | 3 => own = .int .i64 H | 4 => own = .pointer (some ⟨B, 2, none⟩) | 5 => own = .slice a n c | 6 => ∃ (a1 : Option Addr) (c1 : Nat), own = .slice a1 n c1 ∧ wa.ownsRow (B + 2) 3 1 (.slice a1 n c1) n (zs.map (Value.int .i64)) | 7 => ∃ (a1 : Option Addr) (c1 : Nat), own = .agg #[.int .i64 W, .int .i64 H, .slice a1 n c1] ∧ wa.ownsRow (B + 2) 3 1 (.slice a1 n c1) n (zs.map (Value.int .i64)) | 8 => ∃ (a1 : Option Addr) (c1 : Nat), wa.heap[B + 1]? = some (.cells #[.int .i64 W, .int .i64 H, .slice a1 n c1] 25 (0, 0)) ∧ wa.ownsRow (B + 2) 3 1 (.slice a1 n c1) n (zs.map (Value.int .i64)) | _ => True) → (match i with | 0 => own = .pointer (some ⟨B, 0, none⟩) | 1 => own = .int .i64 W | 2 => own = .pointer (some ⟨B, 1, none⟩) | 3 => own = .int .i64 H | 4 => own = .pointer (some ⟨B, 2, none⟩) | 5 => own = .slice a n c | 6 => ∃ (a1 : Option Addr) (c1 : Nat), own = .slice a1 n c1 ∧ wb.ownsRow (B + 2) 3 1 (.slice a1 n c1) n (zs.map (Value.int .i64)) | 7 => ∃ (a1 : Option Addr) (c1 : Nat), own = .agg #[.int .i64 W, .int .i64 H, .slice a1 n c1] ∧ wb.ownsRow (B + 2) 3 1 (.slice a1 n c1) n (zs.map (Value.int .i64)) | 8 => ∃ (a1 : Option Addr) (c1 : Nat), wb.heap[B + 1]? = some (.cells #[.int .i64 W, .int .i64 H, .slice a1 n c1] 25 (0, 0)) ∧ wb.ownsRow (B + 2) 3 1 (.slice a1 n c1) n (zs.map (Value.int .i64)) | _ => True) := by
  intro i own ys wa wb e h
  match i, h with
  | 0, h | 1, h | 2, h | 3, h | 4, h | 5, h => exact h
  | 6, h | 7, h => obtain ⟨a2, c2, h1, h2⟩ := h; exact ⟨a2, c2, h1, owns_ext h2 e⟩
  | 8, h => obtain ⟨a2, c2, h1, h2⟩ := h; exact ⟨a2, c2, e.blk h1, owns_ext h2 e⟩
  | _ + 9, _ => trivial
 have Hext := Lib.hid hext
 clear hext
 refine wp_region_inv2 (by kernel_rfl) [(3, 0), (4, 1), (5, 2), (6, 3), (7, 4), (8, 5), (9, 6), (10, 7)] [[], [0], [], [2], [], [4], [4, 5], [0, 1, 2, 3, 4, 5, 6], [0, 1, 2, 3, 4, 5, 6, 7]] (fun i own ys wx => match i with | 0 => own = .pointer (some ⟨B, 0, none⟩) | 1 => own = .int .i64 W | 2 => own = .pointer (some ⟨B, 1, none⟩) | 3 => own = .int .i64 H | 4 => own = .pointer (some ⟨B, 2, none⟩) | 5 => own = .slice a n c | 6 => ∃ (a1 : Option Addr) (c1 : Nat), own = .slice a1 n c1 ∧ wx.ownsRow (B + 2) 3 1 (.slice a1 n c1) n (zs.map (Value.int .i64)) | 7 => ∃ (a1 : Option Addr) (c1 : Nat), own = .agg #[.int .i64 W, .int .i64 H, .slice a1 n c1] ∧ wx.ownsRow (B + 2) 3 1 (.slice a1 n c1) n (zs.map (Value.int .i64)) | 8 => ∃ (a1 : Option Addr) (c1 : Nat), wx.heap[B + 1]? = some (.cells #[.int .i64 W, .int .i64 H, .slice a1 n c1] 25 (0, 0)) ∧ wx.ownsRow (B + 2) 3 1 (.slice a1 n c1) n (zs.map (Value.int .i64)) | _ => True) (fun kx wx => Ext w wx ∧ B + 2 ≤ wx.heap.size ∧ wx.heap[B]? = some (.cells #[.int .i64 W, .int .i64 H, .slice a n c] 25 (0, 0)) ∧ ∃ x y z : Value, wx.heap[B + 1]? = some (.cells #[x, y, z] 25 (0, 0))) (by kernel_rfl) (by kernel_rfl) (by kernel_rfl) ?g0_r1 ?gop_r1 ?gend_r1
 case g0_r1 => exact ⟨Ext.trans_drewN E0 1, hsz, p0, _, _, _, r0⟩
 case gop_r1 =>
  refine ⟨?_, ?o1, ?_, ?o3, ?_, ?o5, ?o6, ?o7, ?o8, trivial⟩ <;> (intro kx xs wx hk hG hD hI Qo Kx hK hQo; simp only [patchS, Nat.reduceAdd, Nat.reduceEqDiff, ↓reduceIte] at hQo ⊢)
  case o1 =>
   have d0 : _ = _ := hD 0 rfl
   clear hD hI
   generalize xs 0 = y0 at *
   subst d0
   obtain ⟨-, k0, k1, k2, -⟩ := bx3 hG.2.2.1
   go_wp2
   exact hK.out _ _ ⟨rfl, hG, fun _ _ _ _ _ _ h => h⟩
  case o3 =>
   have d2 : _ = _ := hD 2 rfl
   clear hD hI
   generalize xs 2 = y2 at *
   subst d2
   obtain ⟨-, k0, k1, k2, -⟩ := bx3 hG.2.2.1
   go_wp2
   exact hK.out _ _ ⟨rfl, hG, fun _ _ _ _ _ _ h => h⟩
  case o5 =>
   have d4 : _ = _ := hD 4 rfl
   clear hD hI
   generalize xs 4 = y4 at *
   subst d4
   obtain ⟨-, k0, k1, k2, -⟩ := bx3 hG.2.2.1
   go_wp2
   exact hK.out _ _ ⟨rfl, hG, fun _ _ _ _ _ _ h => h⟩
  case o6 =>
   have d5 : _ = _ := hD 5 rfl
   clear hD hI
   generalize xs 5 = y5 at *
   subst d5
   refine wpList_apps _ (World.ownsRow_nil _ (B + 2) _ _) hG.2.1 rfl _ _ 23 rfl (.int .i64 0) 8 Tryz.underlying23 info_int rfl rfl a n c _ rfl (r.ext hG.1) (one_i64 zs) (by omega) (by omega) ?_
   intro v14 w14 own14 gr14
   rw [Nat.zero_add, List.nil_append] at own14
   obtain ⟨a14, c14, rfl⟩ := owns_form own14
   have e8 := ext_noneP gr14 rfl
   obtain ⟨g1, g2, g3, x, y, z, g4⟩ := hG
   exact hQo _ _ (hK.out _ _ ⟨⟨_, _, rfl, own14⟩, ⟨g1.trans e8, Nat.le_trans g2 e8.size, e8.blk g3, x, y, z, e8.blk g4⟩, fun i _ _ _ own ys h => Hext.out i own ys _ _ e8 h⟩)
  case o7 =>
   have d1 : _ = _ := hD 1 rfl
   have d3 : _ = _ := hD 3 rfl
   have d6 : ∃ (a1 : Option Addr) (c1 : Nat), (xs 6) = .slice a1 n c1 ∧ wx.ownsRow (B + 2) 3 1 (.slice a1 n c1) n (zs.map (Value.int .i64)) := hD 6 rfl
   clear hD hI
   generalize xs 1 = y1 at *
   generalize xs 3 = y3 at *
   generalize xs 6 = y6 at *
   subst d1 d3
   obtain ⟨a1, c1, rfl, o1⟩ := d6
   go_wp2
   exact hK.out _ _ ⟨⟨_, _, rfl, o1⟩, hG, fun _ _ _ _ _ _ h => h⟩
  case o8 =>
   have d7 : ∃ (a1 : Option Addr) (c1 : Nat), (xs 7) = .agg #[.int .i64 W, .int .i64 H, .slice a1 n c1] ∧ wx.ownsRow (B + 2) 3 1 (.slice a1 n c1) n (zs.map (Value.int .i64)) := hD 7 rfl
   clear hD hI
   generalize xs 7 = y7 at *
   obtain ⟨a7, c7, rfl, o7⟩ := d7
   obtain ⟨g1, g2, g3, x, y, z, g4⟩ := hG
   obtain ⟨-, k0, k1, k2, f0, f1, f2⟩ := bx3 g4
   go_wp2
   have hst : ∀ (wy : World), (∀ (v : Value) (xs : List Value), wx.ownsRow (B + 2) 3 1 v n xs → wy.ownsRow (B + 2) 3 1 v n xs) → ∀ (ii : Nat), ii < 9 → ii ≠ 8 → ([[], [0], [], [2], [], [4], [4, 5], [0, 1, 2, 3, 4, 5, 6], [0, 1, 2, 3, 4, 5, 6, 7]].getD ii []).contains 8 = false → ∀ (own : Value) (ys : Nat → Value), (match ii with | 0 => own = .pointer (some ⟨B, 0, none⟩) | 1 => own = .int .i64 W | 2 => own = .pointer (some ⟨B, 1, none⟩) | 3 => own = .int .i64 H | 4 => own = .pointer (some ⟨B, 2, none⟩) | 5 => own = .slice a n c | 6 => ∃ (a1 : Option Addr) (c1 : Nat), own = .slice a1 n c1 ∧ wx.ownsRow (B + 2) 3 1 (.slice a1 n c1) n (zs.map (Value.int .i64)) | 7 => ∃ (a1 : Option Addr) (c1 : Nat), own = .agg #[.int .i64 W, .int .i64 H, .slice a1 n c1] ∧ wx.ownsRow (B + 2) 3 1 (.slice a1 n c1) n (zs.map (Value.int .i64)) | 8 => ∃ (a1 : Option Addr) (c1 : Nat), wx.heap[B + 1]? = some (.cells #[.int .i64 W, .int .i64 H, .slice a1 n c1] 25 (0, 0)) ∧ wx.ownsRow (B + 2) 3 1 (.slice a1 n c1) n (zs.map (Value.int .i64)) | _ => True) → (match ii with | 0 => own = .pointer (some ⟨B, 0, none⟩) | 1 => own = .int .i64 W | 2 => own = .pointer (some ⟨B, 1, none⟩) | 3 => own = .int .i64 H | 4 => own = .pointer (some ⟨B, 2, none⟩) | 5 => own = .slice a n c | 6 => ∃ (a1 : Option Addr) (c1 : Nat), own = .slice a1 n c1 ∧ wy.ownsRow (B + 2) 3 1 (.slice a1 n c1) n (zs.map (Value.int .i64)) | 7 => ∃ (a1 : Option Addr) (c1 : Nat), own = .agg #[.int .i64 W, .int .i64 H, .slice a1 n c1] ∧ wy.ownsRow (B + 2) 3 1 (.slice a1 n c1) n (zs.map (Value.int .i64)) | 8 => ∃ (a1 : Option Addr) (c1 : Nat), wy.heap[B + 1]? = some (.cells #[.int .i64 W, .int .i64 H, .slice a1 n c1] 25 (0, 0)) ∧ wy.ownsRow (B + 2) 3 1 (.slice a1 n c1) n (zs.map (Value.int .i64)) | _ => True) := by
    intro wy hy ii hii hne hc own ys h
    match ii, h with
    | 0, h | 1, h | 2, h | 3, h | 4, h | 5, h => exact h
    | 6, h | 7, h => obtain ⟨a2, c2, h1, h2⟩ := h; exact ⟨a2, c2, h1, hy _ _ h2⟩
    | 8, h => exact absurd rfl hne
    | _ + 9, _ => trivial
   have hz := blk_set3 (x' := .int .i64 W) (y' := .int .i64 H) (z' := .slice a7 n c7) g4
   have hg3 : (((wx.setCell ⟨B + 1, 0, none⟩ (.int .i64 W)).setCell ⟨B + 1, 1, none⟩ (.int .i64 H)).setCell ⟨B + 1, 2, none⟩ (.slice a7 n c7)).heap[B]? = _ := blk_set_other (blk_set_other (blk_set_other g3 (by omega)) (by omega)) (by omega)
   have hkeep : ∀ (v : Value) (xs : List Value), wx.ownsRow (B + 2) 3 1 v n xs → (((wx.setCell ⟨B + 1, 0, none⟩ (.int .i64 W)).setCell ⟨B + 1, 1, none⟩ (.int .i64 H)).setCell ⟨B + 1, 2, none⟩ (.slice a7 n c7)).ownsRow (B + 2) 3 1 v n xs := fun v xs h => own_gr (own_gr (own_gr h (gr_set _ _ _ _) (by omega)) (gr_set _ _ _ _) (by omega)) (gr_set _ _ _ _) (by omega)
   have hE : Ext w (((wx.setCell ⟨B + 1, 0, none⟩ (.int .i64 W)).setCell ⟨B + 1, 1, none⟩ (.int .i64 H)).setCell ⟨B + 1, 2, none⟩ (.slice a7 n c7)) := Ext.grown (Ext.grown (Ext.grown g1 (gr_set _ _ _ _) (fun k e => by cases e; omega)) (gr_set _ _ _ _) (fun k e => by cases e; omega)) (gr_set _ _ _ _) (fun k e => by cases e; omega)
   exact hQo undef _ (hK.out _ _ ⟨⟨a7, c7, hz, hkeep _ _ o7⟩, ⟨hE, by simp; omega, hg3, _, _, _, hz⟩, hst _ hkeep⟩)
  all_goals
   clear hD hI
   go_wp2
   exact hK.out _ _ ⟨rfl, hG, fun _ _ _ _ _ _ h => h⟩
 clear Hext
 intro xs wx hV hG
 have d8 : ∃ (a1 : Option Addr) (c1 : Nat), wx.heap[B + 1]? = some (.cells #[.int .i64 W, .int .i64 H, .slice a1 n c1] 25 (0, 0)) ∧ wx.ownsRow (B + 2) 3 1 (.slice a1 n c1) n (zs.map (Value.int .i64)) := hV 8 (by decide)
 clear hV
 simp only [patchS, Nat.reduceAdd, Nat.reduceEqDiff, ↓reduceIte]
 generalize xs 0 = y0 at *
 generalize xs 1 = y1 at *
 generalize xs 2 = y2 at *
 generalize xs 3 = y3 at *
 generalize xs 4 = y4 at *
 generalize xs 5 = y5 at *
 generalize xs 6 = y6 at *
 generalize xs 7 = y7 at *
 generalize xs 8 = y8 at *
 replace hG : Ext w wx ∧ B + 2 ≤ wx.heap.size ∧ wx.heap[B]? = some (.cells #[.int .i64 W, .int .i64 H, .slice a n c] 25 (0, 0)) ∧ ∃ x y z : Value, wx.heap[B + 1]? = some (.cells #[x, y, z] 25 (0, 0)) := hG
 obtain ⟨a8, c8, q8, o8⟩ := d8
 go_wp2
 exact bodyPost_ret (v := .agg #[.int .i64 W, .int .i64 H, .slice a8 n c8]) (results_cell_row rfl _ _ (B + 1) 25 #[.int .i64 W, .int .i64 H, .slice a8 n c8] (0, 0) _ rfl q8 Tryz.underlying25 rfl size_Picture) rfl ⟨a8, c8, rfl, owns_mono o8 (by omega), hG.1⟩
set_option maxRecDepth 100000 in
theorem l8Copy_any (W H : Int) (a : Option Addr) (c n : Nat) (zs : List Int) (w : World) (hn : n < 2^40) (hn0 : 0 < n) (r : Sl w a n (zs.map (Value.int .i64))) :
 Calls Tryz.prog 95 #[.agg #[.int .i64 W, .int .i64 H, .slice a n c]] w fun e w' => ∃ a' c', e = .returned (.agg #[.int .i64 W, .int .i64 H, .slice a' n c']) ∧ w'.ownsRow w.heap.size 3 1 (.slice a' n c') n (zs.map (Value.int .i64)) ∧ Ext w w' := by
 have p0 := blk_alloc (blk_new w (.cells #[.int .i64 W, .int .i64 H, .slice a n c] 25)) (.cells #[.int .i64 0, .int .i64 0, .slice none 0 0] 25)
 have r0 := blk_new (w.alloc (.cells #[.int .i64 W, .int .i64 H, .slice a n c] 25)) (.cells #[.int .i64 0, .int .i64 0, .slice none 0 0] 25)
 have E0 := (Ext.alloc w (.cells #[.int .i64 W, .int .i64 H, .slice a n c] 25)).trans (Ext.alloc _ (.cells #[.int .i64 0, .int .i64 0, .slice none 0 0] 25))
 have hs : ((w.alloc (.cells #[.int .i64 W, .int .i64 H, .slice a n c] 25)).alloc (.cells #[.int .i64 0, .int .i64 0, .slice none 0 0] 25)).heap.size = w.heap.size + 1 + 1 := by simp
 simp only [World.size_alloc] at r0
 go_enter Tryz.func95, Tryz.ntmps95
 go_upto_region 1 with fail
 try simp only [World.size_alloc]
 generalize (w.alloc (.cells #[.int .i64 W, .int .i64 H, .slice a n c] 25)).alloc (.cells #[.int .i64 0, .int .i64 0, .slice none 0 0] 25) = w0 at *
 obtain ⟨B, hB⟩ : ∃ B, B = w.heap.size := ⟨_, rfl⟩
 rw [← hB] at p0 r0 hs ⊢
 have HB := Lib.hid hB
 have hsz : B + 2 ≤ w0.heap.size := by omega
 have hwB : w.heap.size ≤ B := by omega
 clear hB hs
 have hext : ∀ (i : Nat) (own : Value) (ys : Nat → Value) (wa wb : World), Ext wa wb → (match i with | 0 => own = .pointer (some ⟨B, 0, none⟩) | 1 => own = .int .i64 W | 2 => own = .pointer (some ⟨B, 1, none⟩) | 3 => own = .int .i64 H | 4 => ∃ g : Nat, own = .slice (some ⟨g, 0, none⟩) 0 0 ∧ wa.ownsRow (B + 2) 3 1 (.slice (some ⟨g, 0, none⟩) 0 0) 0 [] | 5 => own = .pointer (some ⟨B, 2, none⟩) | 6 => own = .slice a n c | 7 => ∃ (a1 : Option Addr) (c1 : Nat), own = .slice a1 n c1 ∧ wa.ownsRow (B + 2) 3 1 (.slice a1 n c1) n (zs.map (Value.int .i64)) | 8 => ∃ (a1 : Option Addr) (c1 : Nat), own = .agg #[.int .i64 W, .int .i64 H, .slice a1 n c1] ∧ wa.ownsRow (B + 2) 3 1 (.slice a1 n c1) n (zs.map (Value.int .i64)) | 9 => ∃ (a1 : Option Addr) (c1 : Nat), wa.heap[B + 1]? = some (.cells #[.int .i64 W, .int .i64 H, .slice a1 n c1] 25 (0, 0)) ∧ wa.ownsRow (B + 2) 3 1 (.slice a1 n c1) n (zs.map (Value.int .i64)) | _ => True) → (match i with | 0 => own = .pointer (some ⟨B, 0, none⟩) | 1 => own = .int .i64 W | 2 => own = .pointer (some ⟨B, 1, none⟩) | 3 => own = .int .i64 H | 4 => ∃ g : Nat, own = .slice (some ⟨g, 0, none⟩) 0 0 ∧ wb.ownsRow (B + 2) 3 1 (.slice (some ⟨g, 0, none⟩) 0 0) 0 [] | 5 => own = .pointer (some ⟨B, 2, none⟩) | 6 => own = .slice a n c | 7 => ∃ (a1 : Option Addr) (c1 : Nat), own = .slice a1 n c1 ∧ wb.ownsRow (B + 2) 3 1 (.slice a1 n c1) n (zs.map (Value.int .i64)) | 8 => ∃ (a1 : Option Addr) (c1 : Nat), own = .agg #[.int .i64 W, .int .i64 H, .slice a1 n c1] ∧ wb.ownsRow (B + 2) 3 1 (.slice a1 n c1) n (zs.map (Value.int .i64)) | 9 => ∃ (a1 : Option Addr) (c1 : Nat), wb.heap[B + 1]? = some (.cells #[.int .i64 W, .int .i64 H, .slice a1 n c1] 25 (0, 0)) ∧ wb.ownsRow (B + 2) 3 1 (.slice a1 n c1) n (zs.map (Value.int .i64)) | _ => True) := by
  intro i own ys wa wb e h
  match i, h with
  | 0, h | 1, h | 2, h | 3, h | 5, h | 6, h => exact h
  | 4, h => obtain ⟨g, h1, h2⟩ := h; exact ⟨g, h1, owns_ext h2 e⟩
  | 7, h | 8, h => obtain ⟨a2, c2, h1, h2⟩ := h; exact ⟨a2, c2, h1, owns_ext h2 e⟩
  | 9, h => obtain ⟨a2, c2, h1, h2⟩ := h; exact ⟨a2, c2, e.blk h1, owns_ext h2 e⟩
  | _ + 10, _ => trivial
 have Hext := Lib.hid hext
 clear hext
 refine wp_region_inv2 (by kernel_rfl) [(3, 0), (4, 1), (5, 2), (6, 3), (7, 4), (8, 5), (9, 6), (10, 7), (11, 8)] [[], [0], [], [2], [], [], [5], [4, 5, 6], [0, 1, 2, 3, 4, 5, 6, 7], [0, 1, 2, 3, 4, 5, 6, 7, 8]] (fun i own ys wx => match i with | 0 => own = .pointer (some ⟨B, 0, none⟩) | 1 => own = .int .i64 W | 2 => own = .pointer (some ⟨B, 1, none⟩) | 3 => own = .int .i64 H | 4 => ∃ g : Nat, own = .slice (some ⟨g, 0, none⟩) 0 0 ∧ wx.ownsRow (B + 2) 3 1 (.slice (some ⟨g, 0, none⟩) 0 0) 0 [] | 5 => own = .pointer (some ⟨B, 2, none⟩) | 6 => own = .slice a n c | 7 => ∃ (a1 : Option Addr) (c1 : Nat), own = .slice a1 n c1 ∧ wx.ownsRow (B + 2) 3 1 (.slice a1 n c1) n (zs.map (Value.int .i64)) | 8 => ∃ (a1 : Option Addr) (c1 : Nat), own = .agg #[.int .i64 W, .int .i64 H, .slice a1 n c1] ∧ wx.ownsRow (B + 2) 3 1 (.slice a1 n c1) n (zs.map (Value.int .i64)) | 9 => ∃ (a1 : Option Addr) (c1 : Nat), wx.heap[B + 1]? = some (.cells #[.int .i64 W, .int .i64 H, .slice a1 n c1] 25 (0, 0)) ∧ wx.ownsRow (B + 2) 3 1 (.slice a1 n c1) n (zs.map (Value.int .i64)) | _ => True) (fun kx wx => Ext w wx ∧ B + 2 ≤ wx.heap.size ∧ wx.heap[B]? = some (.cells #[.int .i64 W, .int .i64 H, .slice a n c] 25 (0, 0)) ∧ ∃ x y z : Value, wx.heap[B + 1]? = some (.cells #[x, y, z] 25 (0, 0))) (by kernel_rfl) (by kernel_rfl) (by kernel_rfl) ?g0_r2 ?gop_r2 ?gend_r2
 case g0_r2 => exact ⟨Ext.trans_drewN E0 1, hsz, p0, _, _, _, r0⟩
 case gop_r2 =>
  refine ⟨?_, ?o1, ?_, ?o3, ?o4, ?_, ?o6, ?o7, ?o8, ?o9, trivial⟩ <;> (intro kx xs wx hk hG hD hI Qo Kx hK hQo; simp only [patchS, Nat.reduceAdd, Nat.reduceEqDiff, ↓reduceIte] at hQo ⊢)
  case o1 =>
   have d0 : _ = _ := hD 0 rfl
   clear hD hI
   generalize xs 0 = y0 at *
   subst d0
   obtain ⟨-, k0, k1, k2, -⟩ := bx3 hG.2.2.1
   go_wp2
   exact hK.out _ _ ⟨rfl, hG, fun _ _ _ _ _ _ h => h⟩
  case o3 =>
   have d2 : _ = _ := hD 2 rfl
   clear hD hI
   generalize xs 2 = y2 at *
   subst d2
   obtain ⟨-, k0, k1, k2, -⟩ := bx3 hG.2.2.1
   go_wp2
   exact hK.out _ _ ⟨rfl, hG, fun _ _ _ _ _ _ h => h⟩
  case o4 =>
   clear hD hI
   go_wp2
   have ha := Ext.alloc wx (.cells #[] 3)
   have o4 := World.ownsRow_made (base := B + 2) (e := 3) (size := 1) wx #[] 0 hG.2.1 (by simp) rfl
   obtain ⟨g1, g2, g3, x, y, z, g4⟩ := hG
   exact hK.out _ _ ⟨⟨_, rfl, o4⟩, ⟨g1.trans ha, Nat.le_trans g2 ha.size, ha.blk g3, x, y, z, ha.blk g4⟩, fun i _ _ _ own ys h => Hext.out i own ys _ _ ha h⟩
  case o6 =>
   have d5 : _ = _ := hD 5 rfl
   clear hD hI
   generalize xs 5 = y5 at *
   subst d5
   obtain ⟨-, k0, k1, k2, -⟩ := bx3 hG.2.2.1
   go_wp2
   exact hK.out _ _ ⟨rfl, hG, fun _ _ _ _ _ _ h => h⟩
  case o7 =>
   have d4 : ∃ g : Nat, (xs 4) = .slice (some ⟨g, 0, none⟩) 0 0 ∧ wx.ownsRow (B + 2) 3 1 (.slice (some ⟨g, 0, none⟩) 0 0) 0 [] := hD 4 rfl
   have d6 : _ = _ := hD 6 rfl
   clear hD hI
   generalize xs 4 = y4 at *
   generalize xs 6 = y6 at *
   obtain ⟨g4, rfl, o4⟩ := d4
   subst d6
   have rx := r.ext hG.1
   obtain ⟨ad, hadr⟩ : ∃ ad, a = some ad := by obtain ⟨b1, o1, h1, -⟩ := rx.int hn0; exact ⟨_, h1⟩
   subst hadr
   refine wpList_appn _ rfl o4 hG.2.1 _ _ _ rfl (.int .i64 0) 8 Tryz.underlying23 info_int rfl (by decide) rfl ad n c _ rfl (by rw [rx.1]; omega) (rx.cellsOf _ hn0) (one_i64 zs) (by omega) (by omega) (by omega) ?_
   intro v14 w14 own14 e8
   rw [Nat.zero_add, List.nil_append] at own14
   obtain ⟨a14, c14, rfl⟩ := owns_form own14
   obtain ⟨g1, g2, g3, x, y, z, g4⟩ := hG
   exact hQo _ _ (hK.out _ _ ⟨⟨_, _, rfl, own14⟩, ⟨g1.trans e8, Nat.le_trans g2 e8.size, e8.blk g3, x, y, z, e8.blk g4⟩, fun i _ _ _ own ys h => Hext.out i own ys _ _ e8 h⟩)
  case o8 =>
   have d1 : _ = _ := hD 1 rfl
   have d3 : _ = _ := hD 3 rfl
   have d7 : ∃ (a1 : Option Addr) (c1 : Nat), (xs 7) = .slice a1 n c1 ∧ wx.ownsRow (B + 2) 3 1 (.slice a1 n c1) n (zs.map (Value.int .i64)) := hD 7 rfl
   clear hD hI
   generalize xs 1 = y1 at *
   generalize xs 3 = y3 at *
   generalize xs 7 = y7 at *
   subst d1 d3
   obtain ⟨a1, c1, rfl, o1⟩ := d7
   go_wp2
   exact hK.out _ _ ⟨⟨_, _, rfl, o1⟩, hG, fun _ _ _ _ _ _ h => h⟩
  case o9 =>
   have d8 : ∃ (a1 : Option Addr) (c1 : Nat), (xs 8) = .agg #[.int .i64 W, .int .i64 H, .slice a1 n c1] ∧ wx.ownsRow (B + 2) 3 1 (.slice a1 n c1) n (zs.map (Value.int .i64)) := hD 8 rfl
   clear hD hI
   generalize xs 8 = y8 at *
   obtain ⟨a7, c7, rfl, o7⟩ := d8
   obtain ⟨g1, g2, g3, x, y, z, g4⟩ := hG
   obtain ⟨-, k0, k1, k2, f0, f1, f2⟩ := bx3 g4
   go_wp2
   have hst : ∀ (wy : World), (∀ (v : Value) (nn : Nat) (xs : List Value), wx.ownsRow (B + 2) 3 1 v nn xs → wy.ownsRow (B + 2) 3 1 v nn xs) → ∀ (ii : Nat), ii < 10 → ii ≠ 9 → ([[], [0], [], [2], [], [], [5], [4, 5, 6], [0, 1, 2, 3, 4, 5, 6, 7], [0, 1, 2, 3, 4, 5, 6, 7, 8]].getD ii []).contains 9 = false → ∀ (own : Value) (ys : Nat → Value), (match ii with | 0 => own = .pointer (some ⟨B, 0, none⟩) | 1 => own = .int .i64 W | 2 => own = .pointer (some ⟨B, 1, none⟩) | 3 => own = .int .i64 H | 4 => ∃ g : Nat, own = .slice (some ⟨g, 0, none⟩) 0 0 ∧ wx.ownsRow (B + 2) 3 1 (.slice (some ⟨g, 0, none⟩) 0 0) 0 [] | 5 => own = .pointer (some ⟨B, 2, none⟩) | 6 => own = .slice a n c | 7 => ∃ (a1 : Option Addr) (c1 : Nat), own = .slice a1 n c1 ∧ wx.ownsRow (B + 2) 3 1 (.slice a1 n c1) n (zs.map (Value.int .i64)) | 8 => ∃ (a1 : Option Addr) (c1 : Nat), own = .agg #[.int .i64 W, .int .i64 H, .slice a1 n c1] ∧ wx.ownsRow (B + 2) 3 1 (.slice a1 n c1) n (zs.map (Value.int .i64)) | 9 => ∃ (a1 : Option Addr) (c1 : Nat), wx.heap[B + 1]? = some (.cells #[.int .i64 W, .int .i64 H, .slice a1 n c1] 25 (0, 0)) ∧ wx.ownsRow (B + 2) 3 1 (.slice a1 n c1) n (zs.map (Value.int .i64)) | _ => True) → (match ii with | 0 => own = .pointer (some ⟨B, 0, none⟩) | 1 => own = .int .i64 W | 2 => own = .pointer (some ⟨B, 1, none⟩) | 3 => own = .int .i64 H | 4 => ∃ g : Nat, own = .slice (some ⟨g, 0, none⟩) 0 0 ∧ wy.ownsRow (B + 2) 3 1 (.slice (some ⟨g, 0, none⟩) 0 0) 0 [] | 5 => own = .pointer (some ⟨B, 2, none⟩) | 6 => own = .slice a n c | 7 => ∃ (a1 : Option Addr) (c1 : Nat), own = .slice a1 n c1 ∧ wy.ownsRow (B + 2) 3 1 (.slice a1 n c1) n (zs.map (Value.int .i64)) | 8 => ∃ (a1 : Option Addr) (c1 : Nat), own = .agg #[.int .i64 W, .int .i64 H, .slice a1 n c1] ∧ wy.ownsRow (B + 2) 3 1 (.slice a1 n c1) n (zs.map (Value.int .i64)) | 9 => ∃ (a1 : Option Addr) (c1 : Nat), wy.heap[B + 1]? = some (.cells #[.int .i64 W, .int .i64 H, .slice a1 n c1] 25 (0, 0)) ∧ wy.ownsRow (B + 2) 3 1 (.slice a1 n c1) n (zs.map (Value.int .i64)) | _ => True) := by
    intro wy hy ii hii hne hc own ys h
    match ii, h with
    | 0, h | 1, h | 2, h | 3, h | 5, h | 6, h => exact h
    | 4, h => obtain ⟨g, h1, h2⟩ := h; exact ⟨g, h1, hy _ _ _ h2⟩
    | 7, h | 8, h => obtain ⟨a2, c2, h1, h2⟩ := h; exact ⟨a2, c2, h1, hy _ _ _ h2⟩
    | 9, h => exact absurd rfl hne
    | _ + 10, _ => trivial
   have hz := blk_set3 (x' := .int .i64 W) (y' := .int .i64 H) (z' := .slice a7 n c7) g4
   have hg3 : (((wx.setCell ⟨B + 1, 0, none⟩ (.int .i64 W)).setCell ⟨B + 1, 1, none⟩ (.int .i64 H)).setCell ⟨B + 1, 2, none⟩ (.slice a7 n c7)).heap[B]? = _ := blk_set_other (blk_set_other (blk_set_other g3 (by omega)) (by omega)) (by omega)
   have hkeep : ∀ (v : Value) (nn : Nat) (xs : List Value), wx.ownsRow (B + 2) 3 1 v nn xs → (((wx.setCell ⟨B + 1, 0, none⟩ (.int .i64 W)).setCell ⟨B + 1, 1, none⟩ (.int .i64 H)).setCell ⟨B + 1, 2, none⟩ (.slice a7 n c7)).ownsRow (B + 2) 3 1 v nn xs := fun v nn xs h => own_gr (own_gr (own_gr h (gr_set _ _ _ _) (by omega)) (gr_set _ _ _ _) (by omega)) (gr_set _ _ _ _) (by omega)
   have hE : Ext w (((wx.setCell ⟨B + 1, 0, none⟩ (.int .i64 W)).setCell ⟨B + 1, 1, none⟩ (.int .i64 H)).setCell ⟨B + 1, 2, none⟩ (.slice a7 n c7)) := Ext.grown (Ext.grown (Ext.grown g1 (gr_set _ _ _ _) (fun k e => by cases e; omega)) (gr_set _ _ _ _) (fun k e => by cases e; omega)) (gr_set _ _ _ _) (fun k e => by cases e; omega)
   exact hQo undef _ (hK.out _ _ ⟨⟨a7, c7, hz, hkeep _ _ _ o7⟩, ⟨hE, by simp; omega, hg3, _, _, _, hz⟩, hst _ hkeep⟩)
  all_goals
   clear hD hI
   go_wp2
   exact hK.out _ _ ⟨rfl, hG, fun _ _ _ _ _ _ h => h⟩
 clear Hext
 intro xs wx hV hG
 have d9 : ∃ (a1 : Option Addr) (c1 : Nat), wx.heap[B + 1]? = some (.cells #[.int .i64 W, .int .i64 H, .slice a1 n c1] 25 (0, 0)) ∧ wx.ownsRow (B + 2) 3 1 (.slice a1 n c1) n (zs.map (Value.int .i64)) := hV 9 (by decide)
 clear hV
 simp only [patchS, Nat.reduceAdd, Nat.reduceEqDiff, ↓reduceIte]
 generalize xs 0 = y0 at *
 generalize xs 1 = y1 at *
 generalize xs 2 = y2 at *
 generalize xs 3 = y3 at *
 generalize xs 4 = y4 at *
 generalize xs 5 = y5 at *
 generalize xs 6 = y6 at *
 generalize xs 7 = y7 at *
 generalize xs 8 = y8 at *
 generalize xs 9 = y9 at *
 replace hG : Ext w wx ∧ B + 2 ≤ wx.heap.size ∧ wx.heap[B]? = some (.cells #[.int .i64 W, .int .i64 H, .slice a n c] 25 (0, 0)) ∧ ∃ x y z : Value, wx.heap[B + 1]? = some (.cells #[x, y, z] 25 (0, 0)) := hG
 obtain ⟨a8, c8, q8, o8⟩ := d9
 go_wp2
 exact bodyPost_ret (v := .agg #[.int .i64 W, .int .i64 H, .slice a8 n c8]) (results_cell_row rfl _ _ (B + 1) 25 #[.int .i64 W, .int .i64 H, .slice a8 n c8] (0, 0) _ rfl q8 Tryz.underlying25 rfl size_Picture) rfl ⟨a8, c8, rfl, owns_mono o8 (by omega), hG.1⟩
end Go.Proofs.YtbnhaegidfbgbaaGreatDoor
namespace Go.Proofs.YtbnhaegidfbgbaaGreatDoor
open Go.RowKit
set_option maxHeartbeats 1000000
/-- The reconstructed picture. -/
noncomputable def recP (ref p : Pic) (x y : Int) (m : Mac) (q top : Int) : Pic := if okR ref p x y m q top then ⟨p.w, p.h, bldS ref p x.toNat y.toNat m q.toNat top 4⟩ else pic0
theorem kind3 {m : Mac} (hv : m.valid) (h : ¬ m.kind = 2) : m.kind = 0 ∨ m.kind = 1 := by have := hv.1; omega
theorem okR_ref {ref p : Pic} {x y : Int} {m : Mac} {q top : Int} (h : okR ref p x y m q top) (hk : ¬ m.kind = 2) : ref.valid := (h.2.2.2.2.resolve_left hk).1
theorem rebuild_any (ref : Pic) (W H x y : Nat) (px : List Int) (m : Mac) (q : Nat) (top : Int) (ra : Option Addr) (rn rc base g n c : Nat) (w : World) (hT : TabQ w) (hbT : 0 < base) (own : w.ownsRow base 3 1 (.slice (some ⟨g, 0, none⟩) n c) n (px.map (Value.int .i64)))
 (hp : placeP ⟨W, H, px⟩ x y) (hm : m.ok) (hv : m.valid) (hq : q < 16) (hrv : ¬ m.kind = 2 → ref.valid) (hrn : rn = ref.px.length) (hr : Sl w ra rn (ref.px.map (Value.int .i64))) (hrg : ¬ m.kind = 2 → ∀ z, ra = some z → z.block ≠ g) :
 Calls Tryz.prog 46 #[.agg #[.int .i64 W, .int .i64 H, .slice (some ⟨g, 0, none⟩) n c], .agg #[.int .i64 ref.w, .int .i64 ref.h, .slice ra rn rc], .int .i64 (x : Nat), .int .i64 (y : Nat), .agg (ic m.zs), .int .i64 q, .int .i64 top] w fun e w' => e = .returned (.tuple #[]) ∧ w'.ownsRow base 3 1 (.slice (some ⟨g, 0, none⟩) n c) n ((bldS ref ⟨W, H, px⟩ x y m q top 4).map (Value.int .i64)) ∧ w.grownBy w' (some g) := by
 by_cases hk : m.kind = 2
 ·exact rebuild_I ref W H x y px m q top ra rn rc base g n c w hT hbT own hp hm hv hq hk
 ·rcases kind3 hv hk with h | h
  ·exact rebuild_S ref W H x y px m q top ra rn rc base g n c w hT hbT own hp hm hv hq h (hrv hk) hrn hr (hrg hk)
  ·exact rebuild_P ref W H x y px m q top ra rn rc base g n c w hT hbT own hp hm hv hq h (hrv hk) hrn hr (hrg hk)
theorem l8Build_any (ref : Pic) (W H x y : Nat) (px : List Int) (m : Mac) (q : Nat) (top : Int) (ra : Option Addr) (rn rc base g n c : Nat) (w : World) (own : w.ownsRow base 3 1 (.slice (some ⟨g, 0, none⟩) n c) n (px.map (Value.int .i64)))
 (hp : placeP ⟨W, H, px⟩ x y) (hm : m.ok) (hv : m.valid) (hq : q < 16) (ht0 : 0 ≤ top) (hrv : ¬ m.kind = 2 → ref.valid) (hrn : rn = ref.px.length) (hr : Sl w ra rn (ref.px.map (Value.int .i64))) (hrg : ¬ m.kind = 2 → ∀ z, ra = some z → z.block ≠ g) :
 Calls Tryz.prog 96 #[.agg #[.int .i64 ref.w, .int .i64 ref.h, .slice ra rn rc], .agg #[.int .i64 W, .int .i64 H, .slice (some ⟨g, 0, none⟩) n c], .int .i64 (x : Nat), .int .i64 (y : Nat), .agg (ic m.zs), .int .i64 q, .int .i64 top] w fun e w' => e = .returned (.tuple #[]) ∧ w'.ownsRow base 3 1 (.slice (some ⟨g, 0, none⟩) n c) n ((bldS ref ⟨W, H, px⟩ x y m q top 4).map (Value.int .i64)) ∧ w.grownBy w' (some g) := by
 by_cases hk : m.kind = 2
 ·exact l8Build_I ref W H x y px m q top ra rn rc base g n c w own hp hm hv hq ht0 hk
 ·exact l8Build_S ref W H x y px m q top ra rn rc base g n c w own hp hm hv hq ht0 hk (hrv hk) hrn hr (hrg hk)
end Go.Proofs.YtbnhaegidfbgbaaGreatDoor
namespace Go.Proofs.YtbnhaegidfbgbaaGreatDoor
open Go.RowKit
set_option maxHeartbeats 1000000
/-- The row of the j-th number of diagonal d. -/
def scRow (d j : Nat) : Nat := if d % 2 = 0 then d - j else j
def scStep (d j : Nat) (s : Nat × List Int) : Nat × List Int := if scRow d j < 4 ∧ d - scRow d j < 4 then (s.1 + 1, s.2.set s.1 (4 * (scRow d j : Int) + ((d - scRow d j : Nat) : Int))) else (s.1, s.2)
def scIn (d : Nat) (s : Nat × List Int) : Nat → Nat × List Int
 | 0 => s
 | j + 1 => scStep d j (scIn d s j)
def scOut : Nat → Nat × List Int
 | 0 => (0, zl 16)
 | d + 1 => scIn d (scOut d) (d + 1)
/-- The order. -/
def scanL : List Int := [0, 1, 4, 8, 5, 2, 3, 6, 9, 12, 13, 10, 7, 11, 14, 15]
theorem scOut_all : scOut 7 = (16, scanL) := by decide
theorem sc_len : ∀ d, d < 7 → ∀ j, j ≤ d + 1 → (scIn d (scOut d) j).2.length = 16 ∧ (scIn d (scOut d) j).1 ≤ 16 ∧ (j < d + 1 → scRow d j < 4 ∧ d - scRow d j < 4 → (scIn d (scOut d) j).1 < 16) := by decide
theorem zero_A16s : (Tryz.prog.info? 29).map (·.zero) = some (some (.agg (ic (zl 16)))) := by kernel_rfl
theorem size_A16s : (Tryz.prog.info? 29).map (·.size) = some 16 := by kernel_rfl
set_option maxRecDepth 100000 in
theorem scanOrder_any (w : World) :
 Calls Tryz.prog 149 #[] w fun e w' => e = .returned (.agg (ic scanL)) ∧ Ext w w' := by
 go_enter Tryz.func149, Tryz.ntmps149
 have r0 := (IB.new w 29 (zl 16)).alloc (.cells (ic (zl 16)) 29)
 have p0 := IB.new (w.alloc (.cells (ic (zl 16)) 29)) 29 (zl 16)
 have E0 := (Ext.alloc w (.cells (ic (zl 16)) 29)).trans (Ext.alloc _ (.cells (ic (zl 16)) 29))
 simp only [World.size_alloc] at p0
 go_wp2_with (refine wpList_iallocz 29 rfl rfl 16 zero_A16s ?_; (try simp only [World.size_alloc]))
 go_loopw [2, 7] (fun n i wr => ∃ d : Nat, d ≤ 7 ∧ i = .int .i64 d ∧ n = .int .i64 ((scOut d).1 : Nat) ∧ Ext w wr ∧ IB wr w.heap.size 29 (zl 16) ∧ IB wr (w.heap.size + 1) 29 (scOut d).2) (fun _ i _ => 7 - (intOf i).toNat)
 case atStart => exact ⟨0, by omega, rfl, rfl, E0, r0, p0⟩
 case round =>
  obtain ⟨d, hd, rfl, rfl, E1, r1, p1⟩ := hrel
  clear E0 r0 p0
  by_cases hlt : d < 7
  ·have hd7 : decide ((d : Int) < 7) = true := by simp; omega
   go_wp2_with fail
   go_loopw [2, 12] (fun n i wr => ∃ j : Nat, j ≤ d + 1 ∧ i = .int .i64 j ∧ n = .int .i64 ((scIn d (scOut d) j).1 : Nat) ∧ Ext w wr ∧ IB wr w.heap.size 29 (zl 16) ∧ IB wr (w.heap.size + 1) 29 (scIn d (scOut d) j).2) (fun _ i _ => d + 1 - (intOf i).toNat)
   case atStart => exact ⟨0, by omega, rfl, rfl, E1, r1, p1⟩
   case round =>
    obtain ⟨j, hj, rfl, rfl, E2, r2, p2⟩ := hrel
    clear E1 r1 p1
    by_cases hlt2 : j < d + 1
    ·have hdj : decide ((j : Int) < (d : Int) + 1) = true := by simp; omega
     obtain ⟨l1, l2, l3⟩ := sc_len d hlt j hj
     have hst : scIn d (scOut d) (j + 1) = scStep d j (scIn d (scOut d) j) := rfl
     unfold scStep at hst
     obtain ⟨n, hn⟩ : ∃ n, n = (scIn d (scOut d) j).1 := ⟨_, rfl⟩
     obtain ⟨zs, hzs⟩ : ∃ zs, zs = (scIn d (scOut d) j).2 := ⟨_, rfl⟩
     rw [← hn, ← hzs] at hst
     rw [← hn] at l2 l3 ⊢
     rw [← hzs] at l1 p2
     have Hst := Lib.hid hst
     have L1 := Lib.hid l1
     have L3 := Lib.hid (l3 hlt2)
     clear hst hn hzs l1 l3
     obtain ⟨rw', hrw⟩ : ∃ r, r = scRow d j := ⟨_, rfl⟩
     rw [← hrw] at Hst L3
     have hrle : rw' ≤ d := by rw [hrw]; unfold scRow; split <;> omega
     have hfr := p2.frozen n
     by_cases hev : d % 2 = 0
     ·have he : rw' = d - j := by rw [hrw]; unfold scRow; rw [if_pos hev]
      have hm : ((d : Int) % 2 == 0) = true := by simp; omega
      have hev2 := Lib.hid hev
      clear hev hrw
      by_cases h1 : rw' < 4
      ·have d1 : decide (((d : Int) - (j : Int)) < 4) = true := by simp; omega
       by_cases h2 : d - rw' < 4
       ·have d2 : decide (((d : Int) - ((d : Int) - (j : Int))) < 4) = true := by simp; omega
        have hn16 := L3.out ⟨h1, h2⟩
        have hc := p2.cell (i := n) (by rw [L1.out]; exact hn16)
        have hst := Hst.out
        rw [if_pos ⟨h1, h2⟩] at hst
        have hv : 4 * ((d : Int) - (j : Int)) + ((d : Int) - ((d : Int) - (j : Int))) = 4 * (rw' : Int) + ((d - rw' : Nat) : Int) := by omega
        have Hv := Lib.hid hv
        have HS := Lib.hid hst
        clear hst hv Hst L3
        go_wp2
        go_roundw
        case rel => exact ⟨j + 1, by omega, by go_num, by rw [HS.out]; simp, Ext.grown E2 (gr_set _ _ _ _) (fun q hq => by cases hq; omega), r2.set_other (by omega), by rw [HS.out, ← Hv.out]; exact p2.set n _⟩
        case measure => simp [intOf]; omega
       ·have d2 : decide (((d : Int) - ((d : Int) - (j : Int))) < 4) = false := by simp; omega
        have hst := Hst.out
        rw [if_neg (fun h => h2 h.2)] at hst
        have HS := Lib.hid hst
        clear hst Hst L3
        go_wp2
        go_roundw
        case rel => exact ⟨j + 1, by omega, by go_num, by rw [HS.out], E2, r2, by rw [HS.out]; exact p2⟩
        case measure => simp [intOf]; omega
      ·have d1 : decide (((d : Int) - (j : Int)) < 4) = false := by simp; omega
       have hst := Hst.out
       rw [if_neg (fun h => h1 h.1)] at hst
       have HS := Lib.hid hst
       clear hst Hst L3
       go_wp2
       go_roundw
       case rel => exact ⟨j + 1, by omega, by go_num, by rw [HS.out], E2, r2, by rw [HS.out]; exact p2⟩
       case measure => simp [intOf]; omega
     ·have he : rw' = j := by rw [hrw]; unfold scRow; rw [if_neg hev]
      have hm : ((d : Int) % 2 == 0) = false := by simp; omega
      have hev2 := Lib.hid hev
      clear hev hrw
      by_cases h1 : rw' < 4
      ·have d1 : decide ((j : Int) < 4) = true := by simp; omega
       by_cases h2 : d - rw' < 4
       ·have d2 : decide (((d : Int) - (j : Int)) < 4) = true := by simp; omega
        have hn16 := L3.out ⟨h1, h2⟩
        have hc := p2.cell (i := n) (by rw [L1.out]; exact hn16)
        have hst := Hst.out
        rw [if_pos ⟨h1, h2⟩] at hst
        have hv : 4 * (j : Int) + ((d : Int) - (j : Int)) = 4 * (rw' : Int) + ((d - rw' : Nat) : Int) := by omega
        have Hv := Lib.hid hv
        have HS := Lib.hid hst
        clear hst hv Hst L3
        go_wp2
        go_roundw
        case rel => exact ⟨j + 1, by omega, by go_num, by rw [HS.out]; simp, Ext.grown E2 (gr_set _ _ _ _) (fun q hq => by cases hq; omega), r2.set_other (by omega), by rw [HS.out, ← Hv.out]; exact p2.set n _⟩
        case measure => simp [intOf]; omega
       ·have d2 : decide (((d : Int) - (j : Int)) < 4) = false := by simp; omega
        have hst := Hst.out
        rw [if_neg (fun h => h2 h.2)] at hst
        have HS := Lib.hid hst
        clear hst Hst L3
        go_wp2
        go_roundw
        case rel => exact ⟨j + 1, by omega, by go_num, by rw [HS.out], E2, r2, by rw [HS.out]; exact p2⟩
        case measure => simp [intOf]; omega
      ·have d1 : decide ((j : Int) < 4) = false := by simp; omega
       have hst := Hst.out
       rw [if_neg (fun h => h1 h.1)] at hst
       have HS := Lib.hid hst
       clear hst Hst L3
       go_wp2
       go_roundw
       case rel => exact ⟨j + 1, by omega, by go_num, by rw [HS.out], E2, r2, by rw [HS.out]; exact p2⟩
       case measure => simp [intOf]; omega
    ·obtain rfl : j = d + 1 := by omega
     have hdj : decide (((d + 1 : Nat) : Int) < (d : Int) + 1) = false := by simp
     go_wp2
     go_roundw
     case rel => exact ⟨d + 1, by omega, by go_num, rfl, E2, r2, p2⟩
     case measure => simp [intOf]; omega
  ·obtain rfl : d = 7 := by omega
   rw [scOut_all] at p1
   replace p1 : IB wr (w.heap.size + 1) 29 scanL := p1
   go_wp2_with (first | (refine wpList_iload 29 _ rfl rfl p1 0 16 rfl _ Tryz.underlying29 rfl size_A16s (by simp [scanL]) _ (by rw [sub_all scanL 16 rfl]) ?_) | (refine wpList_istore 29 _ _ rfl rfl r1 0 16 rfl _ rfl scanL rfl size_A16s rfl (by simp [zl]) ?_; intro wf pf gf; refine Hid.out ?_))
   rw [spl_all (by simp [zl, scanL])] at pf
   have Ef : Ext w wf := Ext.grown E1 gf (fun q hq => by cases hq; omega)
   refine Lib.hid ?_
   go_wp2
   exact bodyPost_ret (v := .agg (ic scanL)) (results_cell_row rfl _ _ w.heap.size 29 (ic scanL) (0, 0) _ rfl pf Tryz.underlying29 rfl (by rw [ic_size]; exact size_A16s)) rfl ⟨rfl, Ef⟩
end Go.Proofs.YtbnhaegidfbgbaaGreatDoor
namespace Go.Proofs.YtbnhaegidfbgbaaGreatDoor
open Go.RowKit
set_option maxHeartbeats 1000000
/-- Not a block of type T. -/
def notT (T : TypeId) (o : Obj) : Prop := ∀ cs fr, o ≠ .cells cs T fr
/-- Nothing below B changed, and of the rest only rows of type T. -/
structure FR (B T : Nat) (w w' : World) : Prop where
 lo : Below B w w'
 ot : ∀ (i : Nat) (o : Obj), w.heap[i]? = some o → notT T o → w'.heap[i]? = some o
theorem FR.refl (B T : Nat) (w : World) : FR B T w w := ⟨Below.refl _ _, fun _ _ h _ => h⟩
theorem FR.trans {B T : Nat} {a b c : World} (h : FR B T a b) (k : FR B T b c) : FR B T a c := ⟨h.lo.trans k.lo, fun i o h1 h2 => k.ot i o (h.ot i o h1 h2) h2⟩
theorem FR.of_ext {B T : Nat} {w w' : World} (h : Ext w w') (hB : B ≤ w.heap.size) : FR B T w w' := ⟨h.mono hB, fun _ _ h1 _ => h.blk h1⟩
theorem FR.of_row {B T s n : Nat} {v : Value} {xs : List Value} {w w' : World} (o : w.ownsRow B T s v n xs) (g : w.grownBy w' v.ownBlock) (hB : B ≤ w.heap.size) : FR B T w w' := by
 have hge := owns_ge o
 refine ⟨⟨g.os, g.tape, g.output, g.size, fun k hk => g.block k (by omega) (fun e => by have := hge k e.symm; omega)⟩, fun i ob h1 h2 => ?_⟩
 refine (g.block i (lt_of_block h1) (fun e => ?_)).trans h1
 rcases o.2 with ⟨rfl, -⟩ | ⟨b, cap, cur, rfl, -, hb, -⟩
 ·cases e
 ·cases e
  rw [hb] at h1
  cases h1
  exact h2 _ _ rfl
theorem FR.size {B T : Nat} {w w' : World} (h : FR B T w w') : w.heap.size ≤ w'.heap.size := h.lo.size
theorem FR.ext {B T : Nat} {a w w' : World} (h : Ext a w) (f : FR B T w w') (hB : a.heap.size ≤ B) : Ext a w' := Below.trans h (f.lo.mono hB)
theorem FR.ib {B T U b : Nat} {zs : List Int} {w w' : World} (f : FR B T w w') (h : IB w b U zs) (hne : U ≠ T) : IB w' b U zs := f.ot b _ h (fun cs fr e => by cases e; exact hne rfl)
theorem FR.blk {B T U b : Nat} {cs : Array Value} {fr : Nat × Nat} {w w' : World} (f : FR B T w w') (h : w.heap[b]? = some (.cells cs U fr)) (hne : U ≠ T) : w'.heap[b]? = some (.cells cs U fr) := f.ot b _ h (fun cs fr e => by cases e; exact hne rfl)
theorem FR.keeps {B T : Nat} {w w' : World} (f : FR B T w w') : KeepsOthers w w' := ⟨f.size, fun k o h1 h2 => f.ot k o h1 (fun cs fr e => by subst e; cases h2)⟩
set_option maxRecDepth 100000 in
set_option maxHeartbeats 4000000 in
theorem len64_in (x : Int) (w : World) (h0 : 0 ≤ x) (h1 : x < 65536) :
 Calls Tryz.prog 168 #[.int .u64 x] w fun e w' => e = .returned (.int .i64 (Lib.bitLen x.toNat)) ∧ w' = w := by
 by_cases hc : x < 256
 ·have h2 : x ≤ 255 := by omega
  have l := Lib.bitLen_le8' x h0 h2
  have e8 := Lib.len8_of x h0 h2
  go_enter Tryz.func168, Tryz.ntmps168
  go_wp2
  go_ret
  refine ⟨congrArg Ending.returned (congrArg (Value.int IntKind.i64) ?_), rfl⟩
  first | rfl | (unfold wrap64; omega)
 ·have h2 : 0 ≤ x / 256 := by omega
  have h3 : x / 256 ≤ 255 := by omega
  have l := Lib.bitLen_le8' (x / 256) h2 h3
  have e8 := Lib.len8_of (x / 256) h2 h3
  have s := Lib.bitLen_shift8 x.toNat (by omega) (by omega)
  have e : (x / 256).toNat = x.toNat / 256 := by omega
  rw [e] at l e8
  go_enter Tryz.func168, Tryz.ntmps168
  go_wp2
  go_ret
  refine ⟨congrArg Ending.returned (congrArg (Value.int IntKind.i64) ?_), rfl⟩
  first | rfl | (unfold wrap64; omega)
theorem len_in (x : Int) (w : World) (h0 : 0 ≤ x) (h1 : x < 65536) :
 Calls Tryz.prog 147 #[.int .u64 x] w fun e w' => e = .returned (.int .i64 (Lib.bitLen x.toNat)) ∧ w = w' := by
 have hw : IntKind.u64.wrap x = x := by rw [IntKind.wrap_u64]; omega
 go_enter Tryz.func147, Tryz.ntmps147
 go_wp2_with fail
 refine (len64_in x _ h0 h1).mono ?_
 rintro e w1 ⟨rfl, rfl⟩
 go_wp2
 go_ret
 exact ⟨rfl, rfl⟩
theorem bitLen_of {x k : Nat} (h1 : 2 ^ k ≤ x) (h2 : x < 2 ^ (k + 1)) (h3 : x < 2 ^ 64) : Lib.bitLen x = k + 1 := by
 rw [Lib.bitLen_shift k x h1 h3]
 have hp : 0 < 2 ^ k := Nat.pow_pos (by decide)
 have e : x / 2 ^ k = 1 := by
  rw [Nat.pow_succ] at h2
  exact (Nat.div_eq_iff hp).2 ⟨by omega, by omega⟩
 rw [e]
 rfl
/-- One less than the number of binary digits of n + 1. -/
def kOf (n : Nat) : Nat := Nat.log2 (n + 1)
theorem kOf_lo (n : Nat) : 2 ^ kOf n ≤ n + 1 := Nat.log2_self_le (by omega)
theorem kOf_hi (n : Nat) : n + 1 < 2 ^ (kOf n + 1) := Nat.lt_log2_self
theorem kOf_le {n : Nat} (h : n < 32768) : kOf n ≤ 15 := by
 have h1 := kOf_lo n
 refine Classical.byContradiction fun hk => ?_
 have h2 := Nat.pow_le_pow_right (show 0 < 2 by decide) (show 16 ≤ kOf n by omega)
 have : (2 : Nat) ^ 16 = 65536 := by decide
 omega
/-- The first i decisions: k times 1, and 0. -/
def upL (b k : Nat) : Nat → List Int
 | 0 => []
 | i + 1 => upL b k i ++ [((b + min i 5 : Nat) : Int), if i = k then 0 else 1]
/-- The k digits behind the first one, down to digit j. -/
def dnL (m b k : Nat) : Nat → List Int
 | 0 => []
 | j + 1 => dnL m b k j ++ [((b + 6 : Nat) : Int), ((m / 2 ^ (k - 1 - j) % 2 : Nat) : Int)]
def numL (n b : Nat) : List Int := upL b (kOf n) (kOf n + 1) ++ dnL (n + 1) b (kOf n) (kOf n)
/-- How many decisions there are. -/
def numN (n : Nat) : Nat := 2 * kOf n + 1
theorem numN_le {n : Nat} (h : n < 32768) : numN n ≤ 31 := by have := kOf_le h; unfold numN; omega
def sidx (v : Int) : Int := if 0 < v then 2 * v - 1 else -2 * v
theorem sidx_rng {v B : Int} (h1 : -B ≤ v) (h2 : v ≤ B) : 0 ≤ sidx v ∧ sidx v ≤ 2 * B := by unfold sidx; split <;> omega
theorem impl_SignedIndex_in (v : Int) (w : World) (h1 : -32767 ≤ v) (h2 : v ≤ 32767) :
 Calls Tryz.prog 107 #[.int .i64 v] w fun e w' => e = .returned (.int .i64 (sidx v)) ∧ w = w' := by
 unfold sidx
 go_enter Tryz.func107, Tryz.ntmps107
 by_cases hc : 0 < v
 ·rw [if_pos hc]
  go_wp2
  go_ret
  first | exact ⟨rfl, rfl⟩ | exact ⟨by simp; omega, rfl⟩
 ·rw [if_neg hc]
  go_wp2
  go_ret
  first | exact ⟨rfl, rfl⟩ | exact ⟨by simp; omega, rfl⟩
theorem spec_SignedIndex_in (v : Int) (w : World) (h1 : -32767 ≤ v) (h2 : v ≤ 32767) :
 Calls Tryz.prog 145 #[.int .i64 v] w fun e w' => e = .returned (.int .i64 (sidx v)) ∧ w = w' := by
 unfold sidx
 go_enter Tryz.func145, Tryz.ntmps145
 by_cases hc : 0 < v
 ·rw [if_pos hc]
  go_wp2_with fail
  refine (l1In_yes v (-32767) 32767 _ h1 h2).mono ?_
  rintro e w1 ⟨rfl, rfl⟩
  go_wp2
  go_ret
  first | exact ⟨rfl, rfl⟩ | exact ⟨by simp; omega, rfl⟩
 ·rw [if_neg hc]
  go_wp2_with fail
  refine (l1In_yes v (-32767) 32767 _ h1 h2).mono ?_
  rintro e w1 ⟨rfl, rfl⟩
  go_wp2
  go_ret
  first | exact ⟨rfl, rfl⟩ | exact ⟨by simp; omega, rfl⟩
end Go.Proofs.YtbnhaegidfbgbaaGreatDoor
namespace Go.Proofs.YtbnhaegidfbgbaaGreatDoor
open Go.RowKit
set_option maxHeartbeats 400000
/-- Block b is a reader of some bytes, at position p. -/
def Rd (w : World) (b : Nat) (p : Nat) : Prop :=
 ∃ (a : Option Addr) (m c : Nat) (zs : List Int), w.heap[b]? = some (.cells #[.slice a m c, .int .i64 p] 115 (0, 0)) ∧ m ≤ 2000 ∧ Sl w a m (zs.map (Value.int .u8)) ∧ (m = 0 ∨ ∀ x, a = some x → x.block < b) ∧ ∀ z ∈ zs, 0 ≤ z ∧ z ≤ 255
theorem Rd.ext {w w' : World} {b p : Nat} (h : Rd w b p) (e : Ext w w') : Rd w' b p := by
 obtain ⟨a, m, c, zs, h1, h2, h3, h4⟩ := h
 exact ⟨a, m, c, zs, e.blk h1, h2, h3.ext e, h4⟩
theorem Rd.lt {w : World} {b p : Nat} (h : Rd w b p) : b < w.heap.size := by
 obtain ⟨a, m, c, zs, h1, -⟩ := h
 exact lt_of_block h1
theorem grown_set {w wx : World} {r : Option Nat} {q j : Nat} {v : Value} (g : w.grownBy wx r) (hq : w.heap.size ≤ q) : w.grownBy (wx.setCell ⟨q, j, none⟩ v) r :=
 ⟨g.os, g.tape, g.output, by simpa using g.size, fun i hi hne => by rw [heap_setCell_other wx ⟨q, j, none⟩ i v (by simp; omega)]; exact g.block i hi hne⟩
theorem Rd.set {w : World} {b p q j : Nat} {v : Value} (h : Rd w b p) (hq : b < q) : Rd (w.setCell ⟨q, j, none⟩ v) b p := by
 obtain ⟨a, m, c, zs, h1, h2, h3, h4, h5⟩ := h
 refine ⟨a, m, c, zs, blk_set_other h1 (by omega), h2, ?_, h4, h5⟩
 rcases h4 with h4 | h4
 ·subst h4; exact ⟨h3.1, fun i hi => by omega⟩
 ·have g : w.grownBy (w.setCell ⟨q, j, none⟩ v) (some q) := ⟨rfl, rfl, rfl, by simp, fun k _ hk => heap_setCell_other w ⟨q, j, none⟩ k _ (fun e => hk (by simp [e]))⟩
  exact h3.grown g (fun x hx e => by have := h4 x hx; simp at e; omega)
end Go.Proofs.YtbnhaegidfbgbaaGreatDoor
