/- The reference's rebuild of a macroblock of a picture. | Reconstruct, both sides. | InterMacro, both sides. | The cost of a difference and the validity of the samples around a block, both sides. | The best prediction mode, both sides. | The intra macroblock: plain law, and the memory of both walks. | The intra macroblock: the program's. | Plain: a rebuilt picture inside and outside the macroblock; fine intra coding is lossless. | Plain: fine inter coding is lossless. | Plain: what the laws of macroblocks say of the coder. -/
import Derived.Test.YtbnhaegidfbgbaaDoorQf17
namespace Go.Proofs.YtbnhaegidfbgbaaDoor
open Go.RowKit
set_option maxHeartbeats 1000000
structure RS (w : World) (base g n c : Nat) (ra : Option Addr) (rn rc W H : Nat) (ref : Pic) (m : Mac) (B : Nat) (Z : List Int) (wx : World) : Prop where
 gr : w.grownBy wx (some g)
 own : wx.ownsRow base 3 1 (.slice (some ⟨g, 0, none⟩) n c) n (Z.map (Value.int .i64))
 b0 : wx.heap[B + 1]? = some (.cells #[.int .i64 W, .int .i64 H, .slice (some ⟨g, 0, none⟩) n c] 25 (0, 0))
 b1 : wx.heap[B]? = some (.cells #[.int .i64 ref.w, .int .i64 ref.h, .slice ra rn rc] 25 (0, 0))
 b2 : IB wx (B + 1 + 1) 34 m.zs
 gB : g < B
section
variable {w wx wy : World} {base g n c rn rc W H B : Nat} {ra : Option Addr} {ref : Pic} {m : Mac} {Z Z' : List Int}
theorem RS.ex (h : RS w base g n c ra rn rc W H ref m B Z wx) (e : Ext wx wy) : RS w base g n c ra rn rc W H ref m B Z wy :=
 ⟨grown_ext h.gr e, owns_ext h.own e, e.blk h.b0, e.blk h.b1, h.b2.ext e, h.gB⟩
theorem RS.drew (h : RS w base g n c ra rn rc W H ref m B Z wx) : RS w base g n c ra rn rc W H ref m B Z wx.drew := h.ex (Ext.drewN _ 1)
theorem RS.put (h : RS w base g n c ra rn rc W H ref m B Z wx) (gr : wx.grownBy wy (some g)) (own : wy.ownsRow base 3 1 (.slice (some ⟨g, 0, none⟩) n c) n (Z'.map (Value.int .i64))) : RS w base g n c ra rn rc W H ref m B Z' wy := by
 have := h.gB
 exact ⟨grownBy_trans h.gr gr, own, blk_gr h.b0 gr (by simp; omega), blk_gr h.b1 gr (by simp; omega), h.b2.gr gr (by simp; omega), h.gB⟩
theorem RS.loc {b' : Nat} (h : RS w base g n c ra rn rc W H ref m B Z wx) (gr : wx.grownBy wy (some b')) (hb : B + 1 + 1 < b') (hw : w.heap.size ≤ B) : RS w base g n c ra rn rc W H ref m B Z wy := by
 have := h.gB
 refine ⟨⟨gr.os.trans h.gr.os, gr.tape.trans h.gr.tape, gr.output.trans h.gr.output, Nat.le_trans h.gr.size gr.size, fun k hk hne => (gr.block k (Nat.lt_of_lt_of_le hk h.gr.size) (by simp; omega)).trans (h.gr.block k hk hne)⟩, h.own.kept gr (.inr (by simp [Value.ownBlock]; omega)), blk_gr h.b0 gr (by simp; omega), blk_gr h.b1 gr (by simp; omega), h.b2.gr gr (by simp; omega), h.gB⟩
end
set_option maxRecDepth 100000 in
set_option maxHeartbeats 4000000 in
theorem l8Build_I (ref : Pic) (W H x y : Nat) (px : List Int) (m : Mac) (q : Nat) (top : Int) (ra : Option Addr) (rn rc base g n c : Nat) (w : World) (own : w.ownsRow base 3 1 (.slice (some ⟨g, 0, none⟩) n c) n (px.map (Value.int .i64)))
 (hp : placeP ⟨W, H, px⟩ x y) (hm : m.ok) (hv : m.valid) (hq : q < 16) (ht0 : 0 ≤ top) (hk : m.kind = 2) :
 Calls Tryd.prog 62 #[.agg #[.int .i64 ref.w, .int .i64 ref.h, .slice ra rn rc], .agg #[.int .i64 W, .int .i64 H, .slice (some ⟨g, 0, none⟩) n c], .int .i64 (x : Nat), .int .i64 (y : Nat), .agg (ic m.zs), .int .i64 q, .int .i64 top] w fun e w' => e = .returned (.tuple #[]) ∧ w'.ownsRow base 3 1 (.slice (some ⟨g, 0, none⟩) n c) n ((bldS ref ⟨W, H, px⟩ x y m q top 4).map (Value.int .i64)) ∧ w.grownBy w' (some g) := by
 obtain ⟨hpv, hx0, hx1, hx8, hy0, hy1, hy8⟩ := hp
 have hxx : x + 8 ≤ W := by have h1 := hpv.1.2.2; simp only at hx1 h1; omega
 have hyy : y + 8 ≤ H := by have h1 := hpv.2.1.2.2; simp only at hy1 h1; omega
 have hW32 : W ≤ 32 := by have := hpv.1.2.1; simp only at this; omega
 have hH32 : H ≤ 32 := by have := hpv.2.1.2.1; simp only at this; omega
 have hpl : n = px.length := by have := own.1; simpa using this.symm
 have hnW : n = W * H := by
  have h1 := hpv.2.2.1
  simp only [← Int.natCast_mul] at h1
  rw [hpl]; exact Int.ofNat.inj h1
 have hn1k : n ≤ 1024 := by rw [hnW]; exact Nat.mul_le_mul hW32 hH32
 have inn : ∀ u v : Nat, u + 4 ≤ H → v + 4 ≤ W → (u + 3) * W + v + 3 < n := fun u v h1 h2 => by
  have h3 := Nat.mul_le_mul_right W (show u + 4 ≤ H by omega)
  rw [Nat.add_mul, Nat.mul_comm H W, ← hnW] at h3
  rw [Nat.add_mul]
  omega
 have Inn := Lib.hid inn
 have HV := Lib.hid (fun k => bldS_valid hpv ref x y m q top k)
 have HL := Lib.hid (fun k => show n = (bldS ref ⟨W, H, px⟩ x y m q top k).length by rw [bldS_len, hpl])
 have Hmv := Lib.hid hv
 have Hm := Lib.hid hm
 have Hl := Lib.hid (Mac.zs_len hm)
 have HK := Lib.hid hk
 have hbg : base ≤ g := (own.lt g rfl).1
 have hgw : g < w.heap.size := (own.lt g rfl).2
 have R0 : RS w base g n c ra rn rc W H ref m w.heap.size px (((((w.alloc (.cells #[.int .i64 ref.w, .int .i64 ref.h, .slice ra rn rc] 25)).alloc (.cells #[.int .i64 W, .int .i64 H, .slice (some ⟨g, 0, none⟩) n c] 25)).alloc (.cells (ic m.zs) 34))).alloc (.cells #[] 3)) := by
  have a1 := Ext.alloc w (.cells #[.int .i64 ref.w, .int .i64 ref.h, .slice ra rn rc] 25)
  have a2 := Ext.alloc (w.alloc (.cells #[.int .i64 ref.w, .int .i64 ref.h, .slice ra rn rc] 25)) (.cells #[.int .i64 W, .int .i64 H, .slice (some ⟨g, 0, none⟩) n c] 25)
  have a3 := Ext.alloc ((w.alloc (.cells #[.int .i64 ref.w, .int .i64 ref.h, .slice ra rn rc] 25)).alloc (.cells #[.int .i64 W, .int .i64 H, .slice (some ⟨g, 0, none⟩) n c] 25)) (.cells (ic m.zs) 34)
  have a4 := Ext.alloc (((w.alloc (.cells #[.int .i64 ref.w, .int .i64 ref.h, .slice ra rn rc] 25)).alloc (.cells #[.int .i64 W, .int .i64 H, .slice (some ⟨g, 0, none⟩) n c] 25)).alloc (.cells (ic m.zs) 34)) (.cells #[] 3)
  have q1 := a4.blk (a3.blk (blk_new (w.alloc (.cells #[.int .i64 ref.w, .int .i64 ref.h, .slice ra rn rc] 25)) (.cells #[.int .i64 W, .int .i64 H, .slice (some ⟨g, 0, none⟩) n c] 25)))
  have q2 := (IB.new ((w.alloc (.cells #[.int .i64 ref.w, .int .i64 ref.h, .slice ra rn rc] 25)).alloc (.cells #[.int .i64 W, .int .i64 H, .slice (some ⟨g, 0, none⟩) n c] 25)) 34 m.zs).ext a4
  simp only [World.size_alloc] at q1 q2
  exact ⟨grown_ext (grown_refl _ _) (((a1.trans a2).trans a3).trans a4), owns_ext own (((a1.trans a2).trans a3).trans a4), q1, a4.blk (a3.blk (a2.blk (blk_new _ _))), q2, hgw⟩
 have hkd : (m.kind == 2) = true := by simpa using hk
 have hkn : (m.kind != 2) = false := by simpa using hk
 have k0' := R0.b2.cell (i := 0) (by rw [Hl.out]; omega)
 rw [Mac.zs_kind] at k0'
 have r2 := R0.b2
 clear hpv hpl hnW inn hv hm hk own hx8 hy8 hx0 hy0 hx1 hy1
 go_enter Tryd.func62, Tryd.ntmps62
 go_wp2_with fail
 try simp only [World.size_alloc]
 obtain ⟨B, hB⟩ : ∃ B, B = w.heap.size := ⟨_, rfl⟩
 rw [← hB] at R0 r2 k0' ⊢
 have hwB : w.heap.size ≤ B := by omega
 have HB := Lib.hid hB
 clear hB r2 k0' hkn
 have R1 := R0
 clear R0
 go_loopw [15] (fun i wr => ∃ k : Nat, k ≤ 4 ∧ i = .int .i64 k ∧ RS w base g n c ra rn rc W H ref m B (bldS ref ⟨W, H, px⟩ x y m q top k) wr) (fun i _ => 4 - (intOf i).toNat)
 case atStart => exact ⟨0, by omega, rfl, R1⟩
 case round =>
  obtain ⟨k, hk, rfl, R3⟩ := hrel
  clear R1
  by_cases hlt : k < 4
  ·have hd : decide ((k : Int) < 4) = true := by simp; omega
   have hZv := HV.out k
   have hZn := HL.out k
   have Hst := Lib.hid (bld_step ref W H px x y m q top k)
   obtain ⟨Z, hZ⟩ : ∃ Z, Z = bldS ref ⟨W, H, px⟩ x y m q top k := ⟨_, rfl⟩
   obtain ⟨Z1, hZ1⟩ : ∃ Z, Z = bldS ref ⟨W, H, px⟩ x y m q top (k + 1) := ⟨_, rfl⟩
   rw [← hZ] at R3 hZv hZn Hst
   rw [← hZ1] at Hst
   have HZ1 := Lib.hid hZ1
   have HZv := Lib.hid hZv
   have HZn := Lib.hid hZn
   obtain ⟨xi, hxi⟩ : ∃ v, v = x + k % 2 * 4 := ⟨_, rfl⟩
   obtain ⟨yj, hyj⟩ : ∃ v, v = y + k / 2 * 4 := ⟨_, rfl⟩
   have HPK := Lib.hid (show prK ref W H Z x y m top k = prd (nth m.modes k).toNat (edg ⟨W, H, Z⟩ ((x + k % 2 * 4 : Nat) : Int) ((y + k / 2 * 4 : Nat) : Int) top) from if_pos HK.out)
   rw [← hxi, ← hyj] at Hst HPK
   have hxi4 : xi + 4 ≤ W := by omega
   have hyj4 : yj + 4 ≤ H := by omega
   have Hxi := Lib.hid (show (x : Int) + (k : Int) % 2 * 4 = ((xi : Nat) : Int) by omega)
   have Hyj := Lib.hid (show (y : Int) + (k : Int) / 2 * 4 = ((yj : Nat) : Int) by omega)
   have hI := Inn.out yj xi hyj4 hxi4
   have hB16 := sub16 Hm.out.lv hlt
   have hBv := lv_blk Hm.out Hmv.out hlt
   obtain ⟨bk, hbk⟩ : ∃ b, b = sub m.lv (k * 16) 16 := ⟨_, rfl⟩
   have Hbk := Lib.hid hbk
   rw [← hbk] at hB16 hBv Hst
   have HB16 := Lib.hid hB16
   have HBv := Lib.hid hBv
   clear hZ hZ1 hxi hyj hbk hB16 hBv hZv hZn
   have hcK := R3.b2.cell (i := 0) (by rw [Hl.out]; omega)
   rw [Mac.zs_kind] at hcK
   have ib := IB.new wr 31 (List.replicate 16 0)
   have R6 := R3.ex (Ext.alloc wr (.cells (ic (List.replicate 16 0)) 31))
   have hO2 := lt_of_block R3.b2
   have hO3 := lt_of_block R3.b2
   obtain ⟨O2, hO2e⟩ : ∃ O, O = wr.heap.size := ⟨_, rfl⟩
   rw [← hO2e] at ib hO2
   have HO2 := Lib.hid hO2e
   have hb0 := R6.b0
   have hgB := R6.gB
   obtain ⟨E, hE⟩ : ∃ E, E = edg ⟨W, H, Z⟩ (xi : Int) (yj : Int) top := ⟨_, rfl⟩
   have hEok := edg_ok HZv.out (xi : Int) (yj : Int) top
   rw [← hE] at hEok HPK
   have HE := Lib.hid hE
   have HEok := Lib.hid hEok
   have hmr := Hmv.out.2.2.2.2.1 HK.out k hlt
   obtain ⟨md, hmd⟩ : ∃ v : Nat, nth m.modes k = (v : Int) := ⟨(nth m.modes k).toNat, by omega⟩
   rw [hmd] at hmr
   rw [hmd, Int.toNat_natCast] at HPK
   have Hmd := Lib.hid hmd
   obtain ⟨PR, hPR⟩ : ∃ P, P = prd md E := ⟨_, rfl⟩
   rw [← hPR] at HPK
   rw [HPK.out] at Hst
   have HPR := Lib.hid hPR
   clear hE hEok hmd hPR
   have hPl : PR.length = 16 := by rw [HPR.out, prd_len]
   have HPl := Lib.hid hPl
   have hPb : bdA 1099511627776 PR := by rw [HPR.out]; exact smp_bd (prd_smp _ HEok.out)
   have HPb := Lib.hid hPb
   clear hPl hPb
   go_wp2_with fail
   rw [← hO2e]
   clear hO2e hcK hO3
   have G7 : RS w base g n c ra rn rc W H ref m B Z (wr.alloc (.cells (ic (List.replicate 16 0)) 31)) ∧ IB (wr.alloc (.cells (ic (List.replicate 16 0)) 31)) O2 31 (List.replicate 16 0) := ⟨R6, ib⟩
   clear R3 R6 ib hb0
   refine wp_region_invL (by kernel_rfl) [(47, 0), (48, 1), (49, 2), (50, 3), (51, 4), (52, 5), (53, 6), (54, 7), (55, 8), (56, 9)] [[], [], [0, 1], [0, 1, 2], [], [], [], [], [4, 5, 6, 7], [0, 1, 2, 3, 4, 5, 6, 7, 8], [0, 1, 2, 3, 4, 5, 6, 7, 8, 9]] (fun i own ys wx => match i with | 0 => own = .int .i64 (k : Nat) | 1 => own = .pointer (some ⟨B + 1 + 1, 3, none⟩) | 2 => own = .pointer (some ⟨B + 1 + 1, 3 + k, none⟩) | 3 => own = .int .i64 (md : Nat) | 4 => own = .agg #[.int .i64 W, .int .i64 H, .slice (some ⟨g, 0, none⟩) n c] | 5 => own = .int .i64 (xi : Nat) | 6 => own = .int .i64 (yj : Nat) | 7 => own = .int .i64 top | 8 => own = .agg (edC E) | 9 => own = .agg (ic PR) | 10 => True | _ => True) (fun Lx wx => RS w base g n c ra rn rc W H ref m B Z wx ∧ IB wx O2 31 (if Lx 10 = true then PR else (List.replicate 16 0))) (by kernel_rfl) (by kernel_rfl) (by kernel_rfl) ?g0_r1 ?gop_r1 ?gend_r1
   case g0_r1 => exact ⟨G7.1.drew, G7.2.drewN 1⟩
   case gop_r1 =>
    refine ⟨?_, ?_, ?_, ?_, ?_, ?_, ?_, ?_, ?_, ?_, ?_, trivial⟩
    ·intro Lx xs wx hG hl ha hb hD hI Qo Kx hK hQo
     have l10 : Lx 10 = false := hb 10 rfl
     clear hl ha hb hD hI
     simp only [patchS, Nat.reduceAdd, Nat.reduceEqDiff, ↓reduceIte] at hQo ⊢
     go_wp2
     exact hK.out _ _ ⟨rfl, hG, fun _ _ _ _ _ _ h => h⟩
    ·intro Lx xs wx hG hl ha hb hD hI Qo Kx hK hQo
     have l10 : Lx 10 = false := hb 10 rfl
     clear hl ha hb hD hI
     simp only [patchS, Nat.reduceAdd, Nat.reduceEqDiff, ↓reduceIte] at hQo ⊢
     go_wp2
     exact hK.out _ _ ⟨rfl, hG, fun _ _ _ _ _ _ h => h⟩
    ·intro Lx xs wx hG hl ha hb hD hI Qo Kx hK hQo
     have l10 : Lx 10 = false := hb 10 rfl
     clear hl ha hb
     have d0 : (xs 0) = .int .i64 (k : Nat) := hD 0 rfl
     have d1 : (xs 1) = .pointer (some ⟨B + 1 + 1, 3, none⟩) := hD 1 rfl
     clear hD hI
     simp only [patchS, Nat.reduceAdd, Nat.reduceEqDiff, ↓reduceIte] at hQo ⊢
     generalize xs 0 = y0 at *
     generalize xs 1 = y1 at *
     subst d0 d1
     go_wp2
     exact hK.out _ _ ⟨rfl, hG, fun _ _ _ _ _ _ h => h⟩
    ·intro Lx xs wx hG hl ha hb hD hI Qo Kx hK hQo
     have l10 : Lx 10 = false := hb 10 rfl
     clear hl ha hb
     have d2 : (xs 2) = .pointer (some ⟨B + 1 + 1, 3 + k, none⟩) := hD 2 rfl
     clear hD hI
     simp only [patchS, Nat.reduceAdd, Nat.reduceEqDiff, ↓reduceIte] at hQo ⊢
     generalize xs 2 = y2 at *
     subst d2
     have cx := hG.1.b2.cell (i := 3 + k) (by rw [Hl.out]; omega)
     rw [Mac.nth_mode Hm.out k hlt, Hmd.out] at cx
     go_wp2
     exact hK.out _ _ ⟨rfl, hG, fun _ _ _ _ _ _ h => h⟩
    ·intro Lx xs wx hG hl ha hb hD hI Qo Kx hK hQo
     have l10 : Lx 10 = false := hb 10 rfl
     clear hl ha hb hD hI
     simp only [patchS, Nat.reduceAdd, Nat.reduceEqDiff, ↓reduceIte] at hQo ⊢
     obtain ⟨-, k0, k1, k2, -⟩ := bx3 hG.1.b0
     go_wp2
     exact hK.out _ _ ⟨rfl, hG, fun _ _ _ _ _ _ h => h⟩
    ·intro Lx xs wx hG hl ha hb hD hI Qo Kx hK hQo
     have l10 : Lx 10 = false := hb 10 rfl
     clear hl ha hb hD hI
     simp only [patchS, Nat.reduceAdd, Nat.reduceEqDiff, ↓reduceIte] at hQo ⊢
     go_wp2
     exact hK.out _ _ ⟨by rw [← Hxi.out], hG, fun _ _ _ _ _ _ h => h⟩
    ·intro Lx xs wx hG hl ha hb hD hI Qo Kx hK hQo
     have l10 : Lx 10 = false := hb 10 rfl
     clear hl ha hb hD hI
     simp only [patchS, Nat.reduceAdd, Nat.reduceEqDiff, ↓reduceIte] at hQo ⊢
     go_wp2
     exact hK.out _ _ ⟨by rw [← Hyj.out], hG, fun _ _ _ _ _ _ h => h⟩
    ·intro Lx xs wx hG hl ha hb hD hI Qo Kx hK hQo
     have l10 : Lx 10 = false := hb 10 rfl
     clear hl ha hb hD hI
     simp only [patchS, Nat.reduceAdd, Nat.reduceEqDiff, ↓reduceIte] at hQo ⊢
     go_wp2
     exact hK.out _ _ ⟨rfl, hG, fun _ _ _ _ _ _ h => h⟩
    ·intro Lx xs wx hG hl ha hb hD hI Qo Kx hK hQo
     have l10 : Lx 10 = false := hb 10 rfl
     clear hl ha hb
     have d4 : (xs 4) = .agg #[.int .i64 W, .int .i64 H, .slice (some ⟨g, 0, none⟩) n c] := hD 4 rfl
     have d5 : (xs 5) = .int .i64 (xi : Nat) := hD 5 rfl
     have d6 : (xs 6) = .int .i64 (yj : Nat) := hD 6 rfl
     have d7 : (xs 7) = .int .i64 top := hD 7 rfl
     clear hD hI
     simp only [patchS, Nat.reduceAdd, Nat.reduceEqDiff, ↓reduceIte] at hQo ⊢
     generalize xs 4 = y4 at *
     generalize xs 5 = y5 at *
     generalize xs 6 = y6 at *
     generalize xs 7 = y7 at *
     subst d4 d5 d6 d7
     go_wp2_with fail
     refine (l6Edges_any ⟨W, H, Z⟩ xi yj W H top (some ⟨g, 0, none⟩) c n _ HZv.out HZn.out (Sl.of_owns hG.1.own) rfl rfl (by omega) (by omega) ht0).mono ?_
     rintro e w9 ⟨rfl, e9⟩
     rw [← HE.out]
     go_wp2
     exact hK.out _ _ ⟨rfl, ⟨hG.1.ex e9, hG.2.ext e9⟩, fun _ _ _ _ _ _ h => h⟩
    ·intro Lx xs wx hG hl ha hb hD hI Qo Kx hK hQo
     have l10 : Lx 10 = false := hb 10 rfl
     clear hl ha hb
     have d3 : (xs 3) = .int .i64 (md : Nat) := hD 3 rfl
     have d8 : (xs 8) = .agg (edC E) := hD 8 rfl
     clear hD hI
     simp only [patchS, Nat.reduceAdd, Nat.reduceEqDiff, ↓reduceIte] at hQo ⊢
     generalize xs 3 = y3 at *
     generalize xs 8 = y8 at *
     subst d3 d8
     go_wp2_with fail
     refine (l6Predict_any E md _ HEok.out (by omega)).mono ?_
     rintro e w9 ⟨rfl, e9⟩
     rw [← HPR.out]
     go_wp2
     exact hK.out _ _ ⟨rfl, ⟨hG.1.ex e9, hG.2.ext e9⟩, fun _ _ _ _ _ _ h => h⟩
    ·intro Lx xs wx hG hl ha hb hD hI Qo Kx hK hQo
     have l10 : Lx 10 = false := hl
     clear hl ha hb
     have d9 : (xs 9) = .agg (ic PR) := hD 9 rfl
     clear hD hI
     simp only [patchS, Nat.reduceAdd, Nat.reduceEqDiff, ↓reduceIte] at hQo ⊢
     generalize xs 9 = y9 at *
     subst d9
     rw [l10, ifF] at hG
     refine wpList_istore 31 _ _ rfl rfl hG.2 0 16 rfl _ rfl PR rfl size_A16 HPl.out (by simp) ?_
     intro w9 i9 g9
     rw [spl_all (by rw [HPl.out]; simp)] at i9
     exact hQo undef _ (hK.out _ _ ⟨trivial, ⟨hG.1.loc g9 (by omega) hwB, i9⟩, fun _ _ _ _ _ _ h => h⟩)
   intro xs wx hV hG0
   obtain ⟨Lx, hL, hG⟩ := hG0
   have l10 : Lx 10 = true := hL 10 (by decide)
   clear hL
   have d0 : (xs 0) = .int .i64 (k : Nat) := hV 0 (by decide)
   have d1 : (xs 1) = .pointer (some ⟨B + 1 + 1, 3, none⟩) := hV 1 (by decide)
   have d2 : (xs 2) = .pointer (some ⟨B + 1 + 1, 3 + k, none⟩) := hV 2 (by decide)
   have d3 : (xs 3) = .int .i64 (md : Nat) := hV 3 (by decide)
   have d4 : (xs 4) = .agg #[.int .i64 W, .int .i64 H, .slice (some ⟨g, 0, none⟩) n c] := hV 4 (by decide)
   have d5 : (xs 5) = .int .i64 (xi : Nat) := hV 5 (by decide)
   have d6 : (xs 6) = .int .i64 (yj : Nat) := hV 6 (by decide)
   have d7 : (xs 7) = .int .i64 top := hV 7 (by decide)
   have d8 : (xs 8) = .agg (edC E) := hV 8 (by decide)
   have d9 : (xs 9) = .agg (ic PR) := hV 9 (by decide)
   clear hV
   simp only [patchS, Nat.reduceAdd, Nat.reduceEqDiff, ↓reduceIte]
   generalize xs 0 = y0 at *
   generalize xs 1 = y1 at *
   generalize xs 2 = y2 at *
   generalize xs 3 = y3 at *
   generalize xs 4 = y4 at *
   generalize xs 5 = y5 at *
   generalize xs 6 = y6 at *
   generalize xs 7 = y7 at *
   generalize xs 8 = y8 at *
   generalize xs 9 = y9 at *
   generalize xs 10 = y10 at *
   replace hG : RS w base g n c ra rn rc W H ref m B Z wx ∧ IB wx O2 31 (if Lx 10 = true then PR else (List.replicate 16 0)) := hG
   clear d0 d1 d2 d3 d4 d5 d6 d7 d8 d9
   rw [l10, ifT] at hG
   clear G7
   obtain ⟨RM, pM⟩ := hG
   go_wp2_with fail
   obtain ⟨D, hD⟩ : ∃ D, D = dec bk q := ⟨_, rfl⟩
   rw [← hD] at Hst
   have HD := Lib.hid hD
   have HDl := Lib.hid (show D.length = 16 by rw [hD, dec_len])
   have HDb := Lib.hid (show bdA 1099511627776 D by rw [hD]; exact dec_bd _ _)
   clear hD
   refine wp_region_invL (by kernel_rfl) [(60, 0), (61, 1), (62, 2), (63, 3), (64, 4), (65, 5), (66, 6), (67, 7), (68, 8), (69, 9), (70, 10)] [[], [], [], [], [], [], [4, 5], [4, 5, 6], [], [4, 5, 6, 7, 8], [0, 1, 2, 3, 4, 5, 6, 7, 8, 9]] (fun i own ys wx => match i with | 0 => own = .agg #[.int .i64 W, .int .i64 H, .slice (some ⟨g, 0, none⟩) n c] | 1 => own = .int .i64 (xi : Nat) | 2 => own = .int .i64 (yj : Nat) | 3 => own = .agg (ic PR) | 4 => own = .int .i64 (k : Nat) | 5 => own = .pointer (some ⟨B + 1 + 1, 7, none⟩) | 6 => own = .pointer (some ⟨B + 1 + 1, 7 + k * 16, none⟩) | 7 => own = .agg (ic bk) | 8 => own = .int .i64 (q : Nat) | 9 => own = .agg (ic D) | 10 => True | _ => True) (fun Lx wx => RS w base g n c ra rn rc W H ref m B (if Lx 10 = true then Z1 else Z) wx ∧ IB wx O2 31 PR) (by kernel_rfl) (by kernel_rfl) (by kernel_rfl) ?g0_r2 ?gop_r2 ?gend_r2
   case g0_r2 => exact ⟨RM.drew, pM.drewN 1⟩
   case gop_r2 =>
    refine ⟨?_, ?_, ?_, ?_, ?_, ?_, ?_, ?_, ?_, ?_, ?_, trivial⟩
    ·intro Lx xs wx hG hl ha hb hD hI Qo Kx hK hQo
     have l10 : Lx 10 = false := hb 10 rfl
     clear hl ha hb hD hI
     simp only [patchS, Nat.reduceAdd, Nat.reduceEqDiff, ↓reduceIte] at hQo ⊢
     obtain ⟨-, k0, k1, k2, -⟩ := bx3 hG.1.b0
     go_wp2
     exact hK.out _ _ ⟨rfl, hG, fun _ _ _ _ _ _ h => h⟩
    ·intro Lx xs wx hG hl ha hb hD hI Qo Kx hK hQo
     have l10 : Lx 10 = false := hb 10 rfl
     clear hl ha hb hD hI
     simp only [patchS, Nat.reduceAdd, Nat.reduceEqDiff, ↓reduceIte] at hQo ⊢
     go_wp2
     exact hK.out _ _ ⟨by rw [← Hxi.out], hG, fun _ _ _ _ _ _ h => h⟩
    ·intro Lx xs wx hG hl ha hb hD hI Qo Kx hK hQo
     have l10 : Lx 10 = false := hb 10 rfl
     clear hl ha hb hD hI
     simp only [patchS, Nat.reduceAdd, Nat.reduceEqDiff, ↓reduceIte] at hQo ⊢
     go_wp2
     exact hK.out _ _ ⟨by rw [← Hyj.out], hG, fun _ _ _ _ _ _ h => h⟩
    ·intro Lx xs wx hG hl ha hb hD hI Qo Kx hK hQo
     have l10 : Lx 10 = false := hb 10 rfl
     clear hl ha hb hD hI
     simp only [patchS, Nat.reduceAdd, Nat.reduceEqDiff, ↓reduceIte] at hQo ⊢
     go_wp2_with (refine wpList_iload 31 _ rfl rfl hG.2 0 16 rfl _ Tryd.underlying31 rfl size_A16 (by rw [HPl.out]; omega) _ (by rw [sub_all _ _ HPl.out]) ?_)
     exact hK.out _ _ ⟨rfl, hG, fun _ _ _ _ _ _ h => h⟩
    ·intro Lx xs wx hG hl ha hb hD hI Qo Kx hK hQo
     have l10 : Lx 10 = false := hb 10 rfl
     clear hl ha hb hD hI
     simp only [patchS, Nat.reduceAdd, Nat.reduceEqDiff, ↓reduceIte] at hQo ⊢
     go_wp2
     exact hK.out _ _ ⟨rfl, hG, fun _ _ _ _ _ _ h => h⟩
    ·intro Lx xs wx hG hl ha hb hD hI Qo Kx hK hQo
     have l10 : Lx 10 = false := hb 10 rfl
     clear hl ha hb hD hI
     simp only [patchS, Nat.reduceAdd, Nat.reduceEqDiff, ↓reduceIte] at hQo ⊢
     go_wp2
     exact hK.out _ _ ⟨rfl, hG, fun _ _ _ _ _ _ h => h⟩
    ·intro Lx xs wx hG hl ha hb hD hI Qo Kx hK hQo
     have l10 : Lx 10 = false := hb 10 rfl
     clear hl ha hb
     have d4 : (xs 4) = .int .i64 (k : Nat) := hD 4 rfl
     have d5 : (xs 5) = .pointer (some ⟨B + 1 + 1, 7, none⟩) := hD 5 rfl
     clear hD hI
     simp only [patchS, Nat.reduceAdd, Nat.reduceEqDiff, ↓reduceIte] at hQo ⊢
     generalize xs 4 = y4 at *
     generalize xs 5 = y5 at *
     subst d4 d5
     go_wp2
     exact hK.out _ _ ⟨rfl, hG, fun _ _ _ _ _ _ h => h⟩
    ·intro Lx xs wx hG hl ha hb hD hI Qo Kx hK hQo
     have l10 : Lx 10 = false := hb 10 rfl
     clear hl ha hb
     have d6 : (xs 6) = .pointer (some ⟨B + 1 + 1, 7 + k * 16, none⟩) := hD 6 rfl
     clear hD hI
     simp only [patchS, Nat.reduceAdd, Nat.reduceEqDiff, ↓reduceIte] at hQo ⊢
     generalize xs 6 = y6 at *
     subst d6
     go_wp2_with (refine wpList_iload 31 _ rfl rfl hG.1.b2 (7 + k * 16) 16 rfl _ Tryd.underlying31 rfl size_A16 (by rw [Hl.out]; omega) _ (by rw [Mac.zs_blk Hm.out k hlt, ← Hbk.out]) ?_)
     exact hK.out _ _ ⟨rfl, hG, fun _ _ _ _ _ _ h => h⟩
    ·intro Lx xs wx hG hl ha hb hD hI Qo Kx hK hQo
     have l10 : Lx 10 = false := hb 10 rfl
     clear hl ha hb hD hI
     simp only [patchS, Nat.reduceAdd, Nat.reduceEqDiff, ↓reduceIte] at hQo ⊢
     go_wp2
     exact hK.out _ _ ⟨rfl, hG, fun _ _ _ _ _ _ h => h⟩
    ·intro Lx xs wx hG hl ha hb hD hI Qo Kx hK hQo
     have l10 : Lx 10 = false := hb 10 rfl
     clear hl ha hb
     have d7 : (xs 7) = .agg (ic bk) := hD 7 rfl
     have d8 : (xs 8) = .int .i64 (q : Nat) := hD 8 rfl
     clear hD hI
     simp only [patchS, Nat.reduceAdd, Nat.reduceEqDiff, ↓reduceIte] at hQo ⊢
     generalize xs 7 = y7 at *
     generalize xs 8 = y8 at *
     subst d7 d8
     go_wp2_with fail
     refine (l4Decode_any bk q _ HB16.out HBv.out hq).mono ?_
     rintro e w9 ⟨rfl, e9⟩
     rw [← HD.out]
     go_wp2
     exact hK.out _ _ ⟨rfl, ⟨hG.1.ex e9, hG.2.ext e9⟩, fun _ _ _ _ _ _ h => h⟩
    ·intro Lx xs wx hG hl ha hb hD hI Qo Kx hK hQo
     have l10 : Lx 10 = false := hl
     clear hl ha hb
     have d0 : (xs 0) = .agg #[.int .i64 W, .int .i64 H, .slice (some ⟨g, 0, none⟩) n c] := hD 0 rfl
     have d1 : (xs 1) = .int .i64 (xi : Nat) := hD 1 rfl
     have d2 : (xs 2) = .int .i64 (yj : Nat) := hD 2 rfl
     have d3 : (xs 3) = .agg (ic PR) := hD 3 rfl
     have d9 : (xs 9) = .agg (ic D) := hD 9 rfl
     clear hD hI
     simp only [patchS, Nat.reduceAdd, Nat.reduceEqDiff, ↓reduceIte] at hQo ⊢
     generalize xs 0 = y0 at *
     generalize xs 1 = y1 at *
     generalize xs 2 = y2 at *
     generalize xs 3 = y3 at *
     generalize xs 9 = y9 at *
     subst d0 d1 d2 d3 d9
     rw [l10, ifF] at hG
     go_wp2_with fail
     refine (l8Put_any W H xi yj base g n c Z PR D _ HPl.out HDl.out HPb.out HDb.out hW32 (by omega) (by omega) hI (by omega) hG.1.own).mono ?_
     rintro e w9 ⟨rfl, o9, g9⟩
     go_wp2
     rw [← Hst.out] at o9
     exact hK.out _ _ ⟨trivial, ⟨hG.1.put g9 o9, hG.2.gr g9 (lv2 (by omega))⟩, fun _ _ _ _ _ _ h => h⟩
   intro xs wx hV hG0
   obtain ⟨Lx, hL, hG⟩ := hG0
   have l10 : Lx 10 = true := hL 10 (by decide)
   clear hL
   have d0 : (xs 0) = .agg #[.int .i64 W, .int .i64 H, .slice (some ⟨g, 0, none⟩) n c] := hV 0 (by decide)
   have d1 : (xs 1) = .int .i64 (xi : Nat) := hV 1 (by decide)
   have d2 : (xs 2) = .int .i64 (yj : Nat) := hV 2 (by decide)
   have d3 : (xs 3) = .agg (ic PR) := hV 3 (by decide)
   have d4 : (xs 4) = .int .i64 (k : Nat) := hV 4 (by decide)
   have d5 : (xs 5) = .pointer (some ⟨B + 1 + 1, 7, none⟩) := hV 5 (by decide)
   have d6 : (xs 6) = .pointer (some ⟨B + 1 + 1, 7 + k * 16, none⟩) := hV 6 (by decide)
   have d7 : (xs 7) = .agg (ic bk) := hV 7 (by decide)
   have d8 : (xs 8) = .int .i64 (q : Nat) := hV 8 (by decide)
   have d9 : (xs 9) = .agg (ic D) := hV 9 (by decide)
   clear hV
   simp only [patchS, Nat.reduceAdd, Nat.reduceEqDiff, ↓reduceIte]
   generalize xs 0 = y0 at *
   generalize xs 1 = y1 at *
   generalize xs 2 = y2 at *
   generalize xs 3 = y3 at *
   generalize xs 4 = y4 at *
   generalize xs 5 = y5 at *
   generalize xs 6 = y6 at *
   generalize xs 7 = y7 at *
   generalize xs 8 = y8 at *
   generalize xs 9 = y9 at *
   generalize xs 10 = y10 at *
   replace hG : RS w base g n c ra rn rc W H ref m B (if Lx 10 = true then Z1 else Z) wx ∧ IB wx O2 31 PR := hG
   clear d0 d1 d2 d3 d4 d5 d6 d7 d8 d9
   rw [l10, ifT] at hG
   clear RM pM
   have HG := Lib.hid hG
   clear hG
   go_wp2
   go_roundw
   case rel => exact ⟨k + 1, by omega, by go_num, by rw [← HZ1.out]; exact HG.out.1⟩
   case measure => simp [intOf]; omega
  ·obtain rfl : k = 4 := by omega
   have HR := Lib.hid R3
   clear R3
   go_wp2
   go_end0
   exact ⟨rfl, HR.out.own, HR.out.gr⟩
set_option maxRecDepth 100000 in
set_option maxHeartbeats 4000000 in
theorem l8Build_S (ref : Pic) (W H x y : Nat) (px : List Int) (m : Mac) (q : Nat) (top : Int) (ra : Option Addr) (rn rc base g n c : Nat) (w : World) (own : w.ownsRow base 3 1 (.slice (some ⟨g, 0, none⟩) n c) n (px.map (Value.int .i64)))
 (hp : placeP ⟨W, H, px⟩ x y) (hm : m.ok) (hv : m.valid) (hq : q < 16) (ht0 : 0 ≤ top) (hk : ¬ m.kind = 2) (hrv : ref.valid) (hrn : rn = ref.px.length) (hr : Sl w ra rn (ref.px.map (Value.int .i64))) (hrg : ∀ z, ra = some z → z.block ≠ g) :
 Calls Tryd.prog 62 #[.agg #[.int .i64 ref.w, .int .i64 ref.h, .slice ra rn rc], .agg #[.int .i64 W, .int .i64 H, .slice (some ⟨g, 0, none⟩) n c], .int .i64 (x : Nat), .int .i64 (y : Nat), .agg (ic m.zs), .int .i64 q, .int .i64 top] w fun e w' => e = .returned (.tuple #[]) ∧ w'.ownsRow base 3 1 (.slice (some ⟨g, 0, none⟩) n c) n ((bldS ref ⟨W, H, px⟩ x y m q top 4).map (Value.int .i64)) ∧ w.grownBy w' (some g) := by
 obtain ⟨hpv, hx0, hx1, hx8, hy0, hy1, hy8⟩ := hp
 have hxx : x + 8 ≤ W := by have h1 := hpv.1.2.2; simp only at hx1 h1; omega
 have hyy : y + 8 ≤ H := by have h1 := hpv.2.1.2.2; simp only at hy1 h1; omega
 have hW32 : W ≤ 32 := by have := hpv.1.2.1; simp only at this; omega
 have hH32 : H ≤ 32 := by have := hpv.2.1.2.1; simp only at this; omega
 have hpl : n = px.length := by have := own.1; simpa using this.symm
 have hnW : n = W * H := by
  have h1 := hpv.2.2.1
  simp only [← Int.natCast_mul] at h1
  rw [hpl]; exact Int.ofNat.inj h1
 have hn1k : n ≤ 1024 := by rw [hnW]; exact Nat.mul_le_mul hW32 hH32
 have inn : ∀ u v : Nat, u + 4 ≤ H → v + 4 ≤ W → (u + 3) * W + v + 3 < n := fun u v h1 h2 => by
  have h3 := Nat.mul_le_mul_right W (show u + 4 ≤ H by omega)
  rw [Nat.add_mul, Nat.mul_comm H W, ← hnW] at h3
  rw [Nat.add_mul]
  omega
 have Inn := Lib.hid inn
 have HV := Lib.hid (fun k => bldS_valid hpv ref x y m q top k)
 have HL := Lib.hid (fun k => show n = (bldS ref ⟨W, H, px⟩ x y m q top k).length by rw [bldS_len, hpl])
 have Hmv := Lib.hid hv
 have Hm := Lib.hid hm
 have Hl := Lib.hid (Mac.zs_len hm)
 have HK := Lib.hid hk
 have hbg : base ≤ g := (own.lt g rfl).1
 have hgw : g < w.heap.size := (own.lt g rfl).2
 have R0 : RS w base g n c ra rn rc W H ref m w.heap.size px (((((w.alloc (.cells #[.int .i64 ref.w, .int .i64 ref.h, .slice ra rn rc] 25)).alloc (.cells #[.int .i64 W, .int .i64 H, .slice (some ⟨g, 0, none⟩) n c] 25)).alloc (.cells (ic m.zs) 34))).alloc (.cells #[] 3)) := by
  have a1 := Ext.alloc w (.cells #[.int .i64 ref.w, .int .i64 ref.h, .slice ra rn rc] 25)
  have a2 := Ext.alloc (w.alloc (.cells #[.int .i64 ref.w, .int .i64 ref.h, .slice ra rn rc] 25)) (.cells #[.int .i64 W, .int .i64 H, .slice (some ⟨g, 0, none⟩) n c] 25)
  have a3 := Ext.alloc ((w.alloc (.cells #[.int .i64 ref.w, .int .i64 ref.h, .slice ra rn rc] 25)).alloc (.cells #[.int .i64 W, .int .i64 H, .slice (some ⟨g, 0, none⟩) n c] 25)) (.cells (ic m.zs) 34)
  have a4 := Ext.alloc (((w.alloc (.cells #[.int .i64 ref.w, .int .i64 ref.h, .slice ra rn rc] 25)).alloc (.cells #[.int .i64 W, .int .i64 H, .slice (some ⟨g, 0, none⟩) n c] 25)).alloc (.cells (ic m.zs) 34)) (.cells #[] 3)
  have q1 := a4.blk (a3.blk (blk_new (w.alloc (.cells #[.int .i64 ref.w, .int .i64 ref.h, .slice ra rn rc] 25)) (.cells #[.int .i64 W, .int .i64 H, .slice (some ⟨g, 0, none⟩) n c] 25)))
  have q2 := (IB.new ((w.alloc (.cells #[.int .i64 ref.w, .int .i64 ref.h, .slice ra rn rc] 25)).alloc (.cells #[.int .i64 W, .int .i64 H, .slice (some ⟨g, 0, none⟩) n c] 25)) 34 m.zs).ext a4
  simp only [World.size_alloc] at q1 q2
  exact ⟨grown_ext (grown_refl _ _) (((a1.trans a2).trans a3).trans a4), owns_ext own (((a1.trans a2).trans a3).trans a4), q1, a4.blk (a3.blk (a2.blk (blk_new _ _))), q2, hgw⟩
 have hkd : (m.kind == 2) = false := by simpa using hk
 have hkn : (m.kind != 2) = true := by simpa using hk
 have k0' := R0.b2.cell (i := 0) (by rw [Hl.out]; omega)
 rw [Mac.zs_kind] at k0'
 have r2 := R0.b2
 clear hpv hpl hnW inn hv hm hk own hx8 hy8
 have Hrv := Lib.hid hrv
 have Hrn := Lib.hid hrn
 have Hrg := Lib.hid hrg
 clear hrv hrn hrg hx0 hy0 hx1 hy1
 go_enter Tryd.func62, Tryd.ntmps62
 obtain ⟨-, k0, k1, k2, -⟩ := bx3 R0.b1
 go_wp2_with (refine wpList_iload 27 _ rfl rfl r2 1 2 rfl _ Tryd.underlying27 rfl size_Vector (by rw [Hl.out]; omega) _ Mac.zs_mv ?_)
 try simp only [World.size_alloc]
 obtain ⟨B, hB⟩ : ∃ B, B = w.heap.size := ⟨_, rfl⟩
 rw [← hB] at R0 r2 k0' ⊢
 have hwB : w.heap.size ≤ B := by omega
 have HB := Lib.hid hB
 clear hB
 have hrs := hr.grown R0.gr (fun z hz => by have := Hrg.out z hz; simp; omega)
 have hvv := Hmv.out.2.1
 refine (l7Block_any ref x y m.x m.y ra rc rn _ Hrv.out Hrn.out hrs (by omega) (by omega) (by omega) (by omega) hvv.1 hvv.2.1 hvv.2.2.1 hvv.2.2.2).mono ?_
 rintro e w2 ⟨a2, c2, rfl, o2, e2⟩
 have R2 := R0.ex e2
 have hs1 := R0.gr.size
 have ha2 : ∃ g2, a2 = some ⟨g2, 0, none⟩ ∧ g2 ≠ g := by
  rcases o2.2 with ⟨-, h0⟩ | ⟨g2, cc, cur, hv2, hb2, -⟩
  ·omega
  ·simp only [Value.slice.injEq] at hv2
   exact ⟨g2, hv2.1, by omega⟩
 obtain ⟨g2, rfl, hg2⟩ := ha2
 have s2 := Sl.of_owns o2
 have Hb := Lib.hid (blkL_len ref x y m.x m.y)
 clear k0 k1 k2 r2 R0 e2 o2 hrs hr hvv k0' hkn
 go_wp2_with fail
 go_loopw [15] (fun i wr => ∃ k : Nat, k ≤ 4 ∧ i = .int .i64 k ∧ RS w base g n c ra rn rc W H ref m B (bldS ref ⟨W, H, px⟩ x y m q top k) wr ∧ Hid (Sl wr (some ⟨g2, 0, none⟩) 64 ((blkL ref x y m.x m.y).map (Value.int .i64)))) (fun i _ => 4 - (intOf i).toNat)
 case atStart => exact ⟨0, by omega, rfl, R2, Lib.hid s2⟩
 case round =>
  obtain ⟨k, hk, rfl, R3, S3⟩ := hrel
  clear R2 s2
  by_cases hlt : k < 4
  ·have hd : decide ((k : Int) < 4) = true := by simp; omega
   have hZv := HV.out k
   have hZn := HL.out k
   have Hst := Lib.hid (bld_step ref W H px x y m q top k)
   obtain ⟨Z, hZ⟩ : ∃ Z, Z = bldS ref ⟨W, H, px⟩ x y m q top k := ⟨_, rfl⟩
   obtain ⟨Z1, hZ1⟩ : ∃ Z, Z = bldS ref ⟨W, H, px⟩ x y m q top (k + 1) := ⟨_, rfl⟩
   rw [← hZ] at R3 hZv hZn Hst
   rw [← hZ1] at Hst
   have HZ1 := Lib.hid hZ1
   have HZv := Lib.hid hZv
   have HZn := Lib.hid hZn
   obtain ⟨xi, hxi⟩ : ∃ v, v = x + k % 2 * 4 := ⟨_, rfl⟩
   obtain ⟨yj, hyj⟩ : ∃ v, v = y + k / 2 * 4 := ⟨_, rfl⟩
   have HPK := Lib.hid (show prK ref W H Z x y m top k = pof (blkL ref x y m.x m.y) (k % 2 * 4) (k / 2 * 4) from if_neg HK.out)
   rw [← hxi, ← hyj] at Hst
   have hxi4 : xi + 4 ≤ W := by omega
   have hyj4 : yj + 4 ≤ H := by omega
   have Hxi := Lib.hid (show (x : Int) + (k : Int) % 2 * 4 = ((xi : Nat) : Int) by omega)
   have Hyj := Lib.hid (show (y : Int) + (k : Int) / 2 * 4 = ((yj : Nat) : Int) by omega)
   have hI := Inn.out yj xi hyj4 hxi4
   have hB16 := sub16 Hm.out.lv hlt
   have hBv := lv_blk Hm.out Hmv.out hlt
   obtain ⟨bk, hbk⟩ : ∃ b, b = sub m.lv (k * 16) 16 := ⟨_, rfl⟩
   have Hbk := Lib.hid hbk
   rw [← hbk] at hB16 hBv Hst
   have HB16 := Lib.hid hB16
   have HBv := Lib.hid hBv
   clear hZ hZ1 hxi hyj hbk hB16 hBv hZv hZn
   have hcK := R3.b2.cell (i := 0) (by rw [Hl.out]; omega)
   rw [Mac.zs_kind] at hcK
   have ib := IB.new wr 31 (List.replicate 16 0)
   have R6 := R3.ex (Ext.alloc wr (.cells (ic (List.replicate 16 0)) 31))
   have hO2 := lt_of_block R3.b2
   have hO3 := lt_of_block R3.b2
   have S6 := S3.out.ext (Ext.alloc wr (.cells (ic (List.replicate 16 0)) 31))
   obtain ⟨O2, hO2e⟩ : ∃ O, O = wr.heap.size := ⟨_, rfl⟩
   rw [← hO2e] at ib hO2
   have HO2 := Lib.hid hO2e
   have hb0 := R6.b0
   have hgB := R6.gB
   obtain ⟨E, hE⟩ : ∃ E, E = edg ⟨W, H, Z⟩ (xi : Int) (yj : Int) top := ⟨_, rfl⟩
   clear hE
   obtain ⟨PR, hPR⟩ : ∃ P, P = pof (blkL ref x y m.x m.y) (k % 2 * 4) (k / 2 * 4) := ⟨_, rfl⟩
   rw [← hPR] at HPK
   rw [HPK.out] at Hst
   have HPR := Lib.hid hPR
   clear hPR
   have hPl : PR.length = 16 := by rw [HPR.out, pof_len]
   have HPl := Lib.hid hPl
   have hPb : bdA 1099511627776 PR := by rw [HPR.out]; exact smp_bd (pof_smp (blkL_smp Hrv.out _ _ _ _) (blkL_len _ _ _ _ _) (by omega) (by omega))
   have HPb := Lib.hid hPb
   clear hPl hPb
   go_wp2_with fail
   rw [← hO2e]
   clear hO2e hcK hO3
   refine (l8Part_any (blkL ref x y m.x m.y) k hlt (some ⟨g2, 0, none⟩) c2 _ S6).mono ?_
   rintro e w7 ⟨rfl, e7⟩
   rw [← HPR.out]
   have R7 := R6.ex e7
   have ib7 := ib.ext e7
   have S7 := S6.ext e7
   have hg2l : g2 < wr.heap.size := by
    obtain ⟨b8, o8, h8, c8⟩ := S3.out.int (show 0 < 64 by omega)
    simp only [Option.some.injEq, Addr.mk.injEq, and_true] at h8
    rw [h8.1]
    exact World.block_lt_of_cell? _ _ c8
   rw [← HO2.out] at hg2l
   clear R3 R6 ib S3 S6 e7
   go_wp2_with (refine wpList_istore 31 _ _ rfl rfl ib7 0 16 rfl _ rfl PR rfl size_A16 HPl.out (by simp) ?_; intro w8 pM g8; refine Hid.out ?_)
   rw [spl_all (by rw [HPl.out]; simp)] at pM
   have RM := R7.loc g8 (by omega) hwB
   have SM := S7.grown g8 (fun z hz => by cases hz; simp; omega)
   clear R7 ib7 S7 g8
   refine Lib.hid ?_
   go_wp2_with fail
   obtain ⟨D, hD⟩ : ∃ D, D = dec bk q := ⟨_, rfl⟩
   rw [← hD] at Hst
   have HD := Lib.hid hD
   have HDl := Lib.hid (show D.length = 16 by rw [hD, dec_len])
   have HDb := Lib.hid (show bdA 1099511627776 D by rw [hD]; exact dec_bd _ _)
   clear hD
   refine wp_region_invL (by kernel_rfl) [(60, 0), (61, 1), (62, 2), (63, 3), (64, 4), (65, 5), (66, 6), (67, 7), (68, 8), (69, 9), (70, 10)] [[], [], [], [], [], [], [4, 5], [4, 5, 6], [], [4, 5, 6, 7, 8], [0, 1, 2, 3, 4, 5, 6, 7, 8, 9]] (fun i own ys wx => match i with | 0 => own = .agg #[.int .i64 W, .int .i64 H, .slice (some ⟨g, 0, none⟩) n c] | 1 => own = .int .i64 (xi : Nat) | 2 => own = .int .i64 (yj : Nat) | 3 => own = .agg (ic PR) | 4 => own = .int .i64 (k : Nat) | 5 => own = .pointer (some ⟨B + 1 + 1, 7, none⟩) | 6 => own = .pointer (some ⟨B + 1 + 1, 7 + k * 16, none⟩) | 7 => own = .agg (ic bk) | 8 => own = .int .i64 (q : Nat) | 9 => own = .agg (ic D) | 10 => True | _ => True) (fun Lx wx => RS w base g n c ra rn rc W H ref m B (if Lx 10 = true then Z1 else Z) wx ∧ IB wx O2 31 PR ∧ Sl wx (some ⟨g2, 0, none⟩) 64 ((blkL ref x y m.x m.y).map (Value.int .i64))) (by kernel_rfl) (by kernel_rfl) (by kernel_rfl) ?g0_r3 ?gop_r3 ?gend_r3
   case g0_r3 => exact ⟨RM.drew, pM.drewN 1, SM.drewN 1⟩
   case gop_r3 =>
    refine ⟨?_, ?_, ?_, ?_, ?_, ?_, ?_, ?_, ?_, ?_, ?_, trivial⟩
    ·intro Lx xs wx hG hl ha hb hD hI Qo Kx hK hQo
     have l10 : Lx 10 = false := hb 10 rfl
     clear hl ha hb hD hI
     simp only [patchS, Nat.reduceAdd, Nat.reduceEqDiff, ↓reduceIte] at hQo ⊢
     obtain ⟨-, k0, k1, k2, -⟩ := bx3 hG.1.b0
     go_wp2
     exact hK.out _ _ ⟨rfl, hG, fun _ _ _ _ _ _ h => h⟩
    ·intro Lx xs wx hG hl ha hb hD hI Qo Kx hK hQo
     have l10 : Lx 10 = false := hb 10 rfl
     clear hl ha hb hD hI
     simp only [patchS, Nat.reduceAdd, Nat.reduceEqDiff, ↓reduceIte] at hQo ⊢
     go_wp2
     exact hK.out _ _ ⟨by rw [← Hxi.out], hG, fun _ _ _ _ _ _ h => h⟩
    ·intro Lx xs wx hG hl ha hb hD hI Qo Kx hK hQo
     have l10 : Lx 10 = false := hb 10 rfl
     clear hl ha hb hD hI
     simp only [patchS, Nat.reduceAdd, Nat.reduceEqDiff, ↓reduceIte] at hQo ⊢
     go_wp2
     exact hK.out _ _ ⟨by rw [← Hyj.out], hG, fun _ _ _ _ _ _ h => h⟩
    ·intro Lx xs wx hG hl ha hb hD hI Qo Kx hK hQo
     have l10 : Lx 10 = false := hb 10 rfl
     clear hl ha hb hD hI
     simp only [patchS, Nat.reduceAdd, Nat.reduceEqDiff, ↓reduceIte] at hQo ⊢
     go_wp2_with (refine wpList_iload 31 _ rfl rfl hG.2.1 0 16 rfl _ Tryd.underlying31 rfl size_A16 (by rw [HPl.out]; omega) _ (by rw [sub_all _ _ HPl.out]) ?_)
     exact hK.out _ _ ⟨rfl, hG, fun _ _ _ _ _ _ h => h⟩
    ·intro Lx xs wx hG hl ha hb hD hI Qo Kx hK hQo
     have l10 : Lx 10 = false := hb 10 rfl
     clear hl ha hb hD hI
     simp only [patchS, Nat.reduceAdd, Nat.reduceEqDiff, ↓reduceIte] at hQo ⊢
     go_wp2
     exact hK.out _ _ ⟨rfl, hG, fun _ _ _ _ _ _ h => h⟩
    ·intro Lx xs wx hG hl ha hb hD hI Qo Kx hK hQo
     have l10 : Lx 10 = false := hb 10 rfl
     clear hl ha hb hD hI
     simp only [patchS, Nat.reduceAdd, Nat.reduceEqDiff, ↓reduceIte] at hQo ⊢
     go_wp2
     exact hK.out _ _ ⟨rfl, hG, fun _ _ _ _ _ _ h => h⟩
    ·intro Lx xs wx hG hl ha hb hD hI Qo Kx hK hQo
     have l10 : Lx 10 = false := hb 10 rfl
     clear hl ha hb
     have d4 : (xs 4) = .int .i64 (k : Nat) := hD 4 rfl
     have d5 : (xs 5) = .pointer (some ⟨B + 1 + 1, 7, none⟩) := hD 5 rfl
     clear hD hI
     simp only [patchS, Nat.reduceAdd, Nat.reduceEqDiff, ↓reduceIte] at hQo ⊢
     generalize xs 4 = y4 at *
     generalize xs 5 = y5 at *
     subst d4 d5
     go_wp2
     exact hK.out _ _ ⟨rfl, hG, fun _ _ _ _ _ _ h => h⟩
    ·intro Lx xs wx hG hl ha hb hD hI Qo Kx hK hQo
     have l10 : Lx 10 = false := hb 10 rfl
     clear hl ha hb
     have d6 : (xs 6) = .pointer (some ⟨B + 1 + 1, 7 + k * 16, none⟩) := hD 6 rfl
     clear hD hI
     simp only [patchS, Nat.reduceAdd, Nat.reduceEqDiff, ↓reduceIte] at hQo ⊢
     generalize xs 6 = y6 at *
     subst d6
     go_wp2_with (refine wpList_iload 31 _ rfl rfl hG.1.b2 (7 + k * 16) 16 rfl _ Tryd.underlying31 rfl size_A16 (by rw [Hl.out]; omega) _ (by rw [Mac.zs_blk Hm.out k hlt, ← Hbk.out]) ?_)
     exact hK.out _ _ ⟨rfl, hG, fun _ _ _ _ _ _ h => h⟩
    ·intro Lx xs wx hG hl ha hb hD hI Qo Kx hK hQo
     have l10 : Lx 10 = false := hb 10 rfl
     clear hl ha hb hD hI
     simp only [patchS, Nat.reduceAdd, Nat.reduceEqDiff, ↓reduceIte] at hQo ⊢
     go_wp2
     exact hK.out _ _ ⟨rfl, hG, fun _ _ _ _ _ _ h => h⟩
    ·intro Lx xs wx hG hl ha hb hD hI Qo Kx hK hQo
     have l10 : Lx 10 = false := hb 10 rfl
     clear hl ha hb
     have d7 : (xs 7) = .agg (ic bk) := hD 7 rfl
     have d8 : (xs 8) = .int .i64 (q : Nat) := hD 8 rfl
     clear hD hI
     simp only [patchS, Nat.reduceAdd, Nat.reduceEqDiff, ↓reduceIte] at hQo ⊢
     generalize xs 7 = y7 at *
     generalize xs 8 = y8 at *
     subst d7 d8
     go_wp2_with fail
     refine (l4Decode_any bk q _ HB16.out HBv.out hq).mono ?_
     rintro e w9 ⟨rfl, e9⟩
     rw [← HD.out]
     go_wp2
     exact hK.out _ _ ⟨rfl, ⟨hG.1.ex e9, hG.2.1.ext e9, hG.2.2.ext e9⟩, fun _ _ _ _ _ _ h => h⟩
    ·intro Lx xs wx hG hl ha hb hD hI Qo Kx hK hQo
     have l10 : Lx 10 = false := hl
     clear hl ha hb
     have d0 : (xs 0) = .agg #[.int .i64 W, .int .i64 H, .slice (some ⟨g, 0, none⟩) n c] := hD 0 rfl
     have d1 : (xs 1) = .int .i64 (xi : Nat) := hD 1 rfl
     have d2 : (xs 2) = .int .i64 (yj : Nat) := hD 2 rfl
     have d3 : (xs 3) = .agg (ic PR) := hD 3 rfl
     have d9 : (xs 9) = .agg (ic D) := hD 9 rfl
     clear hD hI
     simp only [patchS, Nat.reduceAdd, Nat.reduceEqDiff, ↓reduceIte] at hQo ⊢
     generalize xs 0 = y0 at *
     generalize xs 1 = y1 at *
     generalize xs 2 = y2 at *
     generalize xs 3 = y3 at *
     generalize xs 9 = y9 at *
     subst d0 d1 d2 d3 d9
     rw [l10, ifF] at hG
     go_wp2_with fail
     refine (l8Put_any W H xi yj base g n c Z PR D _ HPl.out HDl.out HPb.out HDb.out hW32 (by omega) (by omega) hI (by omega) hG.1.own).mono ?_
     rintro e w9 ⟨rfl, o9, g9⟩
     go_wp2
     rw [← Hst.out] at o9
     exact hK.out _ _ ⟨trivial, ⟨hG.1.put g9 o9, hG.2.1.gr g9 (lv2 (by omega)), hG.2.2.grown g9 (fun z hz => by cases hz; simpa using hg2)⟩, fun _ _ _ _ _ _ h => h⟩
   intro xs wx hV hG0
   obtain ⟨Lx, hL, hG⟩ := hG0
   have l10 : Lx 10 = true := hL 10 (by decide)
   clear hL
   have d0 : (xs 0) = .agg #[.int .i64 W, .int .i64 H, .slice (some ⟨g, 0, none⟩) n c] := hV 0 (by decide)
   have d1 : (xs 1) = .int .i64 (xi : Nat) := hV 1 (by decide)
   have d2 : (xs 2) = .int .i64 (yj : Nat) := hV 2 (by decide)
   have d3 : (xs 3) = .agg (ic PR) := hV 3 (by decide)
   have d4 : (xs 4) = .int .i64 (k : Nat) := hV 4 (by decide)
   have d5 : (xs 5) = .pointer (some ⟨B + 1 + 1, 7, none⟩) := hV 5 (by decide)
   have d6 : (xs 6) = .pointer (some ⟨B + 1 + 1, 7 + k * 16, none⟩) := hV 6 (by decide)
   have d7 : (xs 7) = .agg (ic bk) := hV 7 (by decide)
   have d8 : (xs 8) = .int .i64 (q : Nat) := hV 8 (by decide)
   have d9 : (xs 9) = .agg (ic D) := hV 9 (by decide)
   clear hV
   simp only [patchS, Nat.reduceAdd, Nat.reduceEqDiff, ↓reduceIte]
   generalize xs 0 = y0 at *
   generalize xs 1 = y1 at *
   generalize xs 2 = y2 at *
   generalize xs 3 = y3 at *
   generalize xs 4 = y4 at *
   generalize xs 5 = y5 at *
   generalize xs 6 = y6 at *
   generalize xs 7 = y7 at *
   generalize xs 8 = y8 at *
   generalize xs 9 = y9 at *
   generalize xs 10 = y10 at *
   replace hG : RS w base g n c ra rn rc W H ref m B (if Lx 10 = true then Z1 else Z) wx ∧ IB wx O2 31 PR ∧ Sl wx (some ⟨g2, 0, none⟩) 64 ((blkL ref x y m.x m.y).map (Value.int .i64)) := hG
   clear d0 d1 d2 d3 d4 d5 d6 d7 d8 d9
   rw [l10, ifT] at hG
   clear RM pM SM
   have HG := Lib.hid hG
   clear hG
   go_wp2
   go_roundw
   case rel => exact ⟨k + 1, by omega, by go_num, by rw [← HZ1.out]; exact HG.out.1, Lib.hid HG.out.2.2⟩
   case measure => simp [intOf]; omega
  ·obtain rfl : k = 4 := by omega
   have HR := Lib.hid R3
   clear R3
   go_wp2
   go_end0
   exact ⟨rfl, HR.out.own, HR.out.gr⟩
end Go.Proofs.YtbnhaegidfbgbaaDoor
namespace Go.Proofs.YtbnhaegidfbgbaaDoor
open Go.RowKit
set_option maxHeartbeats 1000000
/-- The reconstructed picture. -/
noncomputable def recP (ref p : Pic) (x y : Int) (m : Mac) (q top : Int) : Pic := if okR ref p x y m q top then ⟨p.w, p.h, bldS ref p x.toNat y.toNat m q.toNat top 4⟩ else pic0
theorem recP_yes {ref p : Pic} {x y : Int} {m : Mac} {q top : Int} (h : okR ref p x y m q top) : recP ref p x y m q top = ⟨p.w, p.h, bldS ref p x.toNat y.toNat m q.toNat top 4⟩ := if_pos h
theorem recP_no {ref p : Pic} {x y : Int} {m : Mac} {q top : Int} (h : ¬ okR ref p x y m q top) : recP ref p x y m q top = pic0 := if_neg h
theorem recP_len (ref p : Pic) (x y : Int) (m : Mac) (q top : Int) : (recP ref p x y m q top).px.length ≤ p.px.length := by
 by_cases h : okR ref p x y m q top
 ·rw [recP_yes h]
  simp only [bldS_len, Nat.le_refl]
 ·rw [recP_no h]
  exact Nat.zero_le _
theorem kind3 {m : Mac} (hv : m.valid) (h : ¬ m.kind = 2) : m.kind = 0 ∨ m.kind = 1 := by have := hv.1; omega
theorem okR_ref {ref p : Pic} {x y : Int} {m : Mac} {q top : Int} (h : okR ref p x y m q top) (hk : ¬ m.kind = 2) : ref.valid := (h.2.2.2.2.resolve_left hk).1
theorem rebuild_any (ref : Pic) (W H x y : Nat) (px : List Int) (m : Mac) (q : Nat) (top : Int) (ra : Option Addr) (rn rc base g n c : Nat) (w : World) (hT : TabQ w) (hbT : 0 < base) (own : w.ownsRow base 3 1 (.slice (some ⟨g, 0, none⟩) n c) n (px.map (Value.int .i64)))
 (hp : placeP ⟨W, H, px⟩ x y) (hm : m.ok) (hv : m.valid) (hq : q < 16) (hrv : ¬ m.kind = 2 → ref.valid) (hrn : rn = ref.px.length) (hr : Sl w ra rn (ref.px.map (Value.int .i64))) (hrg : ¬ m.kind = 2 → ∀ z, ra = some z → z.block ≠ g) :
 Calls Tryd.prog 56 #[.agg #[.int .i64 W, .int .i64 H, .slice (some ⟨g, 0, none⟩) n c], .agg #[.int .i64 ref.w, .int .i64 ref.h, .slice ra rn rc], .int .i64 (x : Nat), .int .i64 (y : Nat), .agg (ic m.zs), .int .i64 q, .int .i64 top] w fun e w' => e = .returned (.tuple #[]) ∧ w'.ownsRow base 3 1 (.slice (some ⟨g, 0, none⟩) n c) n ((bldS ref ⟨W, H, px⟩ x y m q top 4).map (Value.int .i64)) ∧ w.grownBy w' (some g) := by
 by_cases hk : m.kind = 2
 ·exact rebuild_I ref W H x y px m q top ra rn rc base g n c w hT hbT own hp hm hv hq hk
 ·rcases kind3 hv hk with h | h
  ·exact rebuild_S ref W H x y px m q top ra rn rc base g n c w hT hbT own hp hm hv hq h (hrv hk) hrn hr (hrg hk)
  ·exact rebuild_P ref W H x y px m q top ra rn rc base g n c w hT hbT own hp hm hv hq h (hrv hk) hrn hr (hrg hk)
theorem l8Build_any (ref : Pic) (W H x y : Nat) (px : List Int) (m : Mac) (q : Nat) (top : Int) (ra : Option Addr) (rn rc base g n c : Nat) (w : World) (own : w.ownsRow base 3 1 (.slice (some ⟨g, 0, none⟩) n c) n (px.map (Value.int .i64)))
 (hp : placeP ⟨W, H, px⟩ x y) (hm : m.ok) (hv : m.valid) (hq : q < 16) (ht0 : 0 ≤ top) (hrv : ¬ m.kind = 2 → ref.valid) (hrn : rn = ref.px.length) (hr : Sl w ra rn (ref.px.map (Value.int .i64))) (hrg : ¬ m.kind = 2 → ∀ z, ra = some z → z.block ≠ g) :
 Calls Tryd.prog 62 #[.agg #[.int .i64 ref.w, .int .i64 ref.h, .slice ra rn rc], .agg #[.int .i64 W, .int .i64 H, .slice (some ⟨g, 0, none⟩) n c], .int .i64 (x : Nat), .int .i64 (y : Nat), .agg (ic m.zs), .int .i64 q, .int .i64 top] w fun e w' => e = .returned (.tuple #[]) ∧ w'.ownsRow base 3 1 (.slice (some ⟨g, 0, none⟩) n c) n ((bldS ref ⟨W, H, px⟩ x y m q top 4).map (Value.int .i64)) ∧ w.grownBy w' (some g) := by
 by_cases hk : m.kind = 2
 ·exact l8Build_I ref W H x y px m q top ra rn rc base g n c w own hp hm hv hq ht0 hk
 ·exact l8Build_S ref W H x y px m q top ra rn rc base g n c w own hp hm hv hq ht0 hk (hrv hk) hrn hr (hrg hk)
set_option maxRecDepth 100000 in
theorem impl_Reconstruct_no (ref p : Pic) (x y : Int) (m : Mac) (q top : Int) (a b : Option Addr) (c d n l : Nat) (w : World) (hT : TabQ w) (hn : n = ref.px.length) (hl : l = p.px.length) (nc : n ≤ 9223372036854775807) (lc : l ≤ 9223372036854775807) (r : Sl w a n (ref.px.map (Value.int .i64))) (s : Sl w b l (p.px.map (Value.int .i64))) (hm : m.ok) (ho : ¬ okR ref p x y m q top) :
 Calls Tryd.prog 13 #[.agg #[.int .i64 ref.w, .int .i64 ref.h, .slice a n c], .agg #[.int .i64 p.w, .int .i64 p.h, .slice b l d], .int .i64 x, .int .i64 y, .agg (ic m.zs), .int .i64 q, .int .i64 top] w fun e w' => e = .returned (.agg #[.int .i64 0, .int .i64 0, .slice none 0 0]) ∧ Ext w w' := by
 have Hn := Lib.hid hn
 have HL := Lib.hid hl
 have Hm := Lib.hid hm
 have Hl := Lib.hid (Mac.zs_len hm)
 have HO := Lib.hid (show decide (okR ref p x y m q top) = false from decide_eq_false ho)
 clear hn hl hm ho
 have a2 := Ext.alloc (w.alloc (.cells #[.int .i64 ref.w, .int .i64 ref.h, .slice a n c] 25)) (.cells #[.int .i64 p.w, .int .i64 p.h, .slice b l d] 25)
 have a3 := Ext.alloc ((w.alloc (.cells #[.int .i64 ref.w, .int .i64 ref.h, .slice a n c] 25)).alloc (.cells #[.int .i64 p.w, .int .i64 p.h, .slice b l d] 25)) (.cells (ic m.zs) 34)
 have a4 := Ext.alloc (((w.alloc (.cells #[.int .i64 ref.w, .int .i64 ref.h, .slice a n c] 25)).alloc (.cells #[.int .i64 p.w, .int .i64 p.h, .slice b l d] 25)).alloc (.cells (ic m.zs) 34)) (.cells #[.int .i64 0, .int .i64 0, .slice none 0 0] 25)
 have p0 := a4.blk (a3.blk (a2.blk (blk_new w (.cells #[.int .i64 ref.w, .int .i64 ref.h, .slice a n c] 25))))
 have p1 := a4.blk (a3.blk (blk_new (w.alloc (.cells #[.int .i64 ref.w, .int .i64 ref.h, .slice a n c] 25)) (.cells #[.int .i64 p.w, .int .i64 p.h, .slice b l d] 25)))
 have p2 := (IB.new ((w.alloc (.cells #[.int .i64 ref.w, .int .i64 ref.h, .slice a n c] 25)).alloc (.cells #[.int .i64 p.w, .int .i64 p.h, .slice b l d] 25)) 34 m.zs).ext a4
 have p3 := blk_new (((w.alloc (.cells #[.int .i64 ref.w, .int .i64 ref.h, .slice a n c] 25)).alloc (.cells #[.int .i64 p.w, .int .i64 p.h, .slice b l d] 25)).alloc (.cells (ic m.zs) 34)) (.cells #[.int .i64 0, .int .i64 0, .slice none 0 0] 25)
 have E0 := (((Ext.alloc w (.cells #[.int .i64 ref.w, .int .i64 ref.h, .slice a n c] 25)).trans a2).trans a3).trans a4
 simp only [World.size_alloc] at p1 p2 p3
 clear a2 a3 a4
 obtain ⟨-, i0, i1, i2, -⟩ := bx3 p0
 obtain ⟨-, j0, j1, j2, -⟩ := bx3 p1
 go_enter Tryd.func13, Tryd.ntmps13
 go_wp2_with (refine wpList_iload 34 _ rfl rfl p2 0 71 rfl _ Tryd.underlying34 rfl size_Macro (by rw [Hl.out]; omega) _ (by rw [sub_all _ _ Hl.out]) ?_)
 refine (reconstructs_any ref p x y m q top a b c d n l _ Hn.out HL.out nc lc (r.ext E0) (s.ext E0) Hm.out).mono ?_
 rw [HO.out]
 rintro e w1 ⟨rfl, e1⟩
 have r1 := e1.blk p3
 have E1 := E0.trans e1
 clear p0 p1 p2 p3 E0 e1 i0 i1 i2 j0 j1 j2
 obtain ⟨-, s0, s1, s2, f0, f1, f2⟩ := bx3 r1
 have hb1 := lt_of_block r1
 have hres := blk_set3 (x' := .int .i64 0) (y' := .int .i64 0) (z' := .slice none 0 0) r1
 have hext := Ext.grown (Ext.grown (Ext.grown E1 (gr_set _ (w.heap.size + 1 + 1 + 1) 0 (.int .i64 0)) (fun k e => by cases e; omega)) (gr_set _ (w.heap.size + 1 + 1 + 1) 1 (.int .i64 0)) (fun k e => by cases e; omega)) (gr_set _ (w.heap.size + 1 + 1 + 1) 2 (.slice none 0 0)) (fun k e => by cases e; omega)
 go_wp2
 exact bodyPost_ret (v := .agg #[.int .i64 0, .int .i64 0, .slice none 0 0]) (results_cell_row rfl _ _ (w.heap.size + 1 + 1 + 1) 25 #[.int .i64 0, .int .i64 0, .slice none 0 0] (0, 0) _ rfl hres Tryd.underlying25 rfl size_Picture) rfl ⟨rfl, hext⟩
set_option maxRecDepth 100000 in
theorem impl_Reconstruct_yes (ref : Pic) (W H x y : Nat) (px : List Int) (m : Mac) (q : Nat) (top : Int) (a b : Option Addr) (c d n l : Nat) (w : World) (hT : TabQ w) (hn : n = ref.px.length) (hl : l = px.length) (nc : n ≤ 9223372036854775807) (r : Sl w a n (ref.px.map (Value.int .i64))) (s : Sl w b l (px.map (Value.int .i64))) (hm : m.ok) (ho : okR ref ⟨W, H, px⟩ x y m q top) :
 Calls Tryd.prog 13 #[.agg #[.int .i64 ref.w, .int .i64 ref.h, .slice a n c], .agg #[.int .i64 W, .int .i64 H, .slice b l d], .int .i64 (x : Nat), .int .i64 (y : Nat), .agg (ic m.zs), .int .i64 q, .int .i64 top] w fun e w' => ∃ a' c', e = .returned (.agg #[.int .i64 W, .int .i64 H, .slice a' l c']) ∧ w'.ownsRow w.heap.size 3 1 (.slice a' l c') l ((bldS ref ⟨W, H, px⟩ x y m q top 4).map (Value.int .i64)) ∧ Ext w w' := by
 have hlen := Pic.len_le ho.1.1
 simp only at hlen
 rw [← hl] at hlen
 have Hn := Lib.hid hn
 have HL := Lib.hid hl
 have Hm := Lib.hid hm
 have Hl := Lib.hid (Mac.zs_len hm)
 have Hok := Lib.hid ho
 have HO := Lib.hid (show decide (okR ref ⟨W, H, px⟩ x y m q top) = true from decide_eq_true ho)
 have hq : q < 16 := by have := ho.2.2.1; omega
 have ht0 : 0 ≤ top := ho.2.2.2.1.1
 clear hn hl hm ho
 have a2 := Ext.alloc (w.alloc (.cells #[.int .i64 ref.w, .int .i64 ref.h, .slice a n c] 25)) (.cells #[.int .i64 W, .int .i64 H, .slice b l d] 25)
 have a3 := Ext.alloc ((w.alloc (.cells #[.int .i64 ref.w, .int .i64 ref.h, .slice a n c] 25)).alloc (.cells #[.int .i64 W, .int .i64 H, .slice b l d] 25)) (.cells (ic m.zs) 34)
 have a4 := Ext.alloc (((w.alloc (.cells #[.int .i64 ref.w, .int .i64 ref.h, .slice a n c] 25)).alloc (.cells #[.int .i64 W, .int .i64 H, .slice b l d] 25)).alloc (.cells (ic m.zs) 34)) (.cells #[.int .i64 0, .int .i64 0, .slice none 0 0] 25)
 have p0 := a4.blk (a3.blk (a2.blk (blk_new w (.cells #[.int .i64 ref.w, .int .i64 ref.h, .slice a n c] 25))))
 have p1 := a4.blk (a3.blk (blk_new (w.alloc (.cells #[.int .i64 ref.w, .int .i64 ref.h, .slice a n c] 25)) (.cells #[.int .i64 W, .int .i64 H, .slice b l d] 25)))
 have p2 := (IB.new ((w.alloc (.cells #[.int .i64 ref.w, .int .i64 ref.h, .slice a n c] 25)).alloc (.cells #[.int .i64 W, .int .i64 H, .slice b l d] 25)) 34 m.zs).ext a4
 have p3 := blk_new (((w.alloc (.cells #[.int .i64 ref.w, .int .i64 ref.h, .slice a n c] 25)).alloc (.cells #[.int .i64 W, .int .i64 H, .slice b l d] 25)).alloc (.cells (ic m.zs) 34)) (.cells #[.int .i64 0, .int .i64 0, .slice none 0 0] 25)
 have E0 := (((Ext.alloc w (.cells #[.int .i64 ref.w, .int .i64 ref.h, .slice a n c] 25)).trans a2).trans a3).trans a4
 simp only [World.size_alloc] at p1 p2 p3
 clear a2 a3 a4
 obtain ⟨-, i0, i1, i2, -⟩ := bx3 p0
 obtain ⟨-, j0, j1, j2, -⟩ := bx3 p1
 go_enter Tryd.func13, Tryd.ntmps13
 go_wp2_with (refine wpList_iload 34 _ rfl rfl p2 0 71 rfl _ Tryd.underlying34 rfl size_Macro (by rw [Hl.out]; omega) _ (by rw [sub_all _ _ Hl.out]) ?_)
 refine (reconstructs_any ref ⟨W, H, px⟩ x y m q top a b c d n l _ Hn.out HL.out nc (by omega) (r.ext E0) (s.ext E0) Hm.out).mono ?_
 rw [HO.out]
 rintro e w1 ⟨rfl, e1⟩
 have q0 := e1.blk p0
 have q1 := e1.blk p1
 have q2 := p2.ext e1
 have q3 := e1.blk p3
 have E1 := E0.trans e1
 clear p0 p1 p2 p3 E0 e1 i0 i1 i2 j0 j1 j2
 obtain ⟨B, hB⟩ : ∃ B, B = w.heap.size := ⟨_, rfl⟩
 try simp only [World.size_alloc]
 rw [← hB] at q0 q1 q2 q3 ⊢
 have hwB : w.heap.size ≤ B := by omega
 have HB := Lib.hid hB
 clear hB
 obtain ⟨-, i0, i1, i2, -⟩ := bx3 q0
 obtain ⟨-, j0, j1, j2, -⟩ := bx3 q1
 have hb1 := lt_of_block q3
 go_wp2_with fail
 refine (clone_any W H b d l px _ (by omega) (s.ext E1)).mono ?_
 rintro e wa ⟨a1, c1, rfl, own1, e2⟩
 have r0 := e2.blk q0
 have r1 := e2.blk q1
 have r2 := q2.ext e2
 have r3 := e2.blk q3
 have E2 := E1.trans e2
 clear q0 q1 q2 q3 E1 e2 i0 i1 i2 j0 j1 j2
 have hgo : ∃ g, a1 = some ⟨g, 0, none⟩ ∧ g < wa.heap.size ∧ w1.heap.size ≤ g := by
  rcases own1.2 with ⟨-, h0⟩ | ⟨g, cc, cur, hv, hb, hb2, -⟩
  ·omega
  ·simp only [Value.slice.injEq] at hv
   exact ⟨g, hv.1, lt_of_block hb2, hb⟩
 obtain ⟨g, rfl, hg1, hg2⟩ := hgo
 have a5 := Ext.alloc wa (.cells #[.int .i64 W, .int .i64 H, .slice (some ⟨g, 0, none⟩) l c1] 25)
 have z0 := a5.blk r0
 have z1 := a5.blk r1
 have z2 := r2.ext a5
 have z3 := a5.blk r3
 have z4 := blk_new wa (.cells #[.int .i64 W, .int .i64 H, .slice (some ⟨g, 0, none⟩) l c1] 25)
 have own2 := owns_ext own1 a5
 have E3 := E2.trans a5
 have hO := lt_of_block r3
 obtain ⟨O, hOe⟩ : ∃ O, O = wa.heap.size := ⟨_, rfl⟩
 rw [← hOe] at z4 hg1 hO
 have HO2 := Lib.hid hOe
 clear r0 r1 r2 r3 own1 E2 a5
 obtain ⟨-, i0, i1, i2, -⟩ := bx3 z0
 obtain ⟨-, o0, o1, o2, -⟩ := bx3 z4
 have hOlt := lt_of_block z4
 go_upto_region 4 with fail
 rw [← hOe]
 clear hOe
 generalize wa.alloc (.cells #[.int .i64 W, .int .i64 H, .slice (some ⟨g, 0, none⟩) l c1] 25) = w2 at *
 go_wp2_with (refine wpList_iload 34 _ rfl rfl z2 0 71 rfl _ Tryd.underlying34 rfl size_Macro (by rw [Hl.out]; omega) _ (by rw [sub_all _ _ Hl.out]) ?_)
 have hT0 := World.block_lt_of_cell? w _ (hT 0 (by omega))
 have hrz : ¬ m.kind = 2 → ∀ z, a = some z → z.block ≠ g := fun hk z hz => by
  have h9 := Pic.len_le (okR_ref Hok.out hk)
  rw [← Hn.out] at h9
  have := sl_bound r z hz (by omega)
  omega
 refine (rebuild_any ref W H x y px m q top a n c w1.heap.size g l c1 _ (hT.ext E3) (by simp only at hT0; omega) own2 Hok.out.1 Hm.out Hok.out.2.1 hq (fun hk => okR_ref Hok.out hk) Hn.out (r.ext E3) hrz).mono ?_
 rintro e w3 ⟨rfl, own3, g3⟩
 have y3 := blk_gr z3 g3 (by simp; omega)
 have y4 := blk_gr z4 g3 (by simp; omega)
 have hs1 : B ≤ w1.heap.size := by omega
 have E4 : Ext w w3 := Ext.grown E3 g3 (fun k e => by cases e; omega)
 clear z0 z1 z2 z3 z4 own2 E3 g3 i0 i1 i2 o0 o1 o2
 obtain ⟨-, o0, o1, o2, -⟩ := bx3 y4
 obtain ⟨-, r0, r1, r2, f0, f1, f2⟩ := bx3 y3
 have Y3 := Lib.hid y3
 clear y3 y4
 go_wp2
 have hres := blk_set3 (x' := .int .i64 W) (y' := .int .i64 H) (z' := .slice (some ⟨g, 0, none⟩) l c1) Y3.out
 have hown := own_gr (own_gr (own_gr own3 (gr_set _ (B + 1 + 1 + 1) 0 (.int .i64 W)) (by omega)) (gr_set _ (B + 1 + 1 + 1) 1 (.int .i64 H)) (by omega)) (gr_set _ (B + 1 + 1 + 1) 2 (.slice (some ⟨g, 0, none⟩) l c1)) (by omega)
 have hext := Ext.grown (Ext.grown (Ext.grown E4 (gr_set _ (B + 1 + 1 + 1) 0 (.int .i64 W)) (fun k e => by cases e; omega)) (gr_set _ (B + 1 + 1 + 1) 1 (.int .i64 H)) (fun k e => by cases e; omega)) (gr_set _ (B + 1 + 1 + 1) 2 (.slice (some ⟨g, 0, none⟩) l c1)) (fun k e => by cases e; omega)
 exact bodyPost_ret (v := .agg #[.int .i64 W, .int .i64 H, .slice (some ⟨g, 0, none⟩) l c1]) (results_cell_row rfl _ _ (B + 1 + 1 + 1) 25 #[.int .i64 W, .int .i64 H, .slice (some ⟨g, 0, none⟩) l c1] (0, 0) _ rfl hres Tryd.underlying25 rfl size_Picture) rfl ⟨_, _, rfl, owns_mono hown (by omega), hext⟩
theorem impl_Reconstruct_any (ref p : Pic) (x y : Int) (m : Mac) (q top : Int) (a b : Option Addr) (c d n l : Nat) (w : World) (hT : TabQ w) (hn : n = ref.px.length) (hl : l = p.px.length) (nc : n ≤ 9223372036854775807) (lc : l ≤ 9223372036854775807) (r : Sl w a n (ref.px.map (Value.int .i64))) (s : Sl w b l (p.px.map (Value.int .i64))) (hm : m.ok) :
 Calls Tryd.prog 13 #[.agg #[.int .i64 ref.w, .int .i64 ref.h, .slice a n c], .agg #[.int .i64 p.w, .int .i64 p.h, .slice b l d], .int .i64 x, .int .i64 y, .agg (ic m.zs), .int .i64 q, .int .i64 top] w fun e w' => ∃ a' c', e = .returned (.agg #[.int .i64 (recP ref p x y m q top).w, .int .i64 (recP ref p x y m q top).h, .slice a' (recP ref p x y m q top).px.length c']) ∧ w'.ownsRow w.heap.size 3 1 (.slice a' (recP ref p x y m q top).px.length c') (recP ref p x y m q top).px.length ((recP ref p x y m q top).px.map (Value.int .i64)) ∧ Ext w w' := by
 unfold recP
 by_cases ho : okR ref p x y m q top
 ·rw [if_pos ho]
  obtain ⟨W, hW⟩ : ∃ W : Nat, p.w = W := ⟨p.w.toNat, by have := ho.1.1.1.1; omega⟩
  obtain ⟨H, hH⟩ : ∃ H : Nat, p.h = H := ⟨p.h.toNat, by have := ho.1.1.2.1.1; omega⟩
  obtain ⟨pw, ph, px⟩ := p
  simp only at hW hH hl s ho ⊢
  subst hW hH
  have x0 := ho.1.2.1
  have y0 := ho.1.2.2.2.2.1
  have q0 := ho.2.2.1.1
  have h2 := impl_Reconstruct_yes ref W H x.toNat y.toNat px m q.toNat top a b c d n l w hT hn hl nc r s hm (by rw [show ((x.toNat : Nat) : Int) = x by omega, show ((y.toNat : Nat) : Int) = y by omega, show ((q.toNat : Nat) : Int) = q by omega]; exact ho)
  rw [show ((x.toNat : Nat) : Int) = x by omega, show ((y.toNat : Nat) : Int) = y by omega, show ((q.toNat : Nat) : Int) = q by omega] at h2
  have hbl := bldS_len ref ⟨W, H, px⟩ x.toNat y.toNat m q.toNat top 4
  simp only at hbl
  simp only [hbl, ← hl]
  exact h2
 ·rw [if_neg ho]
  refine (impl_Reconstruct_no ref p x y m q top a b c d n l w hT hn hl nc lc r s hm ho).mono ?_
  rintro e w' ⟨rfl, e1⟩
  exact ⟨none, 0, rfl, World.ownsRow_nil _ _ _ _, e1⟩
set_option maxRecDepth 100000 in
theorem spec_Reconstruct_no (ref p : Pic) (x y : Int) (m : Mac) (q top : Int) (a b : Option Addr) (c d n l : Nat) (w : World) (hn : n = ref.px.length) (hl : l = p.px.length) (nc : n ≤ 9223372036854775807) (lc : l ≤ 9223372036854775807) (r : Sl w a n (ref.px.map (Value.int .i64))) (s : Sl w b l (p.px.map (Value.int .i64))) (hm : m.ok) (ho : ¬ okR ref p x y m q top) :
 Calls Tryd.prog 18 #[.agg #[.int .i64 ref.w, .int .i64 ref.h, .slice a n c], .agg #[.int .i64 p.w, .int .i64 p.h, .slice b l d], .int .i64 x, .int .i64 y, .agg (ic m.zs), .int .i64 q, .int .i64 top] w fun e w' => e = .returned (.agg #[.int .i64 0, .int .i64 0, .slice none 0 0]) ∧ Ext w w' := by
 have Hn := Lib.hid hn
 have HL := Lib.hid hl
 have Hm := Lib.hid hm
 have Hl := Lib.hid (Mac.zs_len hm)
 have HO := Lib.hid (show decide (okR ref p x y m q top) = false from decide_eq_false ho)
 clear hn hl hm ho
 have a2 := Ext.alloc (w.alloc (.cells #[.int .i64 ref.w, .int .i64 ref.h, .slice a n c] 25)) (.cells #[.int .i64 p.w, .int .i64 p.h, .slice b l d] 25)
 have a3 := Ext.alloc ((w.alloc (.cells #[.int .i64 ref.w, .int .i64 ref.h, .slice a n c] 25)).alloc (.cells #[.int .i64 p.w, .int .i64 p.h, .slice b l d] 25)) (.cells (ic m.zs) 34)
 have a4 := Ext.alloc (((w.alloc (.cells #[.int .i64 ref.w, .int .i64 ref.h, .slice a n c] 25)).alloc (.cells #[.int .i64 p.w, .int .i64 p.h, .slice b l d] 25)).alloc (.cells (ic m.zs) 34)) (.cells #[.int .i64 0, .int .i64 0, .slice none 0 0] 25)
 have p0 := a4.blk (a3.blk (a2.blk (blk_new w (.cells #[.int .i64 ref.w, .int .i64 ref.h, .slice a n c] 25))))
 have p1 := a4.blk (a3.blk (blk_new (w.alloc (.cells #[.int .i64 ref.w, .int .i64 ref.h, .slice a n c] 25)) (.cells #[.int .i64 p.w, .int .i64 p.h, .slice b l d] 25)))
 have p2 := (IB.new ((w.alloc (.cells #[.int .i64 ref.w, .int .i64 ref.h, .slice a n c] 25)).alloc (.cells #[.int .i64 p.w, .int .i64 p.h, .slice b l d] 25)) 34 m.zs).ext a4
 have p3 := blk_new (((w.alloc (.cells #[.int .i64 ref.w, .int .i64 ref.h, .slice a n c] 25)).alloc (.cells #[.int .i64 p.w, .int .i64 p.h, .slice b l d] 25)).alloc (.cells (ic m.zs) 34)) (.cells #[.int .i64 0, .int .i64 0, .slice none 0 0] 25)
 have E0 := (((Ext.alloc w (.cells #[.int .i64 ref.w, .int .i64 ref.h, .slice a n c] 25)).trans a2).trans a3).trans a4
 simp only [World.size_alloc] at p1 p2 p3
 clear a2 a3 a4
 obtain ⟨-, i0, i1, i2, -⟩ := bx3 p0
 obtain ⟨-, j0, j1, j2, -⟩ := bx3 p1
 go_enter Tryd.func18, Tryd.ntmps18
 go_wp2_with (refine wpList_iload 34 _ rfl rfl p2 0 71 rfl _ Tryd.underlying34 rfl size_Macro (by rw [Hl.out]; omega) _ (by rw [sub_all _ _ Hl.out]) ?_)
 refine (l8Ok_any ref p x y m q top a b c d n l _ Hn.out HL.out nc lc (r.ext E0) (s.ext E0) Hm.out).mono ?_
 rw [HO.out]
 rintro e w1 ⟨rfl, e1⟩
 have r1 := e1.blk p3
 have E1 := E0.trans e1
 clear p0 p1 p2 p3 E0 e1 i0 i1 i2 j0 j1 j2
 obtain ⟨-, s0, s1, s2, f0, f1, f2⟩ := bx3 r1
 have hb1 := lt_of_block r1
 have hres := blk_set3 (x' := .int .i64 0) (y' := .int .i64 0) (z' := .slice none 0 0) r1
 have hext := Ext.grown (Ext.grown (Ext.grown E1 (gr_set _ (w.heap.size + 1 + 1 + 1) 0 (.int .i64 0)) (fun k e => by cases e; omega)) (gr_set _ (w.heap.size + 1 + 1 + 1) 1 (.int .i64 0)) (fun k e => by cases e; omega)) (gr_set _ (w.heap.size + 1 + 1 + 1) 2 (.slice none 0 0)) (fun k e => by cases e; omega)
 go_wp2
 exact bodyPost_ret (v := .agg #[.int .i64 0, .int .i64 0, .slice none 0 0]) (results_cell_row rfl _ _ (w.heap.size + 1 + 1 + 1) 25 #[.int .i64 0, .int .i64 0, .slice none 0 0] (0, 0) _ rfl hres Tryd.underlying25 rfl size_Picture) rfl ⟨rfl, hext⟩
set_option maxRecDepth 100000 in
theorem spec_Reconstruct_yes (ref : Pic) (W H x y : Nat) (px : List Int) (m : Mac) (q : Nat) (top : Int) (a b : Option Addr) (c d n l : Nat) (w : World) (hn : n = ref.px.length) (hl : l = px.length) (nc : n ≤ 9223372036854775807) (r : Sl w a n (ref.px.map (Value.int .i64))) (s : Sl w b l (px.map (Value.int .i64))) (hm : m.ok) (ho : okR ref ⟨W, H, px⟩ x y m q top) :
 Calls Tryd.prog 18 #[.agg #[.int .i64 ref.w, .int .i64 ref.h, .slice a n c], .agg #[.int .i64 W, .int .i64 H, .slice b l d], .int .i64 (x : Nat), .int .i64 (y : Nat), .agg (ic m.zs), .int .i64 q, .int .i64 top] w fun e w' => ∃ a' c', e = .returned (.agg #[.int .i64 W, .int .i64 H, .slice a' l c']) ∧ w'.ownsRow w.heap.size 3 1 (.slice a' l c') l ((bldS ref ⟨W, H, px⟩ x y m q top 4).map (Value.int .i64)) ∧ Ext w w' := by
 have hlen := Pic.len_le ho.1.1
 simp only at hlen
 rw [← hl] at hlen
 have Hn := Lib.hid hn
 have HL := Lib.hid hl
 have Hm := Lib.hid hm
 have Hl := Lib.hid (Mac.zs_len hm)
 have Hok := Lib.hid ho
 have HO := Lib.hid (show decide (okR ref ⟨W, H, px⟩ x y m q top) = true from decide_eq_true ho)
 have hq : q < 16 := by have := ho.2.2.1; omega
 have ht0 : 0 ≤ top := ho.2.2.2.1.1
 clear hn hl hm ho
 have a2 := Ext.alloc (w.alloc (.cells #[.int .i64 ref.w, .int .i64 ref.h, .slice a n c] 25)) (.cells #[.int .i64 W, .int .i64 H, .slice b l d] 25)
 have a3 := Ext.alloc ((w.alloc (.cells #[.int .i64 ref.w, .int .i64 ref.h, .slice a n c] 25)).alloc (.cells #[.int .i64 W, .int .i64 H, .slice b l d] 25)) (.cells (ic m.zs) 34)
 have a4 := Ext.alloc (((w.alloc (.cells #[.int .i64 ref.w, .int .i64 ref.h, .slice a n c] 25)).alloc (.cells #[.int .i64 W, .int .i64 H, .slice b l d] 25)).alloc (.cells (ic m.zs) 34)) (.cells #[.int .i64 0, .int .i64 0, .slice none 0 0] 25)
 have p0 := a4.blk (a3.blk (a2.blk (blk_new w (.cells #[.int .i64 ref.w, .int .i64 ref.h, .slice a n c] 25))))
 have p1 := a4.blk (a3.blk (blk_new (w.alloc (.cells #[.int .i64 ref.w, .int .i64 ref.h, .slice a n c] 25)) (.cells #[.int .i64 W, .int .i64 H, .slice b l d] 25)))
 have p2 := (IB.new ((w.alloc (.cells #[.int .i64 ref.w, .int .i64 ref.h, .slice a n c] 25)).alloc (.cells #[.int .i64 W, .int .i64 H, .slice b l d] 25)) 34 m.zs).ext a4
 have p3 := blk_new (((w.alloc (.cells #[.int .i64 ref.w, .int .i64 ref.h, .slice a n c] 25)).alloc (.cells #[.int .i64 W, .int .i64 H, .slice b l d] 25)).alloc (.cells (ic m.zs) 34)) (.cells #[.int .i64 0, .int .i64 0, .slice none 0 0] 25)
 have E0 := (((Ext.alloc w (.cells #[.int .i64 ref.w, .int .i64 ref.h, .slice a n c] 25)).trans a2).trans a3).trans a4
 simp only [World.size_alloc] at p1 p2 p3
 clear a2 a3 a4
 obtain ⟨-, i0, i1, i2, -⟩ := bx3 p0
 obtain ⟨-, j0, j1, j2, -⟩ := bx3 p1
 go_enter Tryd.func18, Tryd.ntmps18
 go_wp2_with (refine wpList_iload 34 _ rfl rfl p2 0 71 rfl _ Tryd.underlying34 rfl size_Macro (by rw [Hl.out]; omega) _ (by rw [sub_all _ _ Hl.out]) ?_)
 refine (l8Ok_any ref ⟨W, H, px⟩ x y m q top a b c d n l _ Hn.out HL.out nc (by omega) (r.ext E0) (s.ext E0) Hm.out).mono ?_
 rw [HO.out]
 rintro e w1 ⟨rfl, e1⟩
 have q0 := e1.blk p0
 have q1 := e1.blk p1
 have q2 := p2.ext e1
 have q3 := e1.blk p3
 have E1 := E0.trans e1
 clear p0 p1 p2 p3 E0 e1 i0 i1 i2 j0 j1 j2
 obtain ⟨B, hB⟩ : ∃ B, B = w.heap.size := ⟨_, rfl⟩
 try simp only [World.size_alloc]
 rw [← hB] at q0 q1 q2 q3 ⊢
 have hwB : w.heap.size ≤ B := by omega
 have HB := Lib.hid hB
 clear hB
 obtain ⟨-, i0, i1, i2, -⟩ := bx3 q0
 obtain ⟨-, j0, j1, j2, -⟩ := bx3 q1
 have hb1 := lt_of_block q3
 go_wp2_with fail
 refine (l8Copy_any W H b d l px _ (by omega) (by omega) (s.ext E1)).mono ?_
 rintro e wa ⟨a1, c1, rfl, own1, e2⟩
 have r0 := e2.blk q0
 have r1 := e2.blk q1
 have r2 := q2.ext e2
 have r3 := e2.blk q3
 have E2 := E1.trans e2
 clear q0 q1 q2 q3 E1 e2 i0 i1 i2 j0 j1 j2
 have hgo : ∃ g, a1 = some ⟨g, 0, none⟩ ∧ g < wa.heap.size ∧ w1.heap.size ≤ g := by
  rcases own1.2 with ⟨-, h0⟩ | ⟨g, cc, cur, hv, hb, hb2, -⟩
  ·omega
  ·simp only [Value.slice.injEq] at hv
   exact ⟨g, hv.1, lt_of_block hb2, hb⟩
 obtain ⟨g, rfl, hg1, hg2⟩ := hgo
 have a5 := Ext.alloc wa (.cells #[.int .i64 W, .int .i64 H, .slice (some ⟨g, 0, none⟩) l c1] 25)
 have z0 := a5.blk r0
 have z1 := a5.blk r1
 have z2 := r2.ext a5
 have z3 := a5.blk r3
 have z4 := blk_new wa (.cells #[.int .i64 W, .int .i64 H, .slice (some ⟨g, 0, none⟩) l c1] 25)
 have own2 := owns_ext own1 a5
 have E3 := E2.trans a5
 have hO := lt_of_block r3
 obtain ⟨O, hOe⟩ : ∃ O, O = wa.heap.size := ⟨_, rfl⟩
 rw [← hOe] at z4 hg1 hO
 have HO2 := Lib.hid hOe
 clear r0 r1 r2 r3 own1 E2 a5
 obtain ⟨-, i0, i1, i2, -⟩ := bx3 z0
 obtain ⟨-, o0, o1, o2, -⟩ := bx3 z4
 have hOlt := lt_of_block z4
 go_upto_region 4 with fail
 rw [← hOe]
 clear hOe
 generalize wa.alloc (.cells #[.int .i64 W, .int .i64 H, .slice (some ⟨g, 0, none⟩) l c1] 25) = w2 at *
 go_wp2_with (refine wpList_iload 34 _ rfl rfl z2 0 71 rfl _ Tryd.underlying34 rfl size_Macro (by rw [Hl.out]; omega) _ (by rw [sub_all _ _ Hl.out]) ?_)
 have hrz : ¬ m.kind = 2 → ∀ z, a = some z → z.block ≠ g := fun hk z hz => by
  have h9 := Pic.len_le (okR_ref Hok.out hk)
  rw [← Hn.out] at h9
  have := sl_bound r z hz (by omega)
  omega
 refine (l8Build_any ref W H x y px m q top a n c w1.heap.size g l c1 _ own2 Hok.out.1 Hm.out Hok.out.2.1 hq ht0 (fun hk => okR_ref Hok.out hk) Hn.out (r.ext E3) hrz).mono ?_
 rintro e w3 ⟨rfl, own3, g3⟩
 have y3 := blk_gr z3 g3 (by simp; omega)
 have y4 := blk_gr z4 g3 (by simp; omega)
 have hs1 : B ≤ w1.heap.size := by omega
 have E4 : Ext w w3 := Ext.grown E3 g3 (fun k e => by cases e; omega)
 clear z0 z1 z2 z3 z4 own2 E3 g3 i0 i1 i2 o0 o1 o2
 obtain ⟨-, o0, o1, o2, -⟩ := bx3 y4
 obtain ⟨-, r0, r1, r2, f0, f1, f2⟩ := bx3 y3
 have Y3 := Lib.hid y3
 clear y3 y4
 go_wp2
 have hres := blk_set3 (x' := .int .i64 W) (y' := .int .i64 H) (z' := .slice (some ⟨g, 0, none⟩) l c1) Y3.out
 have hown := own_gr (own_gr (own_gr own3 (gr_set _ (B + 1 + 1 + 1) 0 (.int .i64 W)) (by omega)) (gr_set _ (B + 1 + 1 + 1) 1 (.int .i64 H)) (by omega)) (gr_set _ (B + 1 + 1 + 1) 2 (.slice (some ⟨g, 0, none⟩) l c1)) (by omega)
 have hext := Ext.grown (Ext.grown (Ext.grown E4 (gr_set _ (B + 1 + 1 + 1) 0 (.int .i64 W)) (fun k e => by cases e; omega)) (gr_set _ (B + 1 + 1 + 1) 1 (.int .i64 H)) (fun k e => by cases e; omega)) (gr_set _ (B + 1 + 1 + 1) 2 (.slice (some ⟨g, 0, none⟩) l c1)) (fun k e => by cases e; omega)
 exact bodyPost_ret (v := .agg #[.int .i64 W, .int .i64 H, .slice (some ⟨g, 0, none⟩) l c1]) (results_cell_row rfl _ _ (B + 1 + 1 + 1) 25 #[.int .i64 W, .int .i64 H, .slice (some ⟨g, 0, none⟩) l c1] (0, 0) _ rfl hres Tryd.underlying25 rfl size_Picture) rfl ⟨_, _, rfl, owns_mono hown (by omega), hext⟩
theorem spec_Reconstruct_any (ref p : Pic) (x y : Int) (m : Mac) (q top : Int) (a b : Option Addr) (c d n l : Nat) (w : World) (hn : n = ref.px.length) (hl : l = p.px.length) (nc : n ≤ 9223372036854775807) (lc : l ≤ 9223372036854775807) (r : Sl w a n (ref.px.map (Value.int .i64))) (s : Sl w b l (p.px.map (Value.int .i64))) (hm : m.ok) :
 Calls Tryd.prog 18 #[.agg #[.int .i64 ref.w, .int .i64 ref.h, .slice a n c], .agg #[.int .i64 p.w, .int .i64 p.h, .slice b l d], .int .i64 x, .int .i64 y, .agg (ic m.zs), .int .i64 q, .int .i64 top] w fun e w' => ∃ a' c', e = .returned (.agg #[.int .i64 (recP ref p x y m q top).w, .int .i64 (recP ref p x y m q top).h, .slice a' (recP ref p x y m q top).px.length c']) ∧ w'.ownsRow w.heap.size 3 1 (.slice a' (recP ref p x y m q top).px.length c') (recP ref p x y m q top).px.length ((recP ref p x y m q top).px.map (Value.int .i64)) ∧ Ext w w' := by
 unfold recP
 by_cases ho : okR ref p x y m q top
 ·rw [if_pos ho]
  obtain ⟨W, hW⟩ : ∃ W : Nat, p.w = W := ⟨p.w.toNat, by have := ho.1.1.1.1; omega⟩
  obtain ⟨H, hH⟩ : ∃ H : Nat, p.h = H := ⟨p.h.toNat, by have := ho.1.1.2.1.1; omega⟩
  obtain ⟨pw, ph, px⟩ := p
  simp only at hW hH hl s ho ⊢
  subst hW hH
  have x0 := ho.1.2.1
  have y0 := ho.1.2.2.2.2.1
  have q0 := ho.2.2.1.1
  have h2 := spec_Reconstruct_yes ref W H x.toNat y.toNat px m q.toNat top a b c d n l w hn hl nc r s hm (by rw [show ((x.toNat : Nat) : Int) = x by omega, show ((y.toNat : Nat) : Int) = y by omega, show ((q.toNat : Nat) : Int) = q by omega]; exact ho)
  rw [show ((x.toNat : Nat) : Int) = x by omega, show ((y.toNat : Nat) : Int) = y by omega, show ((q.toNat : Nat) : Int) = q by omega] at h2
  have hbl := bldS_len ref ⟨W, H, px⟩ x.toNat y.toNat m q.toNat top 4
  simp only at hbl
  simp only [hbl, ← hl]
  exact h2
 ·rw [if_neg ho]
  refine (spec_Reconstruct_no ref p x y m q top a b c d n l w hn hl nc lc r s hm ho).mono ?_
  rintro e w' ⟨rfl, e1⟩
  exact ⟨none, 0, rfl, World.ownsRow_nil _ _ _ _, e1⟩
end Go.Proofs.YtbnhaegidfbgbaaDoor
namespace Go.Proofs.YtbnhaegidfbgbaaDoor
open Go.RowKit
set_option maxHeartbeats 1000000
/-- The levels of an inter macroblock, of the first k blocks. -/
def intL (t r : Pic) (x y : Nat) (vx vy : Int) (q : Nat) : Nat → List Int
 | 0 => zl 64
 | k + 1 => spl (intL t r x y vx vy q k) (k * 16) (cod (dif (prt t ((x + k % 2 * 4 : Nat) : Int) ((y + k / 2 * 4 : Nat) : Int)) (pof (blkL r x y vx vy) (k % 2 * 4) (k / 2 * 4))) q)
/-- The arguments of InterMacro are valid. -/
def okI (t r : Pic) (x y vx vy q : Int) : Prop := alikeP t r ∧ placeP t x y ∧ vv vx vy ∧ (0 ≤ q ∧ q ≤ 15)
noncomputable instance (t r : Pic) (x y vx vy q : Int) : Decidable (okI t r x y vx vy q) := Classical.propDecidable _
noncomputable def interP (t r : Pic) (x y vx vy q : Int) : Mac := if okI t r x y vx vy q then ⟨1, vx, vy, zero4, intL t r x.toNat y.toNat vx vy q.toNat 4⟩ else mac0
def macI (vx vy : Int) (L : List Int) : Mac := ⟨1, vx, vy, zero4, L⟩
end Go.Proofs.YtbnhaegidfbgbaaDoor
namespace Go.Proofs.YtbnhaegidfbgbaaDoor
open Go.RowKit
set_option maxHeartbeats 1000000
def absZ (n : Int) : Int := if n < 0 then -n else n
def sumA (c : List Int) (k : Nat) : Int := sumZ (fun i => absZ (nth c i)) k
def tcost (a b : List Int) : Int := sumA (had (dif a b)) 16 / 4
theorem IB.sl {w : World} {b T n : Nat} {zs : List Int} (h : IB w b T zs) (hl : zs.length = n) : Sl w (some ⟨b, 0, none⟩) n (zs.map (Value.int .i64)) := by
 refine ⟨by simp [hl], fun i hi => ⟨b, 0, rfl, ?_⟩⟩
 rw [Nat.zero_add, h.cell (i := i) (by omega)]
 simp [nth, show i < zs.length by omega]
end Go.Proofs.YtbnhaegidfbgbaaDoor
namespace Go.Proofs.YtbnhaegidfbgbaaDoor
open Go.RowKit
set_option maxHeartbeats 1000000
/-- The best of the first modes, and its cost. -/
def bb (a : List Int) (e : Ed) : Nat → Nat × Int
 | 0 => (0, 0)
 | k + 1 => if k = 0 ∨ tcost a (prd k e) < (bb a e k).2 then (k, tcost a (prd k e)) else bb a e k
def bst (a : List Int) (e : Ed) : Nat := (bb a e 5).1
end Go.Proofs.YtbnhaegidfbgbaaDoor
namespace Go.Proofs.YtbnhaegidfbgbaaDoor
open Go.RowKit
set_option maxHeartbeats 1000000
section
variable (t p : Pic) (x y q : Nat) (top : Int)
def inE (Z : List Int) (k : Nat) : Ed := edg ⟨p.w, p.h, Z⟩ ((x + k % 2 * 4 : Nat) : Int) ((y + k / 2 * 4 : Nat) : Int) top
def inU (k : Nat) : List Int := prt t ((x + k % 2 * 4 : Nat) : Int) ((y + k / 2 * 4 : Nat) : Int)
def inM (Z : List Int) (k : Nat) : Nat := bst (inU t x y k) (inE p x y top Z k)
def inP (Z : List Int) (k : Nat) : List Int := prd (inM t p x y top Z k) (inE p x y top Z k)
def inL (Z : List Int) (k : Nat) : List Int := cod (dif (inU t x y k) (inP t p x y top Z k)) q
/-- Of the first k blocks: the picture, the modes, the levels. -/
def inS : Nat → List Int × List Int × List Int
 | 0 => (p.px, zero4, zl 64)
 | k + 1 => (putS (inS k).1 p.w.toNat (x + k % 2 * 4) (y + k / 2 * 4) (inP t p x y top (inS k).1 k) (dec (inL t p x y q top (inS k).1 k) q) 16,
  (inS k).2.1.set k (inM t p x y top (inS k).1 k : Nat), spl (inS k).2.2 (k * 16) (inL t p x y q top (inS k).1 k))
def inMac (k : Nat) : Mac := ⟨2, 0, 0, (inS t p x y q top k).2.1, (inS t p x y q top k).2.2⟩
end
def okN (t p : Pic) (x y q top : Int) : Prop := alikeP t p ∧ placeP t x y ∧ (0 ≤ q ∧ q ≤ 15) ∧ (0 ≤ top ∧ top ≤ y)
noncomputable instance (t p : Pic) (x y q top : Int) : Decidable (okN t p x y q top) := Classical.propDecidable _
noncomputable def intraP (t p : Pic) (x y q top : Int) : Mac := if okN t p x y q top then inMac t p x.toNat y.toNat q.toNat top 4 else mac0
/-- What both walks keep: the copy (a row and its structure), the macroblock, the two zero places. -/
structure NS (w : World) (g n c : Nat) (tw th : Int) (a : Option Addr) (nt ct W H B O M : Nat) (Z ms : List Int) (wx : World) : Prop where
 ex : Ext w wx
 own : wx.ownsRow w.heap.size 3 1 (.slice (some ⟨g, 0, none⟩) n c) n (Z.map (Value.int .i64))
 bt : wx.heap[B]? = some (.cells #[.int .i64 tw, .int .i64 th, .slice a nt ct] 25 (0, 0))
 br : wx.heap[O]? = some (.cells #[.int .i64 W, .int .i64 H, .slice (some ⟨g, 0, none⟩) n c] 25 (0, 0))
 bz : IB wx (B + 1 + 1) 34 (zl 71)
 bm : IB wx M 34 ms
 h1 : w.heap.size ≤ B ∧ w.heap.size ≤ g ∧ w.heap.size ≤ O ∧ w.heap.size ≤ M
 h2 : B ≠ g ∧ O ≠ g ∧ B + 1 + 1 ≠ g ∧ M ≠ g ∧ M ≠ B ∧ M ≠ O ∧ M ≠ B + 1 + 1
section
variable {w wx wy : World} {g n c nt ct W H B O M : Nat} {tw th : Int} {a : Option Addr} {Z Z' ms ms' : List Int}
theorem NS.e (h : NS w g n c tw th a nt ct W H B O M Z ms wx) (e : Ext wx wy) : NS w g n c tw th a nt ct W H B O M Z ms wy :=
 ⟨h.ex.trans e, owns_ext h.own e, e.blk h.bt, e.blk h.br, h.bz.ext e, h.bm.ext e, h.h1, h.h2⟩
theorem NS.lt (h : NS w g n c tw th a nt ct W H B O M Z ms wx) : B < wx.heap.size ∧ g < wx.heap.size ∧ O < wx.heap.size ∧ M < wx.heap.size ∧ B + 1 + 1 < wx.heap.size :=
 ⟨lt_of_block h.bt, (h.own.lt g rfl).2, lt_of_block h.br, h.bm.lt, h.bz.lt⟩
theorem NS.put (h : NS w g n c tw th a nt ct W H B O M Z ms wx) (gr : wx.grownBy wy (some g)) (own : wy.ownsRow w.heap.size 3 1 (.slice (some ⟨g, 0, none⟩) n c) n (Z'.map (Value.int .i64))) : NS w g n c tw th a nt ct W H B O M Z' ms wy := by
 have a1 := h.h1
 have a2 := h.h2
 exact ⟨Ext.grown h.ex gr (fun k hk => by cases hk; omega), own, blk_gr h.bt gr (by simp; omega), blk_gr h.br gr (by simp; omega), h.bz.gr gr (by simp; omega), h.bm.gr gr (by simp; omega), a1, a2⟩
theorem NS.loc {b K : Nat} (h : NS w g n c tw th a nt ct W H B O M Z ms wx) (gr : wx.grownBy wy (some b)) (hb : K ≤ b) (hK : w.heap.size ≤ K ∧ B < K ∧ g < K ∧ O < K ∧ M < K ∧ B + 1 + 1 < K) : NS w g n c tw th a nt ct W H B O M Z ms wy := by
 have a1 := h.h1
 exact ⟨Ext.grown h.ex gr (fun k hk => by cases hk; omega), h.own.kept gr (.inr (by simp [Value.ownBlock]; omega)), blk_gr h.bt gr (by simp; omega), blk_gr h.br gr (by simp; omega), h.bz.gr gr (by simp; omega), h.bm.gr gr (by simp; omega), a1, h.h2⟩
/-- A place for a block of integers, or for the samples around a block, that came to be behind K. -/
def IA (w : World) (K : Nat) (v : Value) : Prop := ∃ (b : Nat) (us : List Int), v = .pointer (some ⟨b, 0, none⟩) ∧ K ≤ b ∧ IB w b 31 us ∧ us.length = 16
def EA (w : World) (K : Nat) (v : Value) : Prop := ∃ (b : Nat) (u : Ed), v = .pointer (some ⟨b, 0, none⟩) ∧ K ≤ b ∧ EB w b u ∧ u.ln
def IS (w : World) (K : Nat) (v : Value) (U : List Int) : Prop := ∃ b : Nat, v = .pointer (some ⟨b, 0, none⟩) ∧ K ≤ b ∧ IB w b 31 U
def ES (w : World) (K : Nat) (v : Value) (E : Ed) : Prop := ∃ b : Nat, v = .pointer (some ⟨b, 0, none⟩) ∧ K ≤ b ∧ EB w b E
/-- One block of integers, or one of samples around a block, was written. -/
def StI (wx wy : World) : Prop := ∃ (b : Nat) (us vs : List Int), wx.grownBy wy (some b) ∧ IB wx b 31 us ∧ IB wy b 31 vs ∧ vs.length = 16
def StE (wx wy : World) : Prop := ∃ (b : Nat) (u v : Ed), wx.grownBy wy (some b) ∧ EB wx b u ∧ EB wy b v ∧ v.ln
variable {K : Nat} {v : Value} {U : List Int} {E : Ed}
theorem IA.ext (h : IA wx K v) (e : Ext wx wy) : IA wy K v := by obtain ⟨b, us, h1, h2, h3, h4⟩ := h; exact ⟨b, us, h1, h2, h3.ext e, h4⟩
theorem EA.ext (h : EA wx K v) (e : Ext wx wy) : EA wy K v := by obtain ⟨b, us, h1, h2, h3, h4⟩ := h; exact ⟨b, us, h1, h2, h3.ext e, h4⟩
theorem IS.ext (h : IS wx K v U) (e : Ext wx wy) : IS wy K v U := by obtain ⟨b, h1, h2, h3⟩ := h; exact ⟨b, h1, h2, h3.ext e⟩
theorem ES.ext (h : ES wx K v E) (e : Ext wx wy) : ES wy K v E := by obtain ⟨b, h1, h2, h3⟩ := h; exact ⟨b, h1, h2, h3.ext e⟩
end
end Go.Proofs.YtbnhaegidfbgbaaDoor
namespace Go.Proofs.YtbnhaegidfbgbaaDoor
open Go.RowKit
set_option maxHeartbeats 1000000
end Go.Proofs.YtbnhaegidfbgbaaDoor
namespace Go.Proofs.YtbnhaegidfbgbaaDoor
open Go.RowKit
set_option maxHeartbeats 1000000
theorem putS_ne {px pr rs : List Int} {W x y i : Nat} : ∀ k : Nat, (∀ j, j < k → (y + j / 4) * W + x + j % 4 ≠ i) → nth (putS px W x y pr rs k) i = nth px i
 | 0, _ => rfl
 | k + 1, h => by
  show nth ((putS px W x y pr rs k).set _ _) i = _
  rw [nth_set_ne _ _ _ _ (h k (by omega)), putS_ne k (fun j hj => h j (by omega))]
theorem pos_inj {W x y j k : Nat} (hW : x + 4 ≤ W) (h : (y + j / 4) * W + x + j % 4 = (y + k / 4) * W + x + k % 4) : j = k := by
 rcases Nat.lt_trichotomy (j / 4) (k / 4) with h1 | h1 | h1
 ·have h2 := Nat.mul_le_mul_right W (show y + j / 4 + 1 ≤ y + k / 4 by omega)
  rw [Nat.succ_mul] at h2
  omega
 ·rw [h1] at h
  omega
 ·have h2 := Nat.mul_le_mul_right W (show y + k / 4 + 1 ≤ y + j / 4 by omega)
  rw [Nat.succ_mul] at h2
  omega
theorem putS_at {px pr rs : List Int} {W x y j : Nat} (hW : x + 4 ≤ W) (hn : (y + 3) * W + x + 3 < px.length) : ∀ k : Nat, j < k → k ≤ 16 → nth (putS px W x y pr rs k) ((y + j / 4) * W + x + j % 4) = clipI (nth pr j + nth rs j) 0 255
 | 0, h, _ => by omega
 | k + 1, h, h16 => by
  show nth ((putS px W x y pr rs k).set _ _) _ = _
  by_cases e : j = k
  ·subst e
   have h2 := Nat.mul_le_mul_right W (show y + j / 4 ≤ y + 3 by omega)
   rw [nth_set_same _ _ _ (by rw [putS_len]; omega)]
  ·rw [nth_set_ne _ _ _ _ (fun hh => e (pos_inj hW hh).symm), putS_at hW hn k (by omega) (by omega)]
theorem pos_div {W r c : Nat} (h : c < W) : (r * W + c) / W = r ∧ (r * W + c) % W = c := by
 have h0 : 0 < W := by omega
 refine ⟨?_, ?_⟩
 ·rw [Nat.add_comm, Nat.add_mul_div_right _ _ h0, Nat.div_eq_of_lt h, Nat.zero_add]
 ·rw [Nat.add_comm, Nat.add_mul_mod_self_right, Nat.mod_eq_of_lt h]
/-- Outside the macroblock nothing changes. -/
theorem bldS_out (ref p : Pic) (x y : Nat) (m : Mac) (q : Nat) (top : Int) {W i : Nat} (hW : p.w = W) (hx : x + 8 ≤ W) (ho : ¬ (x ≤ i % W ∧ i % W < x + 8 ∧ y ≤ i / W ∧ i / W < y + 8)) :
 ∀ k : Nat, k ≤ 4 → nth (bldS ref p x y m q top k) i = nth p.px i
 | 0, _ => rfl
 | k + 1, hk => by
  show nth (putS _ _ _ _ _ _ _) i = _
  rw [putS_ne 16 (fun j hj he => ?_), bldS_out ref p x y m q top hW hx ho k (by omega)]
  rw [hW, Int.toNat_natCast, Nat.add_assoc _ (x + _) _] at he
  have h1 := pos_div (W := W) (r := y + k / 2 * 4 + j / 4) (c := x + k % 2 * 4 + j % 4) (by omega)
  rw [he] at h1
  omega
end Go.Proofs.YtbnhaegidfbgbaaDoor
namespace Go.Proofs.YtbnhaegidfbgbaaDoor
open Go.RowKit
set_option maxHeartbeats 1000000
/-- A sample of a rebuilt block. -/
theorem bldS_at (ref : Pic) {p : Pic} (hp : p.valid) (x y : Nat) (m : Mac) (q : Nat) (top : Int) {W H k j : Nat} (hW : p.w = W) (hH : p.h = H) (hx : x + 8 ≤ W) (hy : y + 8 ≤ H) (hj : j < 16) :
 ∀ n : Nat, k < n → n ≤ 4 → nth (bldS ref p x y m q top n) ((y + k / 2 * 4 + j / 4) * W + (x + k % 2 * 4) + j % 4) =
  clipI (nth (prK ref p.w p.h (bldS ref p x y m q top k) x y m top k) j + nth (dec (sub m.lv (k * 16) 16) q) j) 0 255
 | 0, h, _ => by omega
 | n + 1, h, h4 => by
  have hl : (bldS ref p x y m q top n).length = W * H := by
   rw [bldS_len]
   have h1 := hp.2.2.1
   rw [hW, hH, ← Int.natCast_mul] at h1
   exact Int.ofNat.inj h1
  show nth (putS (bldS ref p x y m q top n) p.w.toNat (x + n % 2 * 4) (y + n / 2 * 4) (prK ref p.w p.h (bldS ref p x y m q top n) x y m top n) (dec (sub m.lv (n * 16) 16) q) 16) _ = _
  rw [show p.w.toNat = W by rw [hW, Int.toNat_natCast]]
  by_cases e : k = n
  ·subst e
   have hb : (y + k / 2 * 4 + 3) * W + (x + k % 2 * 4) + 3 < (bldS ref p x y m q top k).length := by
    have h3 := Nat.mul_le_mul_right W (show y + k / 2 * 4 + 3 + 1 ≤ H by omega)
    rw [hl, Nat.mul_comm W H]
    rw [Nat.succ_mul] at h3
    omega
   exact putS_at (by omega) hb 16 hj (Nat.le_refl _)
  ·rw [putS_ne 16 (fun i hi he => ?_), bldS_at ref hp x y m q top hW hH hx hy hj n (by omega) (by omega)]
   have a1 := pos_div (W := W) (r := y + n / 2 * 4 + i / 4) (c := x + n % 2 * 4 + i % 4) (by omega)
   have a2 := pos_div (W := W) (r := y + k / 2 * 4 + j / 4) (c := x + k % 2 * 4 + j % 4) (by omega)
   rw [Nat.add_assoc _ (x + _) _, Nat.add_assoc _ (x + _) _] at he
   rw [he] at a1
   omega
theorem dec_zero (q : Nat) : dec (List.replicate 16 0) q = List.replicate 16 0 := by
 have h1 : (List.replicate 16 (0 : Int)).map (fun x => dq x q) = List.replicate 16 0 := by
  rw [List.map_replicate]
  congr 1
  unfold dq
  rw [Int.zero_mul]
  rfl
 unfold dec
 rw [h1]
 decide
/-- A skipped macroblock is that of the reference. -/
theorem skip_px {r p : Pic} (hr : r.valid) (hp : p.valid) (x y : Nat) {m : Mac} (hv : m.valid) (h0 : m.kind = 0) (q : Nat) (top : Int) {W H i : Nat} (hW : p.w = W) (hH : p.h = H) (hx : x + 8 ≤ W) (hy : y + 8 ≤ H) (hrW : r.w = W) (hrH : r.h = H) (hi : i < 64) :
 nth (bldS r p x y m q top 4) ((y + i / 8) * W + (x + i % 8)) = nth r.px ((y + i / 8) * W + (x + i % 8)) := by
 obtain ⟨k, hk⟩ : ∃ k, k = i / 8 / 4 * 2 + i % 8 / 4 := ⟨_, rfl⟩
 obtain ⟨j, hj⟩ : ∃ j, j = i / 8 % 4 * 4 + i % 8 % 4 := ⟨_, rfl⟩
 have e1 : y + i / 8 = y + k / 2 * 4 + j / 4 := by omega
 have e2 : x + i % 8 = x + k % 2 * 4 + j % 4 := by omega
 have hxy := hv.2.2.1 (by omega)
 have hlv := hv.2.2.2.2.2.1 h0
 have h := bldS_at r hp x y m q top hW hH hx hy (k := k) (j := j) (by omega) 4 (by omega) (Nat.le_refl _)
 have h1 : ∀ Z : List Int, prK r p.w p.h Z x y m top k = prt r ((x + k % 2 * 4 : Nat) : Int) ((y + k / 2 * 4 : Nat) : Int) := fun Z => by
  unfold prK
  rw [if_neg (by omega), hxy.1, hxy.2, pof_blk _ _ _ (by omega) (by omega), ← Int.natCast_add, ← Int.natCast_add]
 have h2 : sub m.lv (k * 16) 16 = List.replicate 16 0 := by
  rw [hlv]
  obtain rfl | rfl | rfl | rfl : k = 0 ∨ k = 1 ∨ k = 2 ∨ k = 3 := by omega
  all_goals rfl
 rw [h1, h2, dec_zero] at h
 rw [e1, e2, ← Nat.add_assoc, h]
 rw [nth_prt _ _ _ (by omega), ← Int.natCast_add, ← Int.natCast_add]
 have hb := pat_rng hr ((x + k % 2 * 4 + j % 4 : Nat) : Int) ((y + k / 2 * 4 + j / 4 : Nat) : Int)
 rw [show nth (List.replicate 16 (0 : Int)) j = 0 from by simp only [nth, List.getD_eq_getElem?_getD, List.getElem?_replicate]; split <;> rfl, Int.add_zero, clipI_in hb.1 hb.2]
 rw [pat_in (W := W) (by rw [hrW]; omega) (by rw [hrH]; omega) hrW, ← Nat.add_assoc]
end Go.Proofs.YtbnhaegidfbgbaaDoor
namespace Go.Proofs.YtbnhaegidfbgbaaDoor
open Go.RowKit
set_option maxHeartbeats 1000000
theorem side_fit {W x : Nat} {w : Int} (hw : side w) (hW : w = W) (hx : (x : Int) < w) (hx8 : (x : Int) % 8 = 0) : x + 8 ≤ W := by
 have := hw.2.2
 omega
/-- What FnReconstruct says of the rebuilt picture: sample k. -/
theorem rec_plain {r p : Pic} {X Y : Nat} {m : Mac} {q top : Int} (h : okR r p X Y m q top) : (recP r p X Y m q top).valid ∧ (recP r p X Y m q top).px.length = p.px.length ∧ ∀ k W : Nat, p.w = W → k < p.px.length →
 (¬ (X ≤ k % W ∧ k % W < X + 8 ∧ Y ≤ k / W ∧ k / W < Y + 8) → nth (recP r p X Y m q top).px k = nth p.px k) ∧ ((X ≤ k % W ∧ k % W < X + 8 ∧ Y ≤ k / W ∧ k / W < Y + 8) → m.kind = 0 → nth (recP r p X Y m q top).px k = nth r.px k ∧ k < r.px.length) := by
 rw [recP_yes h]
 obtain ⟨⟨hp, hx0, hx1, hx2, hy0, hy1, hy2⟩, hm, ⟨hq0, hq1⟩, htop, hk⟩ := h
 simp only [Int.toNat_natCast]
 refine ⟨bldS_valid hp _ _ _ _ _ _ _, bldS_len _ _ _ _ _ _ _ _, fun k W hW hkl => ?_⟩
 obtain ⟨H, hH⟩ : ∃ H : Nat, p.h = H := ⟨p.h.toNat, by have := hp.2.1.1; omega⟩
 have fx := side_fit hp.1 hW (by omega) hx2
 have fy := side_fit hp.2.1 hH (by omega) hy2
 refine ⟨fun ho => bldS_out r p X Y m q.toNat top hW fx ho 4 (Nat.le_refl _), fun hi h0 => ?_⟩
 rcases hk with h2 | ⟨hr, -, hw, hh⟩
 ·exact absurd (h2.symm.trans h0) (by decide)
 ·have hl : r.px.length = p.px.length := by
   have h1 := hr.2.2.1
   have h2 := hp.2.2.1
   rw [hw, hh] at h1
   exact Int.ofNat.inj (h1.trans h2.symm)
  refine ⟨?_, by omega⟩
  obtain ⟨i, hi64⟩ : ∃ i, i = (k / W - Y) * 8 + (k % W - X) := ⟨_, rfl⟩
  have e1 : Y + i / 8 = k / W := by omega
  have e2 : X + i % 8 = k % W := by omega
  have hs := skip_px hr hp X Y hm h0 q.toNat top hW hH fx fy (by rw [hw]; exact hW) (by rw [hh]; exact hH) (i := i) (by omega)
  rw [e1, e2, Nat.mul_comm (k / W) W, Nat.div_add_mod] at hs
  exact hs
end Go.Proofs.YtbnhaegidfbgbaaDoor
