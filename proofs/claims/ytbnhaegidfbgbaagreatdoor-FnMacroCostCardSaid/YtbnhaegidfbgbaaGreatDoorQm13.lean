/- The program's rebuild of a macroblock of a picture. -/
import Derived.Test.YtbnhaegidfbgbaaGreatDoorQm12
set_option linter.unusedVariables false
set_option linter.unusedSimpArgs false
namespace Go.Proofs.YtbnhaegidfbgbaaGreatDoor
open Go.RowKit
set_option maxHeartbeats 1000000
theorem bld_step (ref : Pic) (W H : Nat) (px : List Int) (x y : Nat) (m : Mac) (q : Nat) (top : Int) (k : Nat) : bldS ref ⟨W, H, px⟩ x y m q top (k + 1) = putS (bldS ref ⟨W, H, px⟩ x y m q top k) W (x + k % 2 * 4) (y + k / 2 * 4) (prK ref W H (bldS ref ⟨W, H, px⟩ x y m q top k) x y m top k) (dec (sub m.lv (k * 16) 16) q) 16 := by
 show putS _ ((W : Int).toNat) _ _ _ _ _ = _
 rw [Int.toNat_natCast]
theorem ihad_bd {b : List Int} (h : bdA 1048576 b) : bdA 1099511627776 (ihad b) := bdA_of (by omega) fun j hj => by
 rw [ihad_len] at hj
 rw [nth_ihad _ hj]
 have := had_bdA h j
 omega
theorem dec_bd (l : List Int) (q : Nat) : bdA 1099511627776 (dec l q) := ihad_bd (inB_bdA (by omega) (dqs_rng l q) (by omega))
theorem smp_bd {b : List Int} (h : smp b) : bdA 1099511627776 b := bdA_of (by omega) fun j hj => by
 have := smp_nth h hj
 omega
theorem lv_blk {m : Mac} (h : m.ok) (hv : m.valid) {k : Nat} (hk : k < 4) : inB 4080 (sub m.lv (k * 16) 16) = true := (inB_blocks h.lv).1 hv.2.2.2.2.2.2 k hk
theorem sub16 {zs : List Int} (h : zs.length = 64) {k : Nat} (hk : k < 4) : (sub zs (k * 16) 16).length = 16 := sub_len _ _ _ (by omega)
theorem tabq_gr {w w' : World} {g : Nat} (h : TabQ w) (gr : w.grownBy w' (some g)) (hg : 0 ≠ g) : TabQ w' := fun j hj => by
 have h1 := h j hj
 exact gr.cell h1 (by simp; omega)
theorem lv2' {a b : Nat} (h : a < b) : (some b : Option Nat) ≠ some a := by simp; omega
theorem lv2 {a b : Nat} (h : a < b) : (some a : Option Nat) ≠ some b := by simp; omega
theorem ta_0_0 (cs : Array Value) (w : World) : (Instr.typeAssert (.iface 128 (.agg cs)) 126 128 true).run Tryz.prog w = .ok (.tuple #[.agg cs, .bool true]) w := by kernel_rfl
theorem ta_0_1 (cs : Array Value) (w : World) : (Instr.typeAssert (.iface 128 (.agg cs)) 126 129 true).run Tryz.prog w = .ok (.tuple #[.agg (ic (List.replicate 71 0)), .bool false]) w := by kernel_rfl
theorem ta_1_0 (cs : Array Value) (w : World) : (Instr.typeAssert (.iface 129 (.agg cs)) 126 128 true).run Tryz.prog w = .ok (.tuple #[.agg (ic (List.replicate 71 0)), .bool false]) w := by kernel_rfl
theorem ta_1_1 (cs : Array Value) (w : World) : (Instr.typeAssert (.iface 129 (.agg cs)) 126 129 true).run Tryz.prog w = .ok (.tuple #[.agg cs, .bool true]) w := by kernel_rfl
theorem ta_2_0 (cs : Array Value) (w : World) : (Instr.typeAssert (.iface 158 (.agg cs)) 126 128 true).run Tryz.prog w = .ok (.tuple #[.agg (ic (List.replicate 71 0)), .bool false]) w := by kernel_rfl
theorem ta_2_1 (cs : Array Value) (w : World) : (Instr.typeAssert (.iface 158 (.agg cs)) 126 129 true).run Tryz.prog w = .ok (.tuple #[.agg (ic (List.replicate 71 0)), .bool false]) w := by kernel_rfl
set_option maxRecDepth 100000 in
set_option maxHeartbeats 4000000 in
theorem rebuild_I (ref : Pic) (W H x y : Nat) (px : List Int) (m : Mac) (q : Nat) (top : Int) (ra : Option Addr) (rn rc base g n c : Nat) (w : World) (hT : TabQ w) (hbT : 0 < base) (own : w.ownsRow base 3 1 (.slice (some ⟨g, 0, none⟩) n c) n (px.map (Value.int .i64)))
 (hp : placeP ⟨W, H, px⟩ x y) (hm : m.ok) (hv : m.valid) (hq : q < 16) (hk : m.kind = 2) :
 Calls Tryz.prog 46 #[.agg #[.int .i64 W, .int .i64 H, .slice (some ⟨g, 0, none⟩) n c], .agg #[.int .i64 ref.w, .int .i64 ref.h, .slice ra rn rc], .int .i64 (x : Nat), .int .i64 (y : Nat), .agg (ic m.zs), .int .i64 q, .int .i64 top] w fun e w' => e = .returned (.tuple #[]) ∧ w'.ownsRow base 3 1 (.slice (some ⟨g, 0, none⟩) n c) n ((bldS ref ⟨W, H, px⟩ x y m q top 4).map (Value.int .i64)) ∧ w.grownBy w' (some g) := by
 obtain ⟨hpv, hx0, hx1, hx8, hy0, hy1, hy8⟩ := hp
 have hxx : x + 8 ≤ W := by have h1 := hpv.1.2.2; simp only at hx1 h1; omega
 have hyy : y + 8 ≤ H := by have h1 := hpv.2.1.2.2; simp only at hy1 h1; omega
 have hW32 : W ≤ 32 := by have := hpv.1.2.1; simp only at this; omega
 have hH32 : H ≤ 32 := by have := hpv.2.1.2.1; simp only at this; omega
 have hpl : n = px.length := by have := own.1; simpa using this.symm
 have hnW : n = W * H := by
  have h1 := hpv.2.2.1
  simp only [← Int.natCast_mul] at h1
  rw [hpl]; exact Int.ofNat.inj h1
 have hn1k : n ≤ 1024 := by rw [hnW]; exact Nat.mul_le_mul hW32 hH32
 have inn : ∀ u v : Nat, u + 4 ≤ H → v + 4 ≤ W → (u + 3) * W + v + 3 < n := fun u v h1 h2 => by
  have h3 := Nat.mul_le_mul_right W (show u + 4 ≤ H by omega)
  rw [Nat.add_mul, Nat.mul_comm H W, ← hnW] at h3
  rw [Nat.add_mul]
  omega
 have Inn := Lib.hid inn
 have HV := Lib.hid (fun k => bldS_valid hpv ref x y m q top k)
 have HL := Lib.hid (fun k => show n = (bldS ref ⟨W, H, px⟩ x y m q top k).length by rw [bldS_len, hpl])
 have Hmv := Lib.hid hv
 have Hm := Lib.hid hm
 have Hl := Lib.hid (Mac.zs_len hm)
 have HK := Lib.hid hk
 have hbg : base ≤ g := (own.lt g rfl).1
 have hgT : 0 ≠ g := by omega
 have hgw : g < w.heap.size := (own.lt g rfl).2
 have R0 : RG w base g n c ra rn rc W H ref m w.heap.size px (((w.alloc (.cells #[.int .i64 W, .int .i64 H, .slice (some ⟨g, 0, none⟩) n c] 25)).alloc (.cells #[.int .i64 ref.w, .int .i64 ref.h, .slice ra rn rc] 25)).alloc (.cells (ic m.zs) 32)) := by
  have a1 := Ext.alloc w (.cells #[.int .i64 W, .int .i64 H, .slice (some ⟨g, 0, none⟩) n c] 25)
  have a2 := Ext.alloc (w.alloc (.cells #[.int .i64 W, .int .i64 H, .slice (some ⟨g, 0, none⟩) n c] 25)) (.cells #[.int .i64 ref.w, .int .i64 ref.h, .slice ra rn rc] 25)
  have a3 := Ext.alloc ((w.alloc (.cells #[.int .i64 W, .int .i64 H, .slice (some ⟨g, 0, none⟩) n c] 25)).alloc (.cells #[.int .i64 ref.w, .int .i64 ref.h, .slice ra rn rc] 25)) (.cells (ic m.zs) 32)
  have q1 := a3.blk (blk_new (w.alloc (.cells #[.int .i64 W, .int .i64 H, .slice (some ⟨g, 0, none⟩) n c] 25)) (.cells #[.int .i64 ref.w, .int .i64 ref.h, .slice ra rn rc] 25))
  have q2 := IB.new ((w.alloc (.cells #[.int .i64 W, .int .i64 H, .slice (some ⟨g, 0, none⟩) n c] 25)).alloc (.cells #[.int .i64 ref.w, .int .i64 ref.h, .slice ra rn rc] 25)) 32 m.zs
  simp only [World.size_alloc] at q1 q2
  exact ⟨grown_ext (grown_refl _ _) ((a1.trans a2).trans a3), owns_ext own ((a1.trans a2).trans a3), a3.blk (a2.blk (blk_new _ _)), q1, q2, hgw⟩
 have HT := Lib.hid hT
 have ta1 := ta_2_0
 have ta2 := ta_2_1
 have hnil := fun (w : World) (a : Option Addr) (n c : Nat) => Lib.run_eql_slice_nil (P := Tryz.prog) w 23 3 a n c 0 0 Tryz.underlying23
 have r2 := R0.b2
 clear hpv hpl hnW inn hv hm hk own hx8 hy8 hT hx0 hy0 hx1 hy1
 go_enter Tryz.func46, Tryz.ntmps46
 go_wp2_with (refine wpList_iload 32 _ rfl rfl r2 0 71 rfl _ Tryz.underlying32 rfl size_Macro (by rw [Hl.out]; omega) _ (by rw [sub_all _ _ Hl.out]) ?_)
 try simp only [World.size_alloc]
 obtain ⟨B, hB⟩ : ∃ B, B = w.heap.size := ⟨_, rfl⟩
 rw [← hB] at R0 r2 ⊢
 have hwB : w.heap.size ≤ B := by omega
 have HB := Lib.hid hB
 clear hB r2
 refine (impl_kindOf_2 m _ Hm.out HK.out).mono ?_
 rintro e w1 ⟨rfl, e1⟩
 have R1 := R0.ex e1
 clear R0 e1
 have r2 := R1.b2
 go_wp2_with (refine wpList_iload 30 _ rfl rfl r2 7 64 rfl _ Tryz.underlying30 rfl size_A16A4 (by rw [Hl.out]; omega) _ (by rw [Mac.zs_lv Hm.out]) ?_)
 clear r2
 go_loopw [37] (fun i wr => ∃ k : Nat, k ≤ 4 ∧ i = .int .i64 k ∧ RG w base g n c ra rn rc W H ref m B (bldS ref ⟨W, H, px⟩ x y m q top k) wr) (fun i _ => 4 - (intOf i).toNat)
 case atStart => exact ⟨0, by omega, rfl, R1⟩
 case round =>
  obtain ⟨k, hk, rfl, R3⟩ := hrel
  clear R1
  by_cases hlt : k < 4
  ·have hd : decide ((k : Int) < 4) = true := by simp; omega
   have hZv := HV.out k
   have hZn := HL.out k
   have Hst := Lib.hid (bld_step ref W H px x y m q top k)
   obtain ⟨Z, hZ⟩ : ∃ Z, Z = bldS ref ⟨W, H, px⟩ x y m q top k := ⟨_, rfl⟩
   obtain ⟨Z1, hZ1⟩ : ∃ Z, Z = bldS ref ⟨W, H, px⟩ x y m q top (k + 1) := ⟨_, rfl⟩
   rw [← hZ] at R3 hZv hZn Hst
   rw [← hZ1] at Hst
   have HZ1 := Lib.hid hZ1
   have HZv := Lib.hid hZv
   have HZn := Lib.hid hZn
   obtain ⟨xi, hxi⟩ : ∃ v, v = x + k % 2 * 4 := ⟨_, rfl⟩
   obtain ⟨yj, hyj⟩ : ∃ v, v = y + k / 2 * 4 := ⟨_, rfl⟩
   have HPK := Lib.hid (show prK ref W H Z x y m top k = prd (nth m.modes k).toNat (edg ⟨W, H, Z⟩ ((x + k % 2 * 4 : Nat) : Int) ((y + k / 2 * 4 : Nat) : Int) top) from if_pos HK.out)
   rw [← hxi, ← hyj] at Hst HPK
   have hxi4 : xi + 4 ≤ W := by omega
   have hyj4 : yj + 4 ≤ H := by omega
   have Hxi := Lib.hid (show (x : Int) + (k : Int) % 2 * 4 = ((xi : Nat) : Int) by omega)
   have Hyj := Lib.hid (show (y : Int) + (k : Int) / 2 * 4 = ((yj : Nat) : Int) by omega)
   have hI := Inn.out yj xi hyj4 hxi4
   have hB16 := sub16 Hm.out.lv hlt
   have hBv := lv_blk Hm.out Hmv.out hlt
   obtain ⟨bk, hbk⟩ : ∃ b, b = sub m.lv (k * 16) 16 := ⟨_, rfl⟩
   have Hbk := Lib.hid hbk
   rw [← hbk] at hB16 hBv Hst
   have HB16 := Lib.hid hB16
   have HBv := Lib.hid hBv
   clear hZ hZ1 hxi hyj hbk hB16 hBv hZv hZn
   -- the block's levels are laid
   have ia := IB.new wr 29 (List.replicate 16 0)
   have R4 := R3.ex (Ext.alloc wr (.cells (ic (List.replicate 16 0)) 29))
   have hO := lt_of_block R3.b2
   go_wp2_with (first | (refine wpList_iindexa _ _ _ rfl rfl m.lv rfl k 4 16 _ rfl rfl _ _ Tryz.underlying30 Tryz.underlying29 rfl size_A16 hlt ?_) | (refine wpList_istore 29 _ _ rfl rfl ia 0 16 rfl _ rfl bk (by rw [Hbk.out]) size_A16 HB16.out (by simp) ?_; intro w5 i5 g5; refine Hid.out ?_))
   rw [spl_all (by rw [HB16.out]; simp)] at i5
   have R5 := R4.loc g5 hO hwB
   obtain ⟨O, hOe⟩ : ∃ O, O = wr.heap.size := ⟨_, rfl⟩
   rw [← hOe] at i5 g5 hO ⊢
   have HOe := Lib.hid hOe
   clear hOe ia R4 R3 g5
   refine Lib.hid ?_
   go_wp2_with fail
   refine (partAt_any k _ hlt).mono ?_
   rintro e w6 ⟨rfl, rfl⟩
   have ib := IB.new w5 29 (List.replicate 16 0)
   have R6 := R5.ex (Ext.alloc w5 (.cells (ic (List.replicate 16 0)) 29))
   have i6 := i5.alloc (.cells (ic (List.replicate 16 0)) 29)
   have hO2 := i5.lt
   obtain ⟨O2, hO2e⟩ : ∃ O, O = w5.heap.size := ⟨_, rfl⟩
   rw [← hO2e] at ib hO2
   have HO2 := Lib.hid hO2e
   have hb0 := R6.b0
   have hgB := R6.gB
   obtain ⟨E, hE⟩ : ∃ E, E = edg ⟨W, H, Z⟩ (xi : Int) (yj : Int) top := ⟨_, rfl⟩
   have hEok := edg_ok HZv.out (xi : Int) (yj : Int) top
   rw [← hE] at hEok HPK
   have HE := Lib.hid hE
   have HEok := Lib.hid hEok
   have hmr := Hmv.out.2.2.2.2.1 HK.out k hlt
   obtain ⟨md, hmd⟩ : ∃ v : Nat, nth m.modes k = (v : Int) := ⟨(nth m.modes k).toNat, by omega⟩
   rw [hmd] at hmr
   rw [hmd, Int.toNat_natCast] at HPK
   have Hmd := Lib.hid hmd
   obtain ⟨PR, hPR⟩ : ∃ P, P = prd md E := ⟨_, rfl⟩
   rw [← hPR] at HPK
   rw [HPK.out] at Hst
   have HPR := Lib.hid hPR
   clear hE hEok hmd hPR
   have hPl : PR.length = 16 := by rw [HPR.out, prd_len]
   have HPl := Lib.hid hPl
   have hPb : bdA 1099511627776 PR := by rw [HPR.out]; exact smp_bd (prd_smp _ HEok.out)
   have HPb := Lib.hid hPb
   clear hPl hPb
   go_wp2_with fail
   rw [← hO2e]
   clear hO2e
   have G7 : RG w base g n c ra rn rc W H ref m B Z (w5.alloc (.cells (ic (List.replicate 16 0)) 29)) ∧ IB (w5.alloc (.cells (ic (List.replicate 16 0)) 29)) O 29 bk ∧ IB (w5.alloc (.cells (ic (List.replicate 16 0)) 29)) O2 29 (List.replicate 16 0) := ⟨R6, i6, ib⟩
   clear R5 i5 R6 i6 ib hb0
   refine wp_region_invL (by kernel_rfl) [(48, 0), (49, 1), (50, 2), (51, 3), (52, 4), (53, 5), (54, 6), (55, 7), (56, 8), (57, 9), (58, 10), (59, 11), (60, 12), (61, 13)] [[], [], [], [1, 2], [], [], [4, 5], [], [0, 1, 2, 3, 4, 5, 6, 7], [], [], [9, 10], [9, 10, 11], [0, 1, 2, 3, 4, 5, 6, 7, 8, 9, 10, 11, 12], [0, 1, 2, 3, 4, 5, 6, 7, 8, 9, 10, 11, 12, 13]] (fun i own ys wx => match i with | 0 => own = .agg #[.int .i64 W, .int .i64 H, .slice (some ⟨g, 0, none⟩) n c] | 1 => own = .int .i64 (x : Nat) | 2 => own = .int .i64 ((k : Int) % 2 * 4) | 3 => own = .int .i64 (xi : Nat) | 4 => own = .int .i64 (y : Nat) | 5 => own = .int .i64 ((k : Int) / 2 * 4) | 6 => own = .int .i64 (yj : Nat) | 7 => own = .int .i64 top | 8 => own = .agg (edC E) | 9 => own = .int .i64 (k : Nat) | 10 => own = .pointer (some ⟨B + 1 + 1, 3, none⟩) | 11 => own = .pointer (some ⟨B + 1 + 1, 3 + k, none⟩) | 12 => own = .int .i64 (md : Nat) | 13 => own = .agg (ic PR) | 14 => True | _ => True) (fun Lx wx => RG w base g n c ra rn rc W H ref m B Z wx ∧ IB wx O 29 bk ∧ IB wx O2 29 (if Lx 14 = true then PR else (List.replicate 16 0))) (by kernel_rfl) (by kernel_rfl) (by kernel_rfl) ?g0_r1 ?gop_r1 ?gend_r1
   case g0_r1 => exact ⟨G7.1.drew, G7.2.1.drewN 1, G7.2.2.drewN 1⟩
   case gop_r1 =>
    refine ⟨?o0, ?_, ?_, ?o3, ?_, ?_, ?o6, ?_, ?o8, ?_, ?_, ?o11, ?o12, ?o13, ?o14, trivial⟩ <;> (intro Lx xs wx hG hl ha hb hD hI Qo Kx hK hQo; simp only [patchS, Nat.reduceAdd, Nat.reduceEqDiff, ↓reduceIte] at hQo ⊢)
    case o0 =>
     have l14 : Lx 14 = false := hb 14 rfl
     clear hl ha hb hD hI
     obtain ⟨-, k0, k1, k2, -⟩ := bx3 hG.1.b0
     go_wp2
     exact hK.out _ _ ⟨rfl, hG, fun _ _ _ _ _ _ h => h⟩
    case o3 =>
     have l14 : Lx 14 = false := hb 14 rfl
     clear hl ha hb
     have d1 : _ = _ := hD 1 rfl
     have d2 : _ = _ := hD 2 rfl
     clear hD hI
     generalize xs 1 = y1 at *
     generalize xs 2 = y2 at *
     subst d1 d2
     go_wp2
     exact hK.out _ _ ⟨by rw [← Hxi.out], hG, fun _ _ _ _ _ _ h => h⟩
    case o6 =>
     have l14 : Lx 14 = false := hb 14 rfl
     clear hl ha hb
     have d4 : _ = _ := hD 4 rfl
     have d5 : _ = _ := hD 5 rfl
     clear hD hI
     generalize xs 4 = y4 at *
     generalize xs 5 = y5 at *
     subst d4 d5
     go_wp2
     exact hK.out _ _ ⟨by rw [← Hyj.out], hG, fun _ _ _ _ _ _ h => h⟩
    case o8 =>
     have l14 : Lx 14 = false := hb 14 rfl
     clear hl ha hb
     have d0 : _ = _ := hD 0 rfl
     have d3 : _ = _ := hD 3 rfl
     have d6 : _ = _ := hD 6 rfl
     have d7 : _ = _ := hD 7 rfl
     clear hD hI
     generalize xs 0 = y0 at *
     generalize xs 3 = y3 at *
     generalize xs 6 = y6 at *
     generalize xs 7 = y7 at *
     subst d0 d3 d6 d7
     go_wp2_with fail
     refine (edges_any ⟨W, H, Z⟩ (xi : Int) (yj : Int) top (some ⟨g, 0, none⟩) c n _ HZv.out HZn.out (Sl.of_owns hG.1.own) (by omega) (by omega) (by omega) (by omega)).mono ?_
     rintro e w9 ⟨rfl, e9⟩
     rw [← HE.out]
     go_wp2
     exact hK.out _ _ ⟨rfl, ⟨hG.1.ex e9, hG.2.1.ext e9, hG.2.2.ext e9⟩, fun _ _ _ _ _ _ h => h⟩
    case o11 =>
     have l14 : Lx 14 = false := hb 14 rfl
     clear hl ha hb
     have d9 : _ = _ := hD 9 rfl
     have d10 : _ = _ := hD 10 rfl
     clear hD hI
     generalize xs 9 = y9 at *
     generalize xs 10 = y10 at *
     subst d9 d10
     go_wp2
     exact hK.out _ _ ⟨rfl, hG, fun _ _ _ _ _ _ h => h⟩
    case o12 =>
     have l14 : Lx 14 = false := hb 14 rfl
     clear hl ha hb
     have d11 : _ = _ := hD 11 rfl
     clear hD hI
     generalize xs 11 = y11 at *
     subst d11
     have cx := hG.1.b2.cell (i := 3 + k) (by rw [Hl.out]; omega)
     rw [Mac.nth_mode Hm.out k hlt, Hmd.out] at cx
     go_wp2
     exact hK.out _ _ ⟨rfl, hG, fun _ _ _ _ _ _ h => h⟩
    case o13 =>
     have l14 : Lx 14 = false := hb 14 rfl
     clear hl ha hb
     have d8 : _ = _ := hD 8 rfl
     have d12 : _ = _ := hD 12 rfl
     clear hD hI
     generalize xs 8 = y8 at *
     generalize xs 12 = y12 at *
     subst d8 d12
     go_wp2_with fail
     refine (predict_any E md _ HEok.out (by omega)).mono ?_
     rintro e w9 ⟨rfl, e9⟩
     rw [← HPR.out]
     go_wp2
     exact hK.out _ _ ⟨rfl, ⟨hG.1.ex e9, hG.2.1.ext e9, hG.2.2.ext e9⟩, fun _ _ _ _ _ _ h => h⟩
    case o14 =>
     have l14 : Lx 14 = false := hl
     clear hl ha hb
     have d13 : _ = _ := hD 13 rfl
     clear hD hI
     generalize xs 13 = y13 at *
     subst d13
     rw [l14, ifF] at hG
     refine wpList_istore 29 _ _ rfl rfl hG.2.2 0 16 rfl _ rfl PR rfl size_A16 HPl.out (by simp) ?_
     intro w9 i9 g9
     rw [spl_all (by rw [HPl.out]; simp)] at i9
     exact hQo undef _ (hK.out _ _ ⟨trivial, ⟨hG.1.loc g9 (by omega) hwB, hG.2.1.gr g9 (lv2' (by omega)), i9⟩, fun _ _ _ _ _ _ h => h⟩)
    all_goals
     have l14 : Lx 14 = false := hb 14 rfl
     clear hl ha hb hD hI
     go_wp2
     exact hK.out _ _ ⟨rfl, hG, fun _ _ _ _ _ _ h => h⟩
   intro xs wx hV hG0
   obtain ⟨Lx, hL, hG⟩ := hG0
   have l14 : Lx 14 = true := hL 14 (by decide)
   clear hL hV
   simp only [patchS, Nat.reduceAdd, Nat.reduceEqDiff, ↓reduceIte]
   generalize xs 0 = y0 at *
   generalize xs 1 = y1 at *
   generalize xs 2 = y2 at *
   generalize xs 3 = y3 at *
   generalize xs 4 = y4 at *
   generalize xs 5 = y5 at *
   generalize xs 6 = y6 at *
   generalize xs 7 = y7 at *
   generalize xs 8 = y8 at *
   generalize xs 9 = y9 at *
   generalize xs 10 = y10 at *
   generalize xs 11 = y11 at *
   generalize xs 12 = y12 at *
   generalize xs 13 = y13 at *
   generalize xs 14 = y14 at *
   replace hG : RG w base g n c ra rn rc W H ref m B Z wx ∧ IB wx O 29 bk ∧ IB wx O2 29 (if Lx 14 = true then PR else (List.replicate 16 0)) := hG
   rw [l14, ifT] at hG
   clear G7
   obtain ⟨RM, bM, pM⟩ := hG
   go_wp2_with fail
   obtain ⟨D, hD⟩ : ∃ D, D = dec bk q := ⟨_, rfl⟩
   rw [← hD] at Hst
   have HD := Lib.hid hD
   have HDl := Lib.hid (show D.length = 16 by rw [hD, dec_len])
   have HDb := Lib.hid (show bdA 1099511627776 D by rw [hD]; exact dec_bd _ _)
   clear hD
   refine wp_region_invL (by kernel_rfl) [(66, 0), (67, 1), (68, 2), (69, 3), (70, 4), (71, 5), (72, 6), (73, 7), (74, 8), (75, 9), (76, 10), (77, 11)] [[], [], [], [1, 2], [], [], [4, 5], [], [], [], [8, 9], [0, 1, 2, 3, 4, 5, 6, 7, 8, 9, 10]] (fun i own ys wx => match i with | 0 => own = .agg #[.int .i64 W, .int .i64 H, .slice (some ⟨g, 0, none⟩) n c] | 1 => own = .int .i64 (x : Nat) | 2 => own = .int .i64 ((k : Int) % 2 * 4) | 3 => own = .int .i64 (xi : Nat) | 4 => own = .int .i64 (y : Nat) | 5 => own = .int .i64 ((k : Int) / 2 * 4) | 6 => own = .int .i64 (yj : Nat) | 7 => own = .agg (ic PR) | 8 => own = .agg (ic bk) | 9 => own = .int .i64 (q : Nat) | 10 => own = .agg (ic D) | 11 => True | _ => True) (fun Lx wx => RG w base g n c ra rn rc W H ref m B (if Lx 11 = true then Z1 else Z) wx ∧ IB wx O 29 bk ∧ IB wx O2 29 PR) (by kernel_rfl) (by kernel_rfl) (by kernel_rfl) ?g0_r2 ?gop_r2 ?gend_r2
   case g0_r2 => exact ⟨RM.drew, bM.drewN 1, pM.drewN 1⟩
   case gop_r2 =>
    refine ⟨?o0, ?_, ?_, ?o3, ?_, ?_, ?o6, ?o7, ?o8, ?_, ?o10, ?o11, trivial⟩ <;> (intro Lx xs wx hG hl ha hb hD hI Qo Kx hK hQo; simp only [patchS, Nat.reduceAdd, Nat.reduceEqDiff, ↓reduceIte] at hQo ⊢)
    case o0 =>
     have l11 : Lx 11 = false := hb 11 rfl
     clear hl ha hb hD hI
     obtain ⟨-, k0, k1, k2, -⟩ := bx3 hG.1.b0
     go_wp2
     exact hK.out _ _ ⟨rfl, hG, fun _ _ _ _ _ _ h => h⟩
    case o3 =>
     have l11 : Lx 11 = false := hb 11 rfl
     clear hl ha hb
     have d1 : _ = _ := hD 1 rfl
     have d2 : _ = _ := hD 2 rfl
     clear hD hI
     generalize xs 1 = y1 at *
     generalize xs 2 = y2 at *
     subst d1 d2
     go_wp2
     exact hK.out _ _ ⟨by rw [← Hxi.out], hG, fun _ _ _ _ _ _ h => h⟩
    case o6 =>
     have l11 : Lx 11 = false := hb 11 rfl
     clear hl ha hb
     have d4 : _ = _ := hD 4 rfl
     have d5 : _ = _ := hD 5 rfl
     clear hD hI
     generalize xs 4 = y4 at *
     generalize xs 5 = y5 at *
     subst d4 d5
     go_wp2
     exact hK.out _ _ ⟨by rw [← Hyj.out], hG, fun _ _ _ _ _ _ h => h⟩
    case o7 =>
     have l11 : Lx 11 = false := hb 11 rfl
     clear hl ha hb hD hI
     go_wp2_with (refine wpList_iload 29 _ rfl rfl hG.2.2 0 16 rfl _ Tryz.underlying29 rfl size_A16 (by rw [HPl.out]; omega) _ (by rw [sub_all _ _ HPl.out]) ?_)
     exact hK.out _ _ ⟨rfl, hG, fun _ _ _ _ _ _ h => h⟩
    case o8 =>
     have l11 : Lx 11 = false := hb 11 rfl
     clear hl ha hb hD hI
     go_wp2_with (refine wpList_iload 29 _ rfl rfl hG.2.1 0 16 rfl _ Tryz.underlying29 rfl size_A16 (by rw [HB16.out]; omega) _ (by rw [sub_all _ _ HB16.out]) ?_)
     exact hK.out _ _ ⟨rfl, hG, fun _ _ _ _ _ _ h => h⟩
    case o10 =>
     have l11 : Lx 11 = false := hb 11 rfl
     clear hl ha hb
     have d8 : _ = _ := hD 8 rfl
     have d9 : _ = _ := hD 9 rfl
     clear hD hI
     generalize xs 8 = y8 at *
     generalize xs 9 = y9 at *
     subst d8 d9
     have hTx := tabq_gr HT.out hG.1.gr hgT
     go_wp2_with fail
     refine (DecodeBlock_any bk q _ hTx HB16.out HBv.out hq).mono ?_
     rintro e w9 ⟨rfl, e9⟩
     rw [← HD.out]
     go_wp2
     exact hK.out _ _ ⟨rfl, ⟨hG.1.ex e9, hG.2.1.ext e9, hG.2.2.ext e9⟩, fun _ _ _ _ _ _ h => h⟩
    case o11 =>
     have l11 : Lx 11 = false := hl
     clear hl ha hb
     have d0 : _ = _ := hD 0 rfl
     have d3 : _ = _ := hD 3 rfl
     have d6 : _ = _ := hD 6 rfl
     have d7 : _ = _ := hD 7 rfl
     have d10 : _ = _ := hD 10 rfl
     clear hD hI
     generalize xs 0 = y0 at *
     generalize xs 3 = y3 at *
     generalize xs 6 = y6 at *
     generalize xs 7 = y7 at *
     generalize xs 10 = y10 at *
     subst d0 d3 d6 d7 d10
     rw [l11, ifF] at hG
     go_wp2_with fail
     refine (put_any W H xi yj base g n c Z PR D _ HPl.out HDl.out HPb.out HDb.out hW32 (by omega) (by omega) hI (by omega) hG.1.own).mono ?_
     rintro e w9 ⟨rfl, o9, g9⟩
     go_wp2
     rw [← Hst.out] at o9
     exact hK.out _ _ ⟨trivial, ⟨hG.1.put g9 o9, hG.2.1.gr g9 (lv2 (by omega)), hG.2.2.gr g9 (lv2 (by omega))⟩, fun _ _ _ _ _ _ h => h⟩
    all_goals
     have l11 : Lx 11 = false := hb 11 rfl
     clear hl ha hb hD hI
     go_wp2
     exact hK.out _ _ ⟨rfl, hG, fun _ _ _ _ _ _ h => h⟩
   intro xs wx hV hG0
   obtain ⟨Lx, hL, hG⟩ := hG0
   have l11 : Lx 11 = true := hL 11 (by decide)
   clear hL hV
   simp only [patchS, Nat.reduceAdd, Nat.reduceEqDiff, ↓reduceIte]
   generalize xs 0 = y0 at *
   generalize xs 1 = y1 at *
   generalize xs 2 = y2 at *
   generalize xs 3 = y3 at *
   generalize xs 4 = y4 at *
   generalize xs 5 = y5 at *
   generalize xs 6 = y6 at *
   generalize xs 7 = y7 at *
   generalize xs 8 = y8 at *
   generalize xs 9 = y9 at *
   generalize xs 10 = y10 at *
   generalize xs 11 = y11 at *
   replace hG : RG w base g n c ra rn rc W H ref m B (if Lx 11 = true then Z1 else Z) wx ∧ IB wx O 29 bk ∧ IB wx O2 29 PR := hG
   rw [l11, ifT] at hG
   clear RM bM pM
   have HG := Lib.hid hG
   clear hG
   go_wp2
   go_roundw
   case rel => exact ⟨k + 1, by omega, by go_num, by rw [← HZ1.out]; exact HG.out.1⟩
   case measure => simp [intOf]; omega
  ·obtain rfl : k = 4 := by omega
   have HR := Lib.hid R3
   clear R3
   go_wp2
   go_end0
   exact ⟨rfl, HR.out.own, HR.out.gr⟩
set_option maxRecDepth 100000 in
set_option maxHeartbeats 4000000 in
theorem rebuild_S (ref : Pic) (W H x y : Nat) (px : List Int) (m : Mac) (q : Nat) (top : Int) (ra : Option Addr) (rn rc base g n c : Nat) (w : World) (hT : TabQ w) (hbT : 0 < base) (own : w.ownsRow base 3 1 (.slice (some ⟨g, 0, none⟩) n c) n (px.map (Value.int .i64)))
 (hp : placeP ⟨W, H, px⟩ x y) (hm : m.ok) (hv : m.valid) (hq : q < 16) (hk : m.kind = 0) (hrv : ref.valid) (hrn : rn = ref.px.length) (hr : Sl w ra rn (ref.px.map (Value.int .i64))) (hrg : ∀ z, ra = some z → z.block ≠ g) :
 Calls Tryz.prog 46 #[.agg #[.int .i64 W, .int .i64 H, .slice (some ⟨g, 0, none⟩) n c], .agg #[.int .i64 ref.w, .int .i64 ref.h, .slice ra rn rc], .int .i64 (x : Nat), .int .i64 (y : Nat), .agg (ic m.zs), .int .i64 q, .int .i64 top] w fun e w' => e = .returned (.tuple #[]) ∧ w'.ownsRow base 3 1 (.slice (some ⟨g, 0, none⟩) n c) n ((bldS ref ⟨W, H, px⟩ x y m q top 4).map (Value.int .i64)) ∧ w.grownBy w' (some g) := by
 obtain ⟨hpv, hx0, hx1, hx8, hy0, hy1, hy8⟩ := hp
 have hxx : x + 8 ≤ W := by have h1 := hpv.1.2.2; simp only at hx1 h1; omega
 have hyy : y + 8 ≤ H := by have h1 := hpv.2.1.2.2; simp only at hy1 h1; omega
 have hW32 : W ≤ 32 := by have := hpv.1.2.1; simp only at this; omega
 have hH32 : H ≤ 32 := by have := hpv.2.1.2.1; simp only at this; omega
 have hpl : n = px.length := by have := own.1; simpa using this.symm
 have hnW : n = W * H := by
  have h1 := hpv.2.2.1
  simp only [← Int.natCast_mul] at h1
  rw [hpl]; exact Int.ofNat.inj h1
 have hn1k : n ≤ 1024 := by rw [hnW]; exact Nat.mul_le_mul hW32 hH32
 have inn : ∀ u v : Nat, u + 4 ≤ H → v + 4 ≤ W → (u + 3) * W + v + 3 < n := fun u v h1 h2 => by
  have h3 := Nat.mul_le_mul_right W (show u + 4 ≤ H by omega)
  rw [Nat.add_mul, Nat.mul_comm H W, ← hnW] at h3
  rw [Nat.add_mul]
  omega
 have Inn := Lib.hid inn
 have HV := Lib.hid (fun k => bldS_valid hpv ref x y m q top k)
 have HL := Lib.hid (fun k => show n = (bldS ref ⟨W, H, px⟩ x y m q top k).length by rw [bldS_len, hpl])
 have Hmv := Lib.hid hv
 have Hm := Lib.hid hm
 have Hl := Lib.hid (Mac.zs_len hm)
 have HK := Lib.hid hk
 have hbg : base ≤ g := (own.lt g rfl).1
 have hgT : 0 ≠ g := by omega
 have hgw : g < w.heap.size := (own.lt g rfl).2
 have R0 : RG w base g n c ra rn rc W H ref m w.heap.size px (((w.alloc (.cells #[.int .i64 W, .int .i64 H, .slice (some ⟨g, 0, none⟩) n c] 25)).alloc (.cells #[.int .i64 ref.w, .int .i64 ref.h, .slice ra rn rc] 25)).alloc (.cells (ic m.zs) 32)) := by
  have a1 := Ext.alloc w (.cells #[.int .i64 W, .int .i64 H, .slice (some ⟨g, 0, none⟩) n c] 25)
  have a2 := Ext.alloc (w.alloc (.cells #[.int .i64 W, .int .i64 H, .slice (some ⟨g, 0, none⟩) n c] 25)) (.cells #[.int .i64 ref.w, .int .i64 ref.h, .slice ra rn rc] 25)
  have a3 := Ext.alloc ((w.alloc (.cells #[.int .i64 W, .int .i64 H, .slice (some ⟨g, 0, none⟩) n c] 25)).alloc (.cells #[.int .i64 ref.w, .int .i64 ref.h, .slice ra rn rc] 25)) (.cells (ic m.zs) 32)
  have q1 := a3.blk (blk_new (w.alloc (.cells #[.int .i64 W, .int .i64 H, .slice (some ⟨g, 0, none⟩) n c] 25)) (.cells #[.int .i64 ref.w, .int .i64 ref.h, .slice ra rn rc] 25))
  have q2 := IB.new ((w.alloc (.cells #[.int .i64 W, .int .i64 H, .slice (some ⟨g, 0, none⟩) n c] 25)).alloc (.cells #[.int .i64 ref.w, .int .i64 ref.h, .slice ra rn rc] 25)) 32 m.zs
  simp only [World.size_alloc] at q1 q2
  exact ⟨grown_ext (grown_refl _ _) ((a1.trans a2).trans a3), owns_ext own ((a1.trans a2).trans a3), a3.blk (a2.blk (blk_new _ _)), q1, q2, hgw⟩
 have HT := Lib.hid hT
 have ta1 := ta_0_0
 have ta2 := ta_0_1
 have hnil := fun (w : World) (a : Option Addr) (n c : Nat) => Lib.run_eql_slice_nil (P := Tryz.prog) w 23 3 a n c 0 0 Tryz.underlying23
 have r2 := R0.b2
 clear hpv hpl hnW inn hv hm hk own hx8 hy8 hT
 have Hrv := Lib.hid hrv
 have Hrn := Lib.hid hrn
 have Hrg := Lib.hid hrg
 clear hrv hrn hrg hx0 hy0 hx1 hy1
 go_enter Tryz.func46, Tryz.ntmps46
 go_wp2_with (refine wpList_iload 32 _ rfl rfl r2 0 71 rfl _ Tryz.underlying32 rfl size_Macro (by rw [Hl.out]; omega) _ (by rw [sub_all _ _ Hl.out]) ?_)
 try simp only [World.size_alloc]
 obtain ⟨B, hB⟩ : ∃ B, B = w.heap.size := ⟨_, rfl⟩
 rw [← hB] at R0 r2 ⊢
 have hwB : w.heap.size ≤ B := by omega
 have HB := Lib.hid hB
 clear hB r2
 refine (impl_kindOf_0 m _ Hm.out HK.out).mono ?_
 rintro e w1 ⟨rfl, e1⟩
 have R1 := R0.ex e1
 clear R0 e1
 have r2 := R1.b2
 obtain ⟨-, k0, k1, k2, -⟩ := bx3 R1.b1
 have hrs : Sl w1 ra rn (ref.px.map (Value.int .i64)) := hr.grown R1.gr (fun z hz => by have := Hrg.out z hz; simp; omega)
 have hvv := Hmv.out.2.1
 go_wp2_with (refine wpList_iload 27 _ rfl rfl r2 1 2 rfl _ Tryz.underlying27 rfl size_Vector (by rw [Hl.out]; omega) _ Mac.zs_mv ?_)
 refine (moved_any ref x y m.x m.y ra rc rn _ Hrv.out Hrn.out hrs (by omega) (by omega) (by omega) (by omega) hvv.1 hvv.2.1 hvv.2.2.1 hvv.2.2.2).mono ?_
 rintro e w2 ⟨a2, c2, rfl, o2, e2⟩
 have R2 := R1.ex e2
 have hs1 := R1.gr.size
 have ha2 : ∃ g2, a2 = some ⟨g2, 0, none⟩ ∧ g2 ≠ g := by
  rcases o2.2 with ⟨-, h0⟩ | ⟨g2, cc, cur, hv2, hb2, -⟩
  ·omega
  ·simp only [Value.slice.injEq] at hv2
   exact ⟨g2, hv2.1, by omega⟩
 obtain ⟨g2, rfl, hg2⟩ := ha2
 have s2 := Sl.of_owns o2
 have Hb := Lib.hid (blkL_len ref x y m.x m.y)
 clear k0 k1 k2 r2 R1 e2 o2 hrs hr hvv
 have r2 := R2.b2
 go_wp2_with (refine wpList_iload 30 _ rfl rfl r2 7 64 rfl _ Tryz.underlying30 rfl size_A16A4 (by rw [Hl.out]; omega) _ (by rw [Mac.zs_lv Hm.out]) ?_)
 clear r2
 go_loopw [37] (fun i wr => ∃ k : Nat, k ≤ 4 ∧ i = .int .i64 k ∧ RG w base g n c ra rn rc W H ref m B (bldS ref ⟨W, H, px⟩ x y m q top k) wr ∧ Hid (Sl wr (some ⟨g2, 0, none⟩) 64 ((blkL ref x y m.x m.y).map (Value.int .i64)))) (fun i _ => 4 - (intOf i).toNat)
 case atStart => exact ⟨0, by omega, rfl, R2, Lib.hid s2⟩
 case round =>
  obtain ⟨k, hk, rfl, R3, S3⟩ := hrel
  clear R2 s2
  by_cases hlt : k < 4
  ·have hd : decide ((k : Int) < 4) = true := by simp; omega
   have hZv := HV.out k
   have hZn := HL.out k
   have Hst := Lib.hid (bld_step ref W H px x y m q top k)
   obtain ⟨Z, hZ⟩ : ∃ Z, Z = bldS ref ⟨W, H, px⟩ x y m q top k := ⟨_, rfl⟩
   obtain ⟨Z1, hZ1⟩ : ∃ Z, Z = bldS ref ⟨W, H, px⟩ x y m q top (k + 1) := ⟨_, rfl⟩
   rw [← hZ] at R3 hZv hZn Hst
   rw [← hZ1] at Hst
   have HZ1 := Lib.hid hZ1
   have HZv := Lib.hid hZv
   have HZn := Lib.hid hZn
   obtain ⟨xi, hxi⟩ : ∃ v, v = x + k % 2 * 4 := ⟨_, rfl⟩
   obtain ⟨yj, hyj⟩ : ∃ v, v = y + k / 2 * 4 := ⟨_, rfl⟩
   have HPK := Lib.hid (show prK ref W H Z x y m top k = pof (blkL ref x y m.x m.y) (k % 2 * 4) (k / 2 * 4) from if_neg (by rw [HK.out]; decide))
   rw [← hxi, ← hyj] at Hst
   have hxi4 : xi + 4 ≤ W := by omega
   have hyj4 : yj + 4 ≤ H := by omega
   have Hxi := Lib.hid (show (x : Int) + (k : Int) % 2 * 4 = ((xi : Nat) : Int) by omega)
   have Hyj := Lib.hid (show (y : Int) + (k : Int) / 2 * 4 = ((yj : Nat) : Int) by omega)
   have hI := Inn.out yj xi hyj4 hxi4
   have hB16 := sub16 Hm.out.lv hlt
   have hBv := lv_blk Hm.out Hmv.out hlt
   obtain ⟨bk, hbk⟩ : ∃ b, b = sub m.lv (k * 16) 16 := ⟨_, rfl⟩
   have Hbk := Lib.hid hbk
   rw [← hbk] at hB16 hBv Hst
   have HB16 := Lib.hid hB16
   have HBv := Lib.hid hBv
   clear hZ hZ1 hxi hyj hbk hB16 hBv hZv hZn
   -- the block's levels are laid
   have ia := IB.new wr 29 (List.replicate 16 0)
   have R4 := R3.ex (Ext.alloc wr (.cells (ic (List.replicate 16 0)) 29))
   have hO := lt_of_block R3.b2
   have S4 := S3.out.ext (Ext.alloc wr (.cells (ic (List.replicate 16 0)) 29))
   go_wp2_with (first | (refine wpList_iindexa _ _ _ rfl rfl m.lv rfl k 4 16 _ rfl rfl _ _ Tryz.underlying30 Tryz.underlying29 rfl size_A16 hlt ?_) | (refine wpList_istore 29 _ _ rfl rfl ia 0 16 rfl _ rfl bk (by rw [Hbk.out]) size_A16 HB16.out (by simp) ?_; intro w5 i5 g5; refine Hid.out ?_))
   rw [spl_all (by rw [HB16.out]; simp)] at i5
   have R5 := R4.loc g5 hO hwB
   have hg2r : g2 < wr.heap.size := by
    obtain ⟨b8, o8, h8, c8⟩ := S3.out.int (show 0 < 64 by omega)
    simp only [Option.some.injEq, Addr.mk.injEq, and_true] at h8
    rw [h8.1]
    exact World.block_lt_of_cell? _ _ c8
   have S5 := S4.grown g5 (fun z hz => by cases hz; simp; omega)
   obtain ⟨O, hOe⟩ : ∃ O, O = wr.heap.size := ⟨_, rfl⟩
   rw [← hOe] at i5 g5 hO ⊢
   have HOe := Lib.hid hOe
   clear hOe ia R4 R3 g5 S3 S4
   refine Lib.hid ?_
   go_wp2_with fail
   refine (partAt_any k _ hlt).mono ?_
   rintro e w6 ⟨rfl, rfl⟩
   have ib := IB.new w5 29 (List.replicate 16 0)
   have R6 := R5.ex (Ext.alloc w5 (.cells (ic (List.replicate 16 0)) 29))
   have i6 := i5.alloc (.cells (ic (List.replicate 16 0)) 29)
   have hO2 := i5.lt
   have S6 := S5.ext (Ext.alloc w5 (.cells (ic (List.replicate 16 0)) 29))
   obtain ⟨O2, hO2e⟩ : ∃ O, O = w5.heap.size := ⟨_, rfl⟩
   rw [← hO2e] at ib hO2
   have HO2 := Lib.hid hO2e
   have hb0 := R6.b0
   have hgB := R6.gB
   obtain ⟨E, hE⟩ : ∃ E, E = edg ⟨W, H, Z⟩ (xi : Int) (yj : Int) top := ⟨_, rfl⟩
   clear hE
   obtain ⟨PR, hPR⟩ : ∃ P, P = pof (blkL ref x y m.x m.y) (k % 2 * 4) (k / 2 * 4) := ⟨_, rfl⟩
   rw [← hPR] at HPK
   rw [HPK.out] at Hst
   have HPR := Lib.hid hPR
   clear hPR
   have hPl : PR.length = 16 := by rw [HPR.out, pof_len]
   have HPl := Lib.hid hPl
   have hPb : bdA 1099511627776 PR := by rw [HPR.out]; exact smp_bd (pof_smp (blkL_smp Hrv.out _ _ _ _) (blkL_len _ _ _ _ _) (by omega) (by omega))
   have HPb := Lib.hid hPb
   clear hPl hPb
   go_wp2_with fail
   rw [← hO2e]
   clear hO2e
   refine (partOf_any (blkL ref x y m.x m.y) (k % 2 * 4) (k / 2 * 4) (by omega) (by omega) (some ⟨g2, 0, none⟩) c2 _ S6).mono ?_
   rintro e w7 ⟨rfl, e7⟩
   rw [← HPR.out]
   have R7 := R6.ex e7
   have i7 := i6.ext e7
   have ib7 := ib.ext e7
   have S7 := S6.ext e7
   have hg2l : g2 < w5.heap.size := by
    obtain ⟨b8, o8, h8, c8⟩ := S5.int (show 0 < 64 by omega)
    simp only [Option.some.injEq, Addr.mk.injEq, and_true] at h8
    rw [h8.1]
    exact World.block_lt_of_cell? _ _ c8
   rw [← HO2.out] at hg2l
   clear R5 i5 R6 i6 ib S5 S6 e7
   go_wp2_with (refine wpList_istore 29 _ _ rfl rfl ib7 0 16 rfl _ rfl PR rfl size_A16 HPl.out (by simp) ?_; intro w8 pM g8; refine Hid.out ?_)
   rw [spl_all (by rw [HPl.out]; simp)] at pM
   have RM := R7.loc g8 (by omega) hwB
   have bM := i7.gr g8 (lv2' (by omega))
   have SM := S7.grown g8 (fun z hz => by cases hz; simp; omega)
   clear R7 i7 ib7 S7 g8
   refine Lib.hid ?_
   go_wp2_with fail
   obtain ⟨D, hD⟩ : ∃ D, D = dec bk q := ⟨_, rfl⟩
   rw [← hD] at Hst
   have HD := Lib.hid hD
   have HDl := Lib.hid (show D.length = 16 by rw [hD, dec_len])
   have HDb := Lib.hid (show bdA 1099511627776 D by rw [hD]; exact dec_bd _ _)
   clear hD
   refine wp_region_invL (by kernel_rfl) [(66, 0), (67, 1), (68, 2), (69, 3), (70, 4), (71, 5), (72, 6), (73, 7), (74, 8), (75, 9), (76, 10), (77, 11)] [[], [], [], [1, 2], [], [], [4, 5], [], [], [], [8, 9], [0, 1, 2, 3, 4, 5, 6, 7, 8, 9, 10]] (fun i own ys wx => match i with | 0 => own = .agg #[.int .i64 W, .int .i64 H, .slice (some ⟨g, 0, none⟩) n c] | 1 => own = .int .i64 (x : Nat) | 2 => own = .int .i64 ((k : Int) % 2 * 4) | 3 => own = .int .i64 (xi : Nat) | 4 => own = .int .i64 (y : Nat) | 5 => own = .int .i64 ((k : Int) / 2 * 4) | 6 => own = .int .i64 (yj : Nat) | 7 => own = .agg (ic PR) | 8 => own = .agg (ic bk) | 9 => own = .int .i64 (q : Nat) | 10 => own = .agg (ic D) | 11 => True | _ => True) (fun Lx wx => RG w base g n c ra rn rc W H ref m B (if Lx 11 = true then Z1 else Z) wx ∧ IB wx O 29 bk ∧ IB wx O2 29 PR ∧ Sl wx (some ⟨g2, 0, none⟩) 64 ((blkL ref x y m.x m.y).map (Value.int .i64))) (by kernel_rfl) (by kernel_rfl) (by kernel_rfl) ?g0_r3 ?gop_r3 ?gend_r3
   case g0_r3 => exact ⟨RM.drew, bM.drewN 1, pM.drewN 1, SM.drewN 1⟩
   case gop_r3 =>
    refine ⟨?o0, ?_, ?_, ?o3, ?_, ?_, ?o6, ?o7, ?o8, ?_, ?o10, ?o11, trivial⟩ <;> (intro Lx xs wx hG hl ha hb hD hI Qo Kx hK hQo; simp only [patchS, Nat.reduceAdd, Nat.reduceEqDiff, ↓reduceIte] at hQo ⊢)
    case o0 =>
     have l11 : Lx 11 = false := hb 11 rfl
     clear hl ha hb hD hI
     obtain ⟨-, k0, k1, k2, -⟩ := bx3 hG.1.b0
     go_wp2
     exact hK.out _ _ ⟨rfl, hG, fun _ _ _ _ _ _ h => h⟩
    case o3 =>
     have l11 : Lx 11 = false := hb 11 rfl
     clear hl ha hb
     have d1 : _ = _ := hD 1 rfl
     have d2 : _ = _ := hD 2 rfl
     clear hD hI
     generalize xs 1 = y1 at *
     generalize xs 2 = y2 at *
     subst d1 d2
     go_wp2
     exact hK.out _ _ ⟨by rw [← Hxi.out], hG, fun _ _ _ _ _ _ h => h⟩
    case o6 =>
     have l11 : Lx 11 = false := hb 11 rfl
     clear hl ha hb
     have d4 : _ = _ := hD 4 rfl
     have d5 : _ = _ := hD 5 rfl
     clear hD hI
     generalize xs 4 = y4 at *
     generalize xs 5 = y5 at *
     subst d4 d5
     go_wp2
     exact hK.out _ _ ⟨by rw [← Hyj.out], hG, fun _ _ _ _ _ _ h => h⟩
    case o7 =>
     have l11 : Lx 11 = false := hb 11 rfl
     clear hl ha hb hD hI
     go_wp2_with (refine wpList_iload 29 _ rfl rfl hG.2.2.1 0 16 rfl _ Tryz.underlying29 rfl size_A16 (by rw [HPl.out]; omega) _ (by rw [sub_all _ _ HPl.out]) ?_)
     exact hK.out _ _ ⟨rfl, hG, fun _ _ _ _ _ _ h => h⟩
    case o8 =>
     have l11 : Lx 11 = false := hb 11 rfl
     clear hl ha hb hD hI
     go_wp2_with (refine wpList_iload 29 _ rfl rfl hG.2.1 0 16 rfl _ Tryz.underlying29 rfl size_A16 (by rw [HB16.out]; omega) _ (by rw [sub_all _ _ HB16.out]) ?_)
     exact hK.out _ _ ⟨rfl, hG, fun _ _ _ _ _ _ h => h⟩
    case o10 =>
     have l11 : Lx 11 = false := hb 11 rfl
     clear hl ha hb
     have d8 : _ = _ := hD 8 rfl
     have d9 : _ = _ := hD 9 rfl
     clear hD hI
     generalize xs 8 = y8 at *
     generalize xs 9 = y9 at *
     subst d8 d9
     have hTx := tabq_gr HT.out hG.1.gr hgT
     go_wp2_with fail
     refine (DecodeBlock_any bk q _ hTx HB16.out HBv.out hq).mono ?_
     rintro e w9 ⟨rfl, e9⟩
     rw [← HD.out]
     go_wp2
     exact hK.out _ _ ⟨rfl, ⟨hG.1.ex e9, hG.2.1.ext e9, hG.2.2.1.ext e9, hG.2.2.2.ext e9⟩, fun _ _ _ _ _ _ h => h⟩
    case o11 =>
     have l11 : Lx 11 = false := hl
     clear hl ha hb
     have d0 : _ = _ := hD 0 rfl
     have d3 : _ = _ := hD 3 rfl
     have d6 : _ = _ := hD 6 rfl
     have d7 : _ = _ := hD 7 rfl
     have d10 : _ = _ := hD 10 rfl
     clear hD hI
     generalize xs 0 = y0 at *
     generalize xs 3 = y3 at *
     generalize xs 6 = y6 at *
     generalize xs 7 = y7 at *
     generalize xs 10 = y10 at *
     subst d0 d3 d6 d7 d10
     rw [l11, ifF] at hG
     go_wp2_with fail
     refine (put_any W H xi yj base g n c Z PR D _ HPl.out HDl.out HPb.out HDb.out hW32 (by omega) (by omega) hI (by omega) hG.1.own).mono ?_
     rintro e w9 ⟨rfl, o9, g9⟩
     go_wp2
     rw [← Hst.out] at o9
     exact hK.out _ _ ⟨trivial, ⟨hG.1.put g9 o9, hG.2.1.gr g9 (lv2 (by omega)), hG.2.2.1.gr g9 (lv2 (by omega)), hG.2.2.2.grown g9 (fun z hz => by cases hz; simpa using hg2)⟩, fun _ _ _ _ _ _ h => h⟩
    all_goals
     have l11 : Lx 11 = false := hb 11 rfl
     clear hl ha hb hD hI
     go_wp2
     exact hK.out _ _ ⟨rfl, hG, fun _ _ _ _ _ _ h => h⟩
   intro xs wx hV hG0
   obtain ⟨Lx, hL, hG⟩ := hG0
   have l11 : Lx 11 = true := hL 11 (by decide)
   clear hL hV
   simp only [patchS, Nat.reduceAdd, Nat.reduceEqDiff, ↓reduceIte]
   generalize xs 0 = y0 at *
   generalize xs 1 = y1 at *
   generalize xs 2 = y2 at *
   generalize xs 3 = y3 at *
   generalize xs 4 = y4 at *
   generalize xs 5 = y5 at *
   generalize xs 6 = y6 at *
   generalize xs 7 = y7 at *
   generalize xs 8 = y8 at *
   generalize xs 9 = y9 at *
   generalize xs 10 = y10 at *
   generalize xs 11 = y11 at *
   replace hG : RG w base g n c ra rn rc W H ref m B (if Lx 11 = true then Z1 else Z) wx ∧ IB wx O 29 bk ∧ IB wx O2 29 PR ∧ Sl wx (some ⟨g2, 0, none⟩) 64 ((blkL ref x y m.x m.y).map (Value.int .i64)) := hG
   rw [l11, ifT] at hG
   clear RM bM pM SM
   have HG := Lib.hid hG
   clear hG
   go_wp2
   go_roundw
   case rel => exact ⟨k + 1, by omega, by go_num, by rw [← HZ1.out]; exact HG.out.1, Lib.hid HG.out.2.2.2⟩
   case measure => simp [intOf]; omega
  ·obtain rfl : k = 4 := by omega
   have HR := Lib.hid R3
   clear R3
   go_wp2
   go_end0
   exact ⟨rfl, HR.out.own, HR.out.gr⟩
set_option maxRecDepth 100000 in
set_option maxHeartbeats 4000000 in
theorem rebuild_P (ref : Pic) (W H x y : Nat) (px : List Int) (m : Mac) (q : Nat) (top : Int) (ra : Option Addr) (rn rc base g n c : Nat) (w : World) (hT : TabQ w) (hbT : 0 < base) (own : w.ownsRow base 3 1 (.slice (some ⟨g, 0, none⟩) n c) n (px.map (Value.int .i64)))
 (hp : placeP ⟨W, H, px⟩ x y) (hm : m.ok) (hv : m.valid) (hq : q < 16) (hk : m.kind = 1) (hrv : ref.valid) (hrn : rn = ref.px.length) (hr : Sl w ra rn (ref.px.map (Value.int .i64))) (hrg : ∀ z, ra = some z → z.block ≠ g) :
 Calls Tryz.prog 46 #[.agg #[.int .i64 W, .int .i64 H, .slice (some ⟨g, 0, none⟩) n c], .agg #[.int .i64 ref.w, .int .i64 ref.h, .slice ra rn rc], .int .i64 (x : Nat), .int .i64 (y : Nat), .agg (ic m.zs), .int .i64 q, .int .i64 top] w fun e w' => e = .returned (.tuple #[]) ∧ w'.ownsRow base 3 1 (.slice (some ⟨g, 0, none⟩) n c) n ((bldS ref ⟨W, H, px⟩ x y m q top 4).map (Value.int .i64)) ∧ w.grownBy w' (some g) := by
 obtain ⟨hpv, hx0, hx1, hx8, hy0, hy1, hy8⟩ := hp
 have hxx : x + 8 ≤ W := by have h1 := hpv.1.2.2; simp only at hx1 h1; omega
 have hyy : y + 8 ≤ H := by have h1 := hpv.2.1.2.2; simp only at hy1 h1; omega
 have hW32 : W ≤ 32 := by have := hpv.1.2.1; simp only at this; omega
 have hH32 : H ≤ 32 := by have := hpv.2.1.2.1; simp only at this; omega
 have hpl : n = px.length := by have := own.1; simpa using this.symm
 have hnW : n = W * H := by
  have h1 := hpv.2.2.1
  simp only [← Int.natCast_mul] at h1
  rw [hpl]; exact Int.ofNat.inj h1
 have hn1k : n ≤ 1024 := by rw [hnW]; exact Nat.mul_le_mul hW32 hH32
 have inn : ∀ u v : Nat, u + 4 ≤ H → v + 4 ≤ W → (u + 3) * W + v + 3 < n := fun u v h1 h2 => by
  have h3 := Nat.mul_le_mul_right W (show u + 4 ≤ H by omega)
  rw [Nat.add_mul, Nat.mul_comm H W, ← hnW] at h3
  rw [Nat.add_mul]
  omega
 have Inn := Lib.hid inn
 have HV := Lib.hid (fun k => bldS_valid hpv ref x y m q top k)
 have HL := Lib.hid (fun k => show n = (bldS ref ⟨W, H, px⟩ x y m q top k).length by rw [bldS_len, hpl])
 have Hmv := Lib.hid hv
 have Hm := Lib.hid hm
 have Hl := Lib.hid (Mac.zs_len hm)
 have HK := Lib.hid hk
 have hbg : base ≤ g := (own.lt g rfl).1
 have hgT : 0 ≠ g := by omega
 have hgw : g < w.heap.size := (own.lt g rfl).2
 have R0 : RG w base g n c ra rn rc W H ref m w.heap.size px (((w.alloc (.cells #[.int .i64 W, .int .i64 H, .slice (some ⟨g, 0, none⟩) n c] 25)).alloc (.cells #[.int .i64 ref.w, .int .i64 ref.h, .slice ra rn rc] 25)).alloc (.cells (ic m.zs) 32)) := by
  have a1 := Ext.alloc w (.cells #[.int .i64 W, .int .i64 H, .slice (some ⟨g, 0, none⟩) n c] 25)
  have a2 := Ext.alloc (w.alloc (.cells #[.int .i64 W, .int .i64 H, .slice (some ⟨g, 0, none⟩) n c] 25)) (.cells #[.int .i64 ref.w, .int .i64 ref.h, .slice ra rn rc] 25)
  have a3 := Ext.alloc ((w.alloc (.cells #[.int .i64 W, .int .i64 H, .slice (some ⟨g, 0, none⟩) n c] 25)).alloc (.cells #[.int .i64 ref.w, .int .i64 ref.h, .slice ra rn rc] 25)) (.cells (ic m.zs) 32)
  have q1 := a3.blk (blk_new (w.alloc (.cells #[.int .i64 W, .int .i64 H, .slice (some ⟨g, 0, none⟩) n c] 25)) (.cells #[.int .i64 ref.w, .int .i64 ref.h, .slice ra rn rc] 25))
  have q2 := IB.new ((w.alloc (.cells #[.int .i64 W, .int .i64 H, .slice (some ⟨g, 0, none⟩) n c] 25)).alloc (.cells #[.int .i64 ref.w, .int .i64 ref.h, .slice ra rn rc] 25)) 32 m.zs
  simp only [World.size_alloc] at q1 q2
  exact ⟨grown_ext (grown_refl _ _) ((a1.trans a2).trans a3), owns_ext own ((a1.trans a2).trans a3), a3.blk (a2.blk (blk_new _ _)), q1, q2, hgw⟩
 have HT := Lib.hid hT
 have ta1 := ta_1_0
 have ta2 := ta_1_1
 have hnil := fun (w : World) (a : Option Addr) (n c : Nat) => Lib.run_eql_slice_nil (P := Tryz.prog) w 23 3 a n c 0 0 Tryz.underlying23
 have r2 := R0.b2
 clear hpv hpl hnW inn hv hm hk own hx8 hy8 hT
 have Hrv := Lib.hid hrv
 have Hrn := Lib.hid hrn
 have Hrg := Lib.hid hrg
 clear hrv hrn hrg hx0 hy0 hx1 hy1
 go_enter Tryz.func46, Tryz.ntmps46
 go_wp2_with (refine wpList_iload 32 _ rfl rfl r2 0 71 rfl _ Tryz.underlying32 rfl size_Macro (by rw [Hl.out]; omega) _ (by rw [sub_all _ _ Hl.out]) ?_)
 try simp only [World.size_alloc]
 obtain ⟨B, hB⟩ : ∃ B, B = w.heap.size := ⟨_, rfl⟩
 rw [← hB] at R0 r2 ⊢
 have hwB : w.heap.size ≤ B := by omega
 have HB := Lib.hid hB
 clear hB r2
 refine (impl_kindOf_1 m _ Hm.out HK.out).mono ?_
 rintro e w1 ⟨rfl, e1⟩
 have R1 := R0.ex e1
 clear R0 e1
 have r2 := R1.b2
 obtain ⟨-, k0, k1, k2, -⟩ := bx3 R1.b1
 have hrs : Sl w1 ra rn (ref.px.map (Value.int .i64)) := hr.grown R1.gr (fun z hz => by have := Hrg.out z hz; simp; omega)
 have hvv := Hmv.out.2.1
 go_wp2_with (refine wpList_iload 27 _ rfl rfl r2 1 2 rfl _ Tryz.underlying27 rfl size_Vector (by rw [Hl.out]; omega) _ Mac.zs_mv ?_)
 refine (moved_any ref x y m.x m.y ra rc rn _ Hrv.out Hrn.out hrs (by omega) (by omega) (by omega) (by omega) hvv.1 hvv.2.1 hvv.2.2.1 hvv.2.2.2).mono ?_
 rintro e w2 ⟨a2, c2, rfl, o2, e2⟩
 have R2 := R1.ex e2
 have hs1 := R1.gr.size
 have ha2 : ∃ g2, a2 = some ⟨g2, 0, none⟩ ∧ g2 ≠ g := by
  rcases o2.2 with ⟨-, h0⟩ | ⟨g2, cc, cur, hv2, hb2, -⟩
  ·omega
  ·simp only [Value.slice.injEq] at hv2
   exact ⟨g2, hv2.1, by omega⟩
 obtain ⟨g2, rfl, hg2⟩ := ha2
 have s2 := Sl.of_owns o2
 have Hb := Lib.hid (blkL_len ref x y m.x m.y)
 clear k0 k1 k2 r2 R1 e2 o2 hrs hr hvv
 have r2 := R2.b2
 go_wp2_with (refine wpList_iload 30 _ rfl rfl r2 7 64 rfl _ Tryz.underlying30 rfl size_A16A4 (by rw [Hl.out]; omega) _ (by rw [Mac.zs_lv Hm.out]) ?_)
 clear r2
 go_loopw [37] (fun i wr => ∃ k : Nat, k ≤ 4 ∧ i = .int .i64 k ∧ RG w base g n c ra rn rc W H ref m B (bldS ref ⟨W, H, px⟩ x y m q top k) wr ∧ Hid (Sl wr (some ⟨g2, 0, none⟩) 64 ((blkL ref x y m.x m.y).map (Value.int .i64)))) (fun i _ => 4 - (intOf i).toNat)
 case atStart => exact ⟨0, by omega, rfl, R2, Lib.hid s2⟩
 case round =>
  obtain ⟨k, hk, rfl, R3, S3⟩ := hrel
  clear R2 s2
  by_cases hlt : k < 4
  ·have hd : decide ((k : Int) < 4) = true := by simp; omega
   have hZv := HV.out k
   have hZn := HL.out k
   have Hst := Lib.hid (bld_step ref W H px x y m q top k)
   obtain ⟨Z, hZ⟩ : ∃ Z, Z = bldS ref ⟨W, H, px⟩ x y m q top k := ⟨_, rfl⟩
   obtain ⟨Z1, hZ1⟩ : ∃ Z, Z = bldS ref ⟨W, H, px⟩ x y m q top (k + 1) := ⟨_, rfl⟩
   rw [← hZ] at R3 hZv hZn Hst
   rw [← hZ1] at Hst
   have HZ1 := Lib.hid hZ1
   have HZv := Lib.hid hZv
   have HZn := Lib.hid hZn
   obtain ⟨xi, hxi⟩ : ∃ v, v = x + k % 2 * 4 := ⟨_, rfl⟩
   obtain ⟨yj, hyj⟩ : ∃ v, v = y + k / 2 * 4 := ⟨_, rfl⟩
   have HPK := Lib.hid (show prK ref W H Z x y m top k = pof (blkL ref x y m.x m.y) (k % 2 * 4) (k / 2 * 4) from if_neg (by rw [HK.out]; decide))
   rw [← hxi, ← hyj] at Hst
   have hxi4 : xi + 4 ≤ W := by omega
   have hyj4 : yj + 4 ≤ H := by omega
   have Hxi := Lib.hid (show (x : Int) + (k : Int) % 2 * 4 = ((xi : Nat) : Int) by omega)
   have Hyj := Lib.hid (show (y : Int) + (k : Int) / 2 * 4 = ((yj : Nat) : Int) by omega)
   have hI := Inn.out yj xi hyj4 hxi4
   have hB16 := sub16 Hm.out.lv hlt
   have hBv := lv_blk Hm.out Hmv.out hlt
   obtain ⟨bk, hbk⟩ : ∃ b, b = sub m.lv (k * 16) 16 := ⟨_, rfl⟩
   have Hbk := Lib.hid hbk
   rw [← hbk] at hB16 hBv Hst
   have HB16 := Lib.hid hB16
   have HBv := Lib.hid hBv
   clear hZ hZ1 hxi hyj hbk hB16 hBv hZv hZn
   -- the block's levels are laid
   have ia := IB.new wr 29 (List.replicate 16 0)
   have R4 := R3.ex (Ext.alloc wr (.cells (ic (List.replicate 16 0)) 29))
   have hO := lt_of_block R3.b2
   have S4 := S3.out.ext (Ext.alloc wr (.cells (ic (List.replicate 16 0)) 29))
   go_wp2_with (first | (refine wpList_iindexa _ _ _ rfl rfl m.lv rfl k 4 16 _ rfl rfl _ _ Tryz.underlying30 Tryz.underlying29 rfl size_A16 hlt ?_) | (refine wpList_istore 29 _ _ rfl rfl ia 0 16 rfl _ rfl bk (by rw [Hbk.out]) size_A16 HB16.out (by simp) ?_; intro w5 i5 g5; refine Hid.out ?_))
   rw [spl_all (by rw [HB16.out]; simp)] at i5
   have R5 := R4.loc g5 hO hwB
   have hg2r : g2 < wr.heap.size := by
    obtain ⟨b8, o8, h8, c8⟩ := S3.out.int (show 0 < 64 by omega)
    simp only [Option.some.injEq, Addr.mk.injEq, and_true] at h8
    rw [h8.1]
    exact World.block_lt_of_cell? _ _ c8
   have S5 := S4.grown g5 (fun z hz => by cases hz; simp; omega)
   obtain ⟨O, hOe⟩ : ∃ O, O = wr.heap.size := ⟨_, rfl⟩
   rw [← hOe] at i5 g5 hO ⊢
   have HOe := Lib.hid hOe
   clear hOe ia R4 R3 g5 S3 S4
   refine Lib.hid ?_
   go_wp2_with fail
   refine (partAt_any k _ hlt).mono ?_
   rintro e w6 ⟨rfl, rfl⟩
   have ib := IB.new w5 29 (List.replicate 16 0)
   have R6 := R5.ex (Ext.alloc w5 (.cells (ic (List.replicate 16 0)) 29))
   have i6 := i5.alloc (.cells (ic (List.replicate 16 0)) 29)
   have hO2 := i5.lt
   have S6 := S5.ext (Ext.alloc w5 (.cells (ic (List.replicate 16 0)) 29))
   obtain ⟨O2, hO2e⟩ : ∃ O, O = w5.heap.size := ⟨_, rfl⟩
   rw [← hO2e] at ib hO2
   have HO2 := Lib.hid hO2e
   have hb0 := R6.b0
   have hgB := R6.gB
   obtain ⟨E, hE⟩ : ∃ E, E = edg ⟨W, H, Z⟩ (xi : Int) (yj : Int) top := ⟨_, rfl⟩
   clear hE
   obtain ⟨PR, hPR⟩ : ∃ P, P = pof (blkL ref x y m.x m.y) (k % 2 * 4) (k / 2 * 4) := ⟨_, rfl⟩
   rw [← hPR] at HPK
   rw [HPK.out] at Hst
   have HPR := Lib.hid hPR
   clear hPR
   have hPl : PR.length = 16 := by rw [HPR.out, pof_len]
   have HPl := Lib.hid hPl
   have hPb : bdA 1099511627776 PR := by rw [HPR.out]; exact smp_bd (pof_smp (blkL_smp Hrv.out _ _ _ _) (blkL_len _ _ _ _ _) (by omega) (by omega))
   have HPb := Lib.hid hPb
   clear hPl hPb
   go_wp2_with fail
   rw [← hO2e]
   clear hO2e
   refine (partOf_any (blkL ref x y m.x m.y) (k % 2 * 4) (k / 2 * 4) (by omega) (by omega) (some ⟨g2, 0, none⟩) c2 _ S6).mono ?_
   rintro e w7 ⟨rfl, e7⟩
   rw [← HPR.out]
   have R7 := R6.ex e7
   have i7 := i6.ext e7
   have ib7 := ib.ext e7
   have S7 := S6.ext e7
   have hg2l : g2 < w5.heap.size := by
    obtain ⟨b8, o8, h8, c8⟩ := S5.int (show 0 < 64 by omega)
    simp only [Option.some.injEq, Addr.mk.injEq, and_true] at h8
    rw [h8.1]
    exact World.block_lt_of_cell? _ _ c8
   rw [← HO2.out] at hg2l
   clear R5 i5 R6 i6 ib S5 S6 e7
   go_wp2_with (refine wpList_istore 29 _ _ rfl rfl ib7 0 16 rfl _ rfl PR rfl size_A16 HPl.out (by simp) ?_; intro w8 pM g8; refine Hid.out ?_)
   rw [spl_all (by rw [HPl.out]; simp)] at pM
   have RM := R7.loc g8 (by omega) hwB
   have bM := i7.gr g8 (lv2' (by omega))
   have SM := S7.grown g8 (fun z hz => by cases hz; simp; omega)
   clear R7 i7 ib7 S7 g8
   refine Lib.hid ?_
   go_wp2_with fail
   obtain ⟨D, hD⟩ : ∃ D, D = dec bk q := ⟨_, rfl⟩
   rw [← hD] at Hst
   have HD := Lib.hid hD
   have HDl := Lib.hid (show D.length = 16 by rw [hD, dec_len])
   have HDb := Lib.hid (show bdA 1099511627776 D by rw [hD]; exact dec_bd _ _)
   clear hD
   refine wp_region_invL (by kernel_rfl) [(66, 0), (67, 1), (68, 2), (69, 3), (70, 4), (71, 5), (72, 6), (73, 7), (74, 8), (75, 9), (76, 10), (77, 11)] [[], [], [], [1, 2], [], [], [4, 5], [], [], [], [8, 9], [0, 1, 2, 3, 4, 5, 6, 7, 8, 9, 10]] (fun i own ys wx => match i with | 0 => own = .agg #[.int .i64 W, .int .i64 H, .slice (some ⟨g, 0, none⟩) n c] | 1 => own = .int .i64 (x : Nat) | 2 => own = .int .i64 ((k : Int) % 2 * 4) | 3 => own = .int .i64 (xi : Nat) | 4 => own = .int .i64 (y : Nat) | 5 => own = .int .i64 ((k : Int) / 2 * 4) | 6 => own = .int .i64 (yj : Nat) | 7 => own = .agg (ic PR) | 8 => own = .agg (ic bk) | 9 => own = .int .i64 (q : Nat) | 10 => own = .agg (ic D) | 11 => True | _ => True) (fun Lx wx => RG w base g n c ra rn rc W H ref m B (if Lx 11 = true then Z1 else Z) wx ∧ IB wx O 29 bk ∧ IB wx O2 29 PR ∧ Sl wx (some ⟨g2, 0, none⟩) 64 ((blkL ref x y m.x m.y).map (Value.int .i64))) (by kernel_rfl) (by kernel_rfl) (by kernel_rfl) ?g0_r4 ?gop_r4 ?gend_r4
   case g0_r4 => exact ⟨RM.drew, bM.drewN 1, pM.drewN 1, SM.drewN 1⟩
   case gop_r4 =>
    refine ⟨?o0, ?_, ?_, ?o3, ?_, ?_, ?o6, ?o7, ?o8, ?_, ?o10, ?o11, trivial⟩ <;> (intro Lx xs wx hG hl ha hb hD hI Qo Kx hK hQo; simp only [patchS, Nat.reduceAdd, Nat.reduceEqDiff, ↓reduceIte] at hQo ⊢)
    case o0 =>
     have l11 : Lx 11 = false := hb 11 rfl
     clear hl ha hb hD hI
     obtain ⟨-, k0, k1, k2, -⟩ := bx3 hG.1.b0
     go_wp2
     exact hK.out _ _ ⟨rfl, hG, fun _ _ _ _ _ _ h => h⟩
    case o3 =>
     have l11 : Lx 11 = false := hb 11 rfl
     clear hl ha hb
     have d1 : _ = _ := hD 1 rfl
     have d2 : _ = _ := hD 2 rfl
     clear hD hI
     generalize xs 1 = y1 at *
     generalize xs 2 = y2 at *
     subst d1 d2
     go_wp2
     exact hK.out _ _ ⟨by rw [← Hxi.out], hG, fun _ _ _ _ _ _ h => h⟩
    case o6 =>
     have l11 : Lx 11 = false := hb 11 rfl
     clear hl ha hb
     have d4 : _ = _ := hD 4 rfl
     have d5 : _ = _ := hD 5 rfl
     clear hD hI
     generalize xs 4 = y4 at *
     generalize xs 5 = y5 at *
     subst d4 d5
     go_wp2
     exact hK.out _ _ ⟨by rw [← Hyj.out], hG, fun _ _ _ _ _ _ h => h⟩
    case o7 =>
     have l11 : Lx 11 = false := hb 11 rfl
     clear hl ha hb hD hI
     go_wp2_with (refine wpList_iload 29 _ rfl rfl hG.2.2.1 0 16 rfl _ Tryz.underlying29 rfl size_A16 (by rw [HPl.out]; omega) _ (by rw [sub_all _ _ HPl.out]) ?_)
     exact hK.out _ _ ⟨rfl, hG, fun _ _ _ _ _ _ h => h⟩
    case o8 =>
     have l11 : Lx 11 = false := hb 11 rfl
     clear hl ha hb hD hI
     go_wp2_with (refine wpList_iload 29 _ rfl rfl hG.2.1 0 16 rfl _ Tryz.underlying29 rfl size_A16 (by rw [HB16.out]; omega) _ (by rw [sub_all _ _ HB16.out]) ?_)
     exact hK.out _ _ ⟨rfl, hG, fun _ _ _ _ _ _ h => h⟩
    case o10 =>
     have l11 : Lx 11 = false := hb 11 rfl
     clear hl ha hb
     have d8 : _ = _ := hD 8 rfl
     have d9 : _ = _ := hD 9 rfl
     clear hD hI
     generalize xs 8 = y8 at *
     generalize xs 9 = y9 at *
     subst d8 d9
     have hTx := tabq_gr HT.out hG.1.gr hgT
     go_wp2_with fail
     refine (DecodeBlock_any bk q _ hTx HB16.out HBv.out hq).mono ?_
     rintro e w9 ⟨rfl, e9⟩
     rw [← HD.out]
     go_wp2
     exact hK.out _ _ ⟨rfl, ⟨hG.1.ex e9, hG.2.1.ext e9, hG.2.2.1.ext e9, hG.2.2.2.ext e9⟩, fun _ _ _ _ _ _ h => h⟩
    case o11 =>
     have l11 : Lx 11 = false := hl
     clear hl ha hb
     have d0 : _ = _ := hD 0 rfl
     have d3 : _ = _ := hD 3 rfl
     have d6 : _ = _ := hD 6 rfl
     have d7 : _ = _ := hD 7 rfl
     have d10 : _ = _ := hD 10 rfl
     clear hD hI
     generalize xs 0 = y0 at *
     generalize xs 3 = y3 at *
     generalize xs 6 = y6 at *
     generalize xs 7 = y7 at *
     generalize xs 10 = y10 at *
     subst d0 d3 d6 d7 d10
     rw [l11, ifF] at hG
     go_wp2_with fail
     refine (put_any W H xi yj base g n c Z PR D _ HPl.out HDl.out HPb.out HDb.out hW32 (by omega) (by omega) hI (by omega) hG.1.own).mono ?_
     rintro e w9 ⟨rfl, o9, g9⟩
     go_wp2
     rw [← Hst.out] at o9
     exact hK.out _ _ ⟨trivial, ⟨hG.1.put g9 o9, hG.2.1.gr g9 (lv2 (by omega)), hG.2.2.1.gr g9 (lv2 (by omega)), hG.2.2.2.grown g9 (fun z hz => by cases hz; simpa using hg2)⟩, fun _ _ _ _ _ _ h => h⟩
    all_goals
     have l11 : Lx 11 = false := hb 11 rfl
     clear hl ha hb hD hI
     go_wp2
     exact hK.out _ _ ⟨rfl, hG, fun _ _ _ _ _ _ h => h⟩
   intro xs wx hV hG0
   obtain ⟨Lx, hL, hG⟩ := hG0
   have l11 : Lx 11 = true := hL 11 (by decide)
   clear hL hV
   simp only [patchS, Nat.reduceAdd, Nat.reduceEqDiff, ↓reduceIte]
   generalize xs 0 = y0 at *
   generalize xs 1 = y1 at *
   generalize xs 2 = y2 at *
   generalize xs 3 = y3 at *
   generalize xs 4 = y4 at *
   generalize xs 5 = y5 at *
   generalize xs 6 = y6 at *
   generalize xs 7 = y7 at *
   generalize xs 8 = y8 at *
   generalize xs 9 = y9 at *
   generalize xs 10 = y10 at *
   generalize xs 11 = y11 at *
   replace hG : RG w base g n c ra rn rc W H ref m B (if Lx 11 = true then Z1 else Z) wx ∧ IB wx O 29 bk ∧ IB wx O2 29 PR ∧ Sl wx (some ⟨g2, 0, none⟩) 64 ((blkL ref x y m.x m.y).map (Value.int .i64)) := hG
   rw [l11, ifT] at hG
   clear RM bM pM SM
   have HG := Lib.hid hG
   clear hG
   go_wp2
   go_roundw
   case rel => exact ⟨k + 1, by omega, by go_num, by rw [← HZ1.out]; exact HG.out.1, Lib.hid HG.out.2.2.2⟩
   case measure => simp [intOf]; omega
  ·obtain rfl : k = 4 := by omega
   have HR := Lib.hid R3
   clear R3
   go_wp2
   go_end0
   exact ⟨rfl, HR.out.own, HR.out.gr⟩
end Go.Proofs.YtbnhaegidfbgbaaGreatDoor
