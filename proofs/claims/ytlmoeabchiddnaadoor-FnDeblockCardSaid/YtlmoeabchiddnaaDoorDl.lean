/- The reference's deblocking. -/
import Derived.Test.YtlmoeabchiddnaaDoorDf
import Derived.Test.YtlmoeabchiddnaaDoorPf
namespace Go.Proofs.YtlmoeabchiddnaaDoor
open Go.RowKit
set_option maxHeartbeats 1000000
/-- The worlds of a picture at work: the argument's box B, the result's B + 1, the variable's O, the samples' row in block g. -/
structure DB (w : World) (B O g W H n c0 c : Nat) (a : Option Addr) (Z : List Int) (wx : World) : Prop where
  ext : Ext w wx
  box : wx.heap[B]? = some (.cells #[.int .i64 W, .int .i64 H, .slice a n c0] 46 (0, 0))
  res : wx.heap[B + 1]? = some (.cells #[.int .i64 0, .int .i64 0, .slice none 0 0] 46 (0, 0))
  out : wx.heap[O]? = some (.cells #[.int .i64 W, .int .i64 H, .slice (some ⟨g, 0, none⟩) n c] 46 (0, 0))
  own : wx.ownsRow (B + 2) 3 1 (.slice (some ⟨g, 0, none⟩) n c) n (Z.map (Value.int .i64))
  gO : g < O
  wB : w.heap.size ≤ B
theorem DB.gB {w wx : World} {B O g W H n c0 c : Nat} {a : Option Addr} {Z : List Int} (h : DB w B O g W H n c0 c a Z wx) : B + 2 ≤ g := (h.own.lt g rfl).1
theorem DB.len {w wx : World} {B O g W H n c0 c : Nat} {a : Option Addr} {Z : List Int} (h : DB w B O g W H n c0 c a Z wx) : Z.length = n := by have := h.own.1; simpa using this
theorem DB.ex {w wx wy : World} {B O g W H n c0 c : Nat} {a : Option Addr} {Z : List Int} (h : DB w B O g W H n c0 c a Z wx) (e : Ext wx wy) : DB w B O g W H n c0 c a Z wy :=
  ⟨h.ext.trans e, e.blk h.box, e.blk h.res, e.blk h.out, owns_ext h.own e, h.gO, h.wB⟩
theorem DB.drew {w wx : World} {B O g W H n c0 c : Nat} {a : Option Addr} {Z : List Int} (h : DB w B O g W H n c0 c a Z wx) : DB w B O g W H n c0 c a Z wx.drew := h.ex (Ext.drewN _ 1)
theorem DB.cell {w wx : World} {B O g W H n c0 c : Nat} {a : Option Addr} {Z : List Int} (h : DB w B O g W H n c0 c a Z wx) {i : Nat} (hi : i < n) : wx.cell? ⟨g, i, none⟩ = some (.int .i64 (nth Z i)) := by
  obtain ⟨b, o, e, hc⟩ := (Sl.of_owns h.own).int hi
  simp only [Option.some.injEq, Addr.mk.injEq, and_true] at e
  obtain ⟨rfl, rfl⟩ := e
  rwa [Nat.zero_add] at hc
theorem DB.frozen {w wx : World} {B O g W H n c0 c : Nat} {a : Option Addr} {Z : List Int} (h : DB w B O g W H n c0 c a Z wx) (i : Nat) : wx.frozen? ⟨g, i, none⟩ = false := h.own.frozenAt i
theorem DB.set {w wx : World} {B O g W H n c0 c : Nat} {a : Option Addr} {Z : List Int} (h : DB w B O g W H n c0 c a Z wx) (i : Nat) (v : Int) : DB w B O g W H n c0 c a (Z.set i v) (wx.setCell ⟨g, i, none⟩ (.int .i64 v)) := by
  obtain ⟨o2, gr⟩ := h.own.stored i (.int .i64 v)
  have hg := h.gB
  have hgO := h.gO
  have hwB := h.wB
  refine ⟨Ext.grown h.ext (gr_set _ _ _ _) (fun k e => by cases e; omega), blk_set_other h.box (by omega), blk_set_other h.res (by omega), blk_set_other h.out (by omega), ?_, h.gO, h.wB⟩
  rw [← List.map_set] at o2
  exact o2
set_option maxRecDepth 100000 in
set_option maxHeartbeats 2000000 in
theorem l12Filter_in (W H n q : Nat) (a : Option Addr) (c : Nat) (zs : List Int) (w : World) (hw : side W) (hh : side H) (hn : n = W * H) (hz : smp zs) (r : Sl w a n (zs.map (Value.int .i64))) (hq : q < 16) :
    Calls Tryd.prog 66 #[.agg #[.int .i64 W, .int .i64 H, .slice a n c], .int .i64 q] w fun e w' => ∃ a' c', e = .returned (.agg #[.int .i64 W, .int .i64 H, .slice a' n c']) ∧ w'.ownsRow w.heap.size 3 1 (.slice a' n c') n ((dbL (flim q) zs (edgesL W H)).map (Value.int .i64)) ∧ Ext w w' := by
  have hL := flim_rng hq
  have hp := area_le hw hh
  obtain ⟨w1, w2, w3⟩ := hw
  obtain ⟨h1, h2, h3⟩ := hh
  have hnI : (n : Int) = (W : Int) * (H : Int) := by rw [hn]; simp
  have hn1 : 64 ≤ n ∧ n ≤ 1024 := by omega
  have hw4 : W % 4 = 0 := by omega
  have hh4 : H % 4 = 0 := by omega
  have Hn := Lib.hid hn
  have HZ := Lib.hid hz
  have HLF := Lib.hid (fun (w : World) => spec_FilterLimit_in q w hq)
  generalize flim q = L at *
  clear hn hz hnI hp w3 h3
  have p0 := blk_alloc (blk_new w (.cells #[.int .i64 W, .int .i64 H, .slice a n c] 46)) (.cells #[.int .i64 0, .int .i64 0, .slice none 0 0] 46)
  have r0 := blk_new (w.alloc (.cells #[.int .i64 W, .int .i64 H, .slice a n c] 46)) (.cells #[.int .i64 0, .int .i64 0, .slice none 0 0] 46)
  have E0 := (Ext.alloc w (.cells #[.int .i64 W, .int .i64 H, .slice a n c] 46)).trans (Ext.alloc _ (.cells #[.int .i64 0, .int .i64 0, .slice none 0 0] 46))
  simp only [World.size_alloc] at r0
  go_enter Tryd.func66, Tryd.ntmps66
  go_wp2_with fail
  refine (l8Copy_any W H a c n zs _ (by omega) (by omega) (r.ext E0)).mono ?_
  rintro e wa ⟨a1, c1, rfl, own1, e1⟩
  simp only [World.size_alloc] at own1
  obtain ⟨O, hO⟩ : ∃ O, O = wa.heap.size := ⟨_, rfl⟩
  have hgo : ∃ g, a1 = some ⟨g, 0, none⟩ ∧ g < O := by
    rcases own1.2 with ⟨-, h0⟩ | ⟨g, cc, cur, hv, -, hb, -⟩
    · omega
    · simp only [Value.slice.injEq] at hv
      exact ⟨g, hv.1, by rw [hO]; exact lt_of_block hb⟩
  obtain ⟨g, rfl, hgO⟩ := hgo
  obtain ⟨B, hB⟩ : ∃ B, B = w.heap.size := ⟨_, rfl⟩
  have D0 : DB w B O g W H n c c1 a zs (wa.alloc (.cells #[.int .i64 W, .int .i64 H, .slice (some ⟨g, 0, none⟩) n c1] 46)) := by
    subst hB hO
    exact ⟨(E0.trans e1).trans (Ext.alloc _ _), blk_alloc (e1.blk p0) _, blk_alloc (e1.blk r0) _, blk_new _ _, owns_ext own1 (Ext.alloc _ _), hgO, Nat.le_refl _⟩
  clear own1 p0 r0 E0 e1
  go_wp2_with fail
  refine (HLF.out _).mono ?_
  rintro e wb ⟨rfl, e2⟩
  have D1 := D0.ex e2
  rw [← hB, ← hO]
  have HB := Lib.hid hB
  clear D0 e2 hB hO
  go_wp2_with fail
  obtain ⟨nW, hnW⟩ : ∃ nW, nW = W / 4 - 1 := ⟨_, rfl⟩
  obtain ⟨nH, hnH⟩ : ∃ nH, nH = H / 4 - 1 := ⟨_, rfl⟩
  have hW4 : W = 4 * (nW + 1) := by omega
  have hH4 : H = 4 * (nH + 1) := by omega
  have HnW := Lib.hid hnW
  have HnH := Lib.hid hnH
  have HW4 := Lib.hid hW4
  have HH4 := Lib.hid hH4
  have hWn : nW < 8 := by omega
  have hHn : nH < 8 := by omega
  clear hnW hnH hW4 hH4
  -- LOOPS
  go_loopw [7, 8, 9, 10, 11] (fun y _ _ _ _ wr => ∃ u : Nat, u ≤ H ∧ y = .int .i64 u ∧ Hid (smp (dbL L zs (rowsE W nW u))) ∧ DB w B O g W H n c c1 a (dbL L zs (rowsE W nW u)) wr) (fun y _ _ _ _ _ => H - (intOf y).toNat)
  case atStart => exact ⟨0, by omega, rfl, Lib.hid (by simpa [rowsE, dbL] using HZ.out), by simpa [rowsE, dbL] using D1⟩
  case round =>
    obtain ⟨u, hu, rfl, S2, D2⟩ := hrel
    clear D1
    obtain ⟨-, b0, b1, b2, -⟩ := bx3 D2.box
    by_cases hlt : u < H
    · have hdu : decide (u < H) = true := by simpa using hlt
      go_wp2_with fail
      go_loopw [8, 9, 10, 11] (fun x _ _ _ wr2 => ∃ j : Nat, j ≤ nW ∧ x = .int .i64 (4 * (j + 1) : Nat) ∧ Hid (smp (dbL L zs (rowsE W nW u ++ rowE W u j))) ∧ DB w B O g W H n c c1 a (dbL L zs (rowsE W nW u ++ rowE W u j)) wr2) (fun x _ _ _ _ => W - (intOf x).toNat)
      case atStart => exact ⟨0, by omega, rfl, by simpa [rowE] using S2, by simpa [rowE] using D2⟩
      case round =>
        obtain ⟨j, hj, rfl, S3, D3⟩ := hrel
        clear D2 S2 b0 b1 b2
        obtain ⟨-, b0, b1, b2, -⟩ := bx3 D3.box
        by_cases hlj : j < nW
        · have hX4 := HW4.out
          have hdj : decide (4 * (j + 1) < W) = true := by simp; omega
          have he := row_ok (W := W) (H := H) (y := u) (k := j) hlt (by omega) hw4
          rw [← Hn.out] at he
          have HE := Lib.hid he
          obtain ⟨he1, he2, he3⟩ := he
          simp only at he1 he2 he3
          have hsuc := rowE_succ W u j
          have hat : (u : Int) * (W : Int) + ((4 * (j + 1) : Nat) : Int) = ((u * W + 4 * (j + 1) : Nat) : Int) := by rw [Int.natCast_add, Int.natCast_mul u W]
          have hp1 : 0 ≤ (u : Int) * (W : Int) ∧ (u : Int) * (W : Int) ≤ 1024 := by
            have : (u : Int) * (W : Int) = ((u * W : Nat) : Int) := by rw [Int.natCast_mul]
            omega
          obtain ⟨at', hAt⟩ : ∃ x, x = u * W + 4 * (j + 1) := ⟨_, rfl⟩
          rw [← hAt] at he2 he3 hsuc hat HE
          obtain ⟨X, hX⟩ : ∃ X, X = 4 * (j + 1) := ⟨_, rfl⟩
          rw [← hX] at hdj hat ⊢
          have hXW : X < W := by omega
          have hp2 : (u : Int) * (W : Int) + (X : Int) ≤ 2000 := by omega
          have HX := Lib.hid hX
          have HAt := Lib.hid hat
          obtain ⟨Z, hZ⟩ : ∃ Z, Z = dbL L zs (rowsE W nW u ++ rowE W u j) := ⟨_, rfl⟩
          rw [← hZ] at D3 S3
          have hnew : dbL L zs (rowsE W nW u ++ rowE W u (j + 1)) = dbS L Z (at', 1) := by
            rw [hsuc, ← List.append_assoc, dbL_snoc, ← hZ]
          have Hnew := Lib.hid hnew
          have hZl := D3.len
          have hS4 := dbS_smp (L := L) S3.out (e := (at', 1)) (by rw [hZl]; exact HE.out)
          have S4 := Lib.hid hS4
          have z0 := smp_nth S3.out (i := at' - 2 * 1) (by omega)
          have z1 := smp_nth S3.out (i := at' - 1) (by omega)
          have z2 := smp_nth S3.out (i := at') (by omega)
          have z3 := smp_nth S3.out (i := at' + 1) (by omega)
          have HdbS := Lib.hid (show dbS L Z (at', 1) = (Z.set (at' - 1) (flt (nth Z (at' - 2 * 1)) (nth Z (at' - 1)) (nth Z at') (nth Z (at' + 1)) L).1).set at' (flt (nth Z (at' - 2 * 1)) (nth Z (at' - 1)) (nth Z at') (nth Z (at' + 1)) L).2 from rfl)
          have hc0 := Lib.hid (fun (wx : World) (h : DB w B O g W H n c c1 a Z wx) => h.cell (i := at' - 2 * 1) (by omega))
          have hc1 := Lib.hid (fun (wx : World) (h : DB w B O g W H n c c1 a Z wx) => h.cell (i := at' - 1) (by omega))
          have hc2 := Lib.hid (fun (wx : World) (h : DB w B O g W H n c c1 a Z wx) => h.cell (i := at') (by omega))
          have hc3 := Lib.hid (fun (wx : World) (h : DB w B O g W H n c c1 a Z wx) => h.cell (i := at' + 1) (by omega))
          have HFE := Lib.hid (fun w => FilterEdge_in _ _ _ _ L w z0 z1 z2 z3 hL)
          generalize nth Z (at' - 2 * 1) = v0 at *
          generalize nth Z (at' - 1) = v1 at *
          generalize nth Z at' = v2 at *
          generalize nth Z (at' + 1) = v3 at *
          obtain ⟨f1, hf1⟩ : ∃ f1, f1 = (flt v0 v1 v2 v3 L).1 := ⟨_, rfl⟩
          obtain ⟨f2, hf2⟩ : ∃ f2, f2 = (flt v0 v1 v2 v3 L).2 := ⟨_, rfl⟩
          rw [← hf1, ← hf2] at HdbS HFE
          obtain ⟨A0, hA0⟩ : ∃ A0, A0 = at' - 2 * 1 := ⟨_, rfl⟩
          obtain ⟨A1, hA1⟩ : ∃ A1, A1 = at' - 1 := ⟨_, rfl⟩
          have HA1 := Lib.hid hA1
          obtain ⟨A3, hA3⟩ : ∃ A3, A3 = at' + 1 := ⟨_, rfl⟩
          rw [← hA0] at hc0
          rw [← hA1] at hc1 HdbS
          rw [← hA3] at hc3
          have i0 := Lib.hid (show (at' : Int) - 2 = (A0 : Int) by omega)
          have i1 := Lib.hid (show (at' : Int) - 1 = (A1 : Int) by omega)
          have i3 := Lib.hid (show (at' : Int) + 1 = (A3 : Int) by omega)
          have l0 : A0 < n := by omega
          have l1 : A1 < n := by omega
          have l2 : at' < n := by omega
          have l3 : A3 < n := by omega
          clear hf1 hf2 hA0 hA1 hA3 hnew hZ hsuc hX hAt hat hZl hS4 z0 z1 z2 z3 hX4
          go_upto_region 10 with fail
          rw [HAt.out]
          refine wp_region_inv2 (by kernel_rfl) [(10, 28), (11, 29), (39, 25), (40, 0), (41, 1), (42, 2), (43, 3), (44, 4), (45, 5), (46, 6), (47, 7), (48, 8), (49, 9), (50, 10), (51, 11), (52, 12), (53, 13), (54, 14), (55, 15), (56, 16), (57, 17), (58, 18), (59, 19), (60, 20), (61, 21), (62, 22), (63, 23), (64, 24), (65, 26), (66, 27)] [[], [0], [], [2], [0, 1, 2, 3], [0, 1, 2, 3, 4], [], [6], [], [8], [6, 7, 8, 9], [6, 7, 8, 9, 10], [], [12], [], [12, 13, 14], [12, 13, 14, 15], [], [17], [], [19], [17, 18, 19, 20], [17, 18, 19, 20, 21], [], [0, 1, 2, 3, 4, 5, 6, 7, 8, 9, 10, 11, 12, 13, 14, 15, 16, 17, 18, 19, 20, 21, 22, 23], [0, 1, 2, 3, 4, 5, 6, 7, 8, 9, 10, 11, 12, 13, 14, 15, 16, 17, 18, 19, 20, 21, 22, 23, 24], [0, 1, 2, 3, 4, 5, 6, 7, 8, 9, 10, 11, 12, 13, 14, 15, 16, 17, 18, 19, 20, 21, 22, 23, 24, 25], [0, 1, 2, 3, 4, 5, 6, 7, 8, 9, 10, 11, 12, 13, 14, 15, 16, 17, 18, 19, 20, 21, 22, 23, 24, 25], [0, 1, 2, 3, 4, 5, 6, 7, 8, 9, 10, 11, 12, 13, 14, 15, 16, 17, 18, 19, 20, 21, 22, 23, 24, 25, 26], [0, 1, 2, 3, 4, 5, 6, 7, 8, 9, 10, 11, 12, 13, 14, 15, 16, 17, 18, 19, 20, 21, 22, 23, 24, 25, 26, 27, 28]] (fun i own ys wx => match i with | 0 => own = .pointer (some ⟨O, 2, none⟩) | 1 => own = .slice (some ⟨g, 0, none⟩) n c1 | 2 => own = .int .i64 (at' : Nat) | 3 => own = .int .i64 (A0 : Nat) | 4 => own = .pointer (some ⟨g, A0, none⟩) | 5 => own = .int .i64 v0 | 6 => own = .pointer (some ⟨O, 2, none⟩) | 7 => own = .slice (some ⟨g, 0, none⟩) n c1 | 8 => own = .int .i64 (at' : Nat) | 9 => own = .int .i64 (A1 : Nat) | 10 => own = .pointer (some ⟨g, A1, none⟩) | 11 => own = .int .i64 v1 | 12 => own = .pointer (some ⟨O, 2, none⟩) | 13 => own = .slice (some ⟨g, 0, none⟩) n c1 | 14 => own = .int .i64 (at' : Nat) | 15 => own = .pointer (some ⟨g, at', none⟩) | 16 => own = .int .i64 v2 | 17 => own = .pointer (some ⟨O, 2, none⟩) | 18 => own = .slice (some ⟨g, 0, none⟩) n c1 | 19 => own = .int .i64 (at' : Nat) | 20 => own = .int .i64 (A3 : Nat) | 21 => own = .pointer (some ⟨g, A3, none⟩) | 22 => own = .int .i64 v3 | 23 => own = .int .i64 L | 24 => own = .tuple #[.int .i64 f1, .int .i64 f2] | 25 => own = .tuple #[.int .i64 f1, .int .i64 f2] | 26 => own = .int .i64 f1 | 27 => own = .int .i64 f2 | 28 => own = .int .i64 f1 | 29 => own = .int .i64 f2 | _ => True) (fun kx wx => DB w B O g W H n c c1 a Z wx) (by kernel_rfl) (by kernel_rfl) (by kernel_rfl) ?g0_r1 ?gop_r1 ?gend_r1
          case g0_r1 => exact D3.drew
          case gop_r1 =>
            refine ⟨?_, ?_, ?_, ?_, ?_, ?_, ?_, ?_, ?_, ?_, ?_, ?_, ?_, ?_, ?_, ?_, ?_, ?_, ?_, ?_, ?_, ?_, ?_, ?_, ?_, ?_, ?_, ?_, ?_, ?_, trivial⟩
            · intro kx xs wx hk hG hD hI Qo Kx hK hQo
              clear hD
              clear hI
              simp only [patchS, Nat.reduceAdd, Nat.reduceEqDiff, ↓reduceIte] at hQo ⊢
              go_wp2
              exact hK.out _ _ ⟨rfl, hG, fun _ _ _ _ _ _ h => h⟩
            · intro kx xs wx hk hG hD hI Qo Kx hK hQo
              have d0 : (xs 0) = .pointer (some ⟨O, 2, none⟩) := hD 0 rfl
              clear hD
              clear hI
              simp only [patchS, Nat.reduceAdd, Nat.reduceEqDiff, ↓reduceIte] at hQo ⊢
              generalize xs 0 = y0 at *
              subst d0
              obtain ⟨-, k0, k1, k2, -⟩ := bx3 hG.out
              go_wp2
              exact hK.out _ _ ⟨rfl, hG, fun _ _ _ _ _ _ h => h⟩
            · intro kx xs wx hk hG hD hI Qo Kx hK hQo
              clear hD
              clear hI
              simp only [patchS, Nat.reduceAdd, Nat.reduceEqDiff, ↓reduceIte] at hQo ⊢
              go_wp2
              exact hK.out _ _ ⟨rfl, hG, fun _ _ _ _ _ _ h => h⟩
            · intro kx xs wx hk hG hD hI Qo Kx hK hQo
              have d2 : (xs 2) = .int .i64 (at' : Nat) := hD 2 rfl
              clear hD
              clear hI
              simp only [patchS, Nat.reduceAdd, Nat.reduceEqDiff, ↓reduceIte] at hQo ⊢
              generalize xs 2 = y2 at *
              subst d2
              go_wp2
              exact hK.out _ _ ⟨by rw [← i0.out], hG, fun _ _ _ _ _ _ h => h⟩
            · intro kx xs wx hk hG hD hI Qo Kx hK hQo
              have d1 : (xs 1) = .slice (some ⟨g, 0, none⟩) n c1 := hD 1 rfl
              have d3 : (xs 3) = .int .i64 (A0 : Nat) := hD 3 rfl
              clear hD
              clear hI
              simp only [patchS, Nat.reduceAdd, Nat.reduceEqDiff, ↓reduceIte] at hQo ⊢
              generalize xs 1 = y1 at *
              generalize xs 3 = y3 at *
              subst d1
              subst d3
              go_wp2
              exact hK.out _ _ ⟨rfl, hG, fun _ _ _ _ _ _ h => h⟩
            · intro kx xs wx hk hG hD hI Qo Kx hK hQo
              have d4 : (xs 4) = .pointer (some ⟨g, A0, none⟩) := hD 4 rfl
              clear hD
              clear hI
              simp only [patchS, Nat.reduceAdd, Nat.reduceEqDiff, ↓reduceIte] at hQo ⊢
              generalize xs 4 = y4 at *
              subst d4
              have hcx := hc0.out wx hG
              go_wp2
              exact hK.out _ _ ⟨rfl, hG, fun _ _ _ _ _ _ h => h⟩
            · intro kx xs wx hk hG hD hI Qo Kx hK hQo
              clear hD
              clear hI
              simp only [patchS, Nat.reduceAdd, Nat.reduceEqDiff, ↓reduceIte] at hQo ⊢
              go_wp2
              exact hK.out _ _ ⟨rfl, hG, fun _ _ _ _ _ _ h => h⟩
            · intro kx xs wx hk hG hD hI Qo Kx hK hQo
              have d6 : (xs 6) = .pointer (some ⟨O, 2, none⟩) := hD 6 rfl
              clear hD
              clear hI
              simp only [patchS, Nat.reduceAdd, Nat.reduceEqDiff, ↓reduceIte] at hQo ⊢
              generalize xs 6 = y6 at *
              subst d6
              obtain ⟨-, k0, k1, k2, -⟩ := bx3 hG.out
              go_wp2
              exact hK.out _ _ ⟨rfl, hG, fun _ _ _ _ _ _ h => h⟩
            · intro kx xs wx hk hG hD hI Qo Kx hK hQo
              clear hD
              clear hI
              simp only [patchS, Nat.reduceAdd, Nat.reduceEqDiff, ↓reduceIte] at hQo ⊢
              go_wp2
              exact hK.out _ _ ⟨rfl, hG, fun _ _ _ _ _ _ h => h⟩
            · intro kx xs wx hk hG hD hI Qo Kx hK hQo
              have d8 : (xs 8) = .int .i64 (at' : Nat) := hD 8 rfl
              clear hD
              clear hI
              simp only [patchS, Nat.reduceAdd, Nat.reduceEqDiff, ↓reduceIte] at hQo ⊢
              generalize xs 8 = y8 at *
              subst d8
              go_wp2
              exact hK.out _ _ ⟨by rw [← i1.out], hG, fun _ _ _ _ _ _ h => h⟩
            · intro kx xs wx hk hG hD hI Qo Kx hK hQo
              have d7 : (xs 7) = .slice (some ⟨g, 0, none⟩) n c1 := hD 7 rfl
              have d9 : (xs 9) = .int .i64 (A1 : Nat) := hD 9 rfl
              clear hD
              clear hI
              simp only [patchS, Nat.reduceAdd, Nat.reduceEqDiff, ↓reduceIte] at hQo ⊢
              generalize xs 7 = y7 at *
              generalize xs 9 = y9 at *
              subst d7
              subst d9
              go_wp2
              exact hK.out _ _ ⟨rfl, hG, fun _ _ _ _ _ _ h => h⟩
            · intro kx xs wx hk hG hD hI Qo Kx hK hQo
              have d10 : (xs 10) = .pointer (some ⟨g, A1, none⟩) := hD 10 rfl
              clear hD
              clear hI
              simp only [patchS, Nat.reduceAdd, Nat.reduceEqDiff, ↓reduceIte] at hQo ⊢
              generalize xs 10 = y10 at *
              subst d10
              have hcx := hc1.out wx hG
              go_wp2
              exact hK.out _ _ ⟨rfl, hG, fun _ _ _ _ _ _ h => h⟩
            · intro kx xs wx hk hG hD hI Qo Kx hK hQo
              clear hD
              clear hI
              simp only [patchS, Nat.reduceAdd, Nat.reduceEqDiff, ↓reduceIte] at hQo ⊢
              go_wp2
              exact hK.out _ _ ⟨rfl, hG, fun _ _ _ _ _ _ h => h⟩
            · intro kx xs wx hk hG hD hI Qo Kx hK hQo
              have d12 : (xs 12) = .pointer (some ⟨O, 2, none⟩) := hD 12 rfl
              clear hD
              clear hI
              simp only [patchS, Nat.reduceAdd, Nat.reduceEqDiff, ↓reduceIte] at hQo ⊢
              generalize xs 12 = y12 at *
              subst d12
              obtain ⟨-, k0, k1, k2, -⟩ := bx3 hG.out
              go_wp2
              exact hK.out _ _ ⟨rfl, hG, fun _ _ _ _ _ _ h => h⟩
            · intro kx xs wx hk hG hD hI Qo Kx hK hQo
              clear hD
              clear hI
              simp only [patchS, Nat.reduceAdd, Nat.reduceEqDiff, ↓reduceIte] at hQo ⊢
              go_wp2
              exact hK.out _ _ ⟨rfl, hG, fun _ _ _ _ _ _ h => h⟩
            · intro kx xs wx hk hG hD hI Qo Kx hK hQo
              have d13 : (xs 13) = .slice (some ⟨g, 0, none⟩) n c1 := hD 13 rfl
              have d14 : (xs 14) = .int .i64 (at' : Nat) := hD 14 rfl
              clear hD
              clear hI
              simp only [patchS, Nat.reduceAdd, Nat.reduceEqDiff, ↓reduceIte] at hQo ⊢
              generalize xs 13 = y13 at *
              generalize xs 14 = y14 at *
              subst d13
              subst d14
              go_wp2
              exact hK.out _ _ ⟨rfl, hG, fun _ _ _ _ _ _ h => h⟩
            · intro kx xs wx hk hG hD hI Qo Kx hK hQo
              have d15 : (xs 15) = .pointer (some ⟨g, at', none⟩) := hD 15 rfl
              clear hD
              clear hI
              simp only [patchS, Nat.reduceAdd, Nat.reduceEqDiff, ↓reduceIte] at hQo ⊢
              generalize xs 15 = y15 at *
              subst d15
              have hcx := hc2.out wx hG
              go_wp2
              exact hK.out _ _ ⟨rfl, hG, fun _ _ _ _ _ _ h => h⟩
            · intro kx xs wx hk hG hD hI Qo Kx hK hQo
              clear hD
              clear hI
              simp only [patchS, Nat.reduceAdd, Nat.reduceEqDiff, ↓reduceIte] at hQo ⊢
              go_wp2
              exact hK.out _ _ ⟨rfl, hG, fun _ _ _ _ _ _ h => h⟩
            · intro kx xs wx hk hG hD hI Qo Kx hK hQo
              have d17 : (xs 17) = .pointer (some ⟨O, 2, none⟩) := hD 17 rfl
              clear hD
              clear hI
              simp only [patchS, Nat.reduceAdd, Nat.reduceEqDiff, ↓reduceIte] at hQo ⊢
              generalize xs 17 = y17 at *
              subst d17
              obtain ⟨-, k0, k1, k2, -⟩ := bx3 hG.out
              go_wp2
              exact hK.out _ _ ⟨rfl, hG, fun _ _ _ _ _ _ h => h⟩
            · intro kx xs wx hk hG hD hI Qo Kx hK hQo
              clear hD
              clear hI
              simp only [patchS, Nat.reduceAdd, Nat.reduceEqDiff, ↓reduceIte] at hQo ⊢
              go_wp2
              exact hK.out _ _ ⟨rfl, hG, fun _ _ _ _ _ _ h => h⟩
            · intro kx xs wx hk hG hD hI Qo Kx hK hQo
              have d19 : (xs 19) = .int .i64 (at' : Nat) := hD 19 rfl
              clear hD
              clear hI
              simp only [patchS, Nat.reduceAdd, Nat.reduceEqDiff, ↓reduceIte] at hQo ⊢
              generalize xs 19 = y19 at *
              subst d19
              go_wp2
              exact hK.out _ _ ⟨by rw [← i3.out], hG, fun _ _ _ _ _ _ h => h⟩
            · intro kx xs wx hk hG hD hI Qo Kx hK hQo
              have d18 : (xs 18) = .slice (some ⟨g, 0, none⟩) n c1 := hD 18 rfl
              have d20 : (xs 20) = .int .i64 (A3 : Nat) := hD 20 rfl
              clear hD
              clear hI
              simp only [patchS, Nat.reduceAdd, Nat.reduceEqDiff, ↓reduceIte] at hQo ⊢
              generalize xs 18 = y18 at *
              generalize xs 20 = y20 at *
              subst d18
              subst d20
              go_wp2
              exact hK.out _ _ ⟨rfl, hG, fun _ _ _ _ _ _ h => h⟩
            · intro kx xs wx hk hG hD hI Qo Kx hK hQo
              have d21 : (xs 21) = .pointer (some ⟨g, A3, none⟩) := hD 21 rfl
              clear hD
              clear hI
              simp only [patchS, Nat.reduceAdd, Nat.reduceEqDiff, ↓reduceIte] at hQo ⊢
              generalize xs 21 = y21 at *
              subst d21
              have hcx := hc3.out wx hG
              go_wp2
              exact hK.out _ _ ⟨rfl, hG, fun _ _ _ _ _ _ h => h⟩
            · intro kx xs wx hk hG hD hI Qo Kx hK hQo
              clear hD
              clear hI
              simp only [patchS, Nat.reduceAdd, Nat.reduceEqDiff, ↓reduceIte] at hQo ⊢
              go_wp2
              exact hK.out _ _ ⟨rfl, hG, fun _ _ _ _ _ _ h => h⟩
            · intro kx xs wx hk hG hD hI Qo Kx hK hQo
              have d5 : (xs 5) = .int .i64 v0 := hD 5 rfl
              have d11 : (xs 11) = .int .i64 v1 := hD 11 rfl
              have d16 : (xs 16) = .int .i64 v2 := hD 16 rfl
              have d22 : (xs 22) = .int .i64 v3 := hD 22 rfl
              have d23 : (xs 23) = .int .i64 L := hD 23 rfl
              clear hD
              clear hI
              simp only [patchS, Nat.reduceAdd, Nat.reduceEqDiff, ↓reduceIte] at hQo ⊢
              generalize xs 5 = y5 at *
              generalize xs 11 = y11 at *
              generalize xs 16 = y16 at *
              generalize xs 22 = y22 at *
              generalize xs 23 = y23 at *
              subst d5
              subst d11
              subst d16
              subst d22
              subst d23
              go_wp2_with fail
              refine (HFE.out _).mono ?_
              rintro e w7 ⟨rfl, rfl⟩
              go_wp2
              exact hK.out _ _ ⟨rfl, hG, fun _ _ _ _ _ _ h => h⟩
            · intro kx xs wx hk hG hD hI Qo Kx hK hQo
              have d24 : (xs 24) = .tuple #[.int .i64 f1, .int .i64 f2] := hD 24 rfl
              clear hD
              clear hI
              simp only [patchS, Nat.reduceAdd, Nat.reduceEqDiff, ↓reduceIte] at hQo ⊢
              generalize xs 24 = y24 at *
              subst d24
              go_wp2
              exact hK.out _ _ ⟨rfl, hG, fun _ _ _ _ _ _ h => h⟩
            · intro kx xs wx hk hG hD hI Qo Kx hK hQo
              have d25 : (xs 25) = .tuple #[.int .i64 f1, .int .i64 f2] := hD 25 rfl
              clear hD
              clear hI
              simp only [patchS, Nat.reduceAdd, Nat.reduceEqDiff, ↓reduceIte] at hQo ⊢
              generalize xs 25 = y25 at *
              subst d25
              go_wp2
              exact hK.out _ _ ⟨rfl, hG, fun _ _ _ _ _ _ h => h⟩
            · intro kx xs wx hk hG hD hI Qo Kx hK hQo
              have d25 : (xs 25) = .tuple #[.int .i64 f1, .int .i64 f2] := hD 25 rfl
              clear hD
              clear hI
              simp only [patchS, Nat.reduceAdd, Nat.reduceEqDiff, ↓reduceIte] at hQo ⊢
              generalize xs 25 = y25 at *
              subst d25
              go_wp2
              exact hK.out _ _ ⟨rfl, hG, fun _ _ _ _ _ _ h => h⟩
            · intro kx xs wx hk hG hD hI Qo Kx hK hQo
              have d26 : (xs 26) = .int .i64 f1 := hD 26 rfl
              clear hD
              clear hI
              simp only [patchS, Nat.reduceAdd, Nat.reduceEqDiff, ↓reduceIte] at hQo ⊢
              generalize xs 26 = y26 at *
              subst d26
              go_wp2
              exact hK.out _ _ ⟨rfl, hG, fun _ _ _ _ _ _ h => h⟩
            · intro kx xs wx hk hG hD hI Qo Kx hK hQo
              have d27 : (xs 27) = .int .i64 f2 := hD 27 rfl
              clear hD
              clear hI
              simp only [patchS, Nat.reduceAdd, Nat.reduceEqDiff, ↓reduceIte] at hQo ⊢
              generalize xs 27 = y27 at *
              subst d27
              go_wp2
              exact hK.out _ _ ⟨rfl, hG, fun _ _ _ _ _ _ h => h⟩
          intro xs wx hV hG
          have d0 : (xs 0) = .pointer (some ⟨O, 2, none⟩) := hV 0 (by decide)
          have d1 : (xs 1) = .slice (some ⟨g, 0, none⟩) n c1 := hV 1 (by decide)
          have d2 : (xs 2) = .int .i64 (at' : Nat) := hV 2 (by decide)
          have d3 : (xs 3) = .int .i64 (A0 : Nat) := hV 3 (by decide)
          have d4 : (xs 4) = .pointer (some ⟨g, A0, none⟩) := hV 4 (by decide)
          have d5 : (xs 5) = .int .i64 v0 := hV 5 (by decide)
          have d6 : (xs 6) = .pointer (some ⟨O, 2, none⟩) := hV 6 (by decide)
          have d7 : (xs 7) = .slice (some ⟨g, 0, none⟩) n c1 := hV 7 (by decide)
          have d8 : (xs 8) = .int .i64 (at' : Nat) := hV 8 (by decide)
          have d9 : (xs 9) = .int .i64 (A1 : Nat) := hV 9 (by decide)
          have d10 : (xs 10) = .pointer (some ⟨g, A1, none⟩) := hV 10 (by decide)
          have d11 : (xs 11) = .int .i64 v1 := hV 11 (by decide)
          have d12 : (xs 12) = .pointer (some ⟨O, 2, none⟩) := hV 12 (by decide)
          have d13 : (xs 13) = .slice (some ⟨g, 0, none⟩) n c1 := hV 13 (by decide)
          have d14 : (xs 14) = .int .i64 (at' : Nat) := hV 14 (by decide)
          have d15 : (xs 15) = .pointer (some ⟨g, at', none⟩) := hV 15 (by decide)
          have d16 : (xs 16) = .int .i64 v2 := hV 16 (by decide)
          have d17 : (xs 17) = .pointer (some ⟨O, 2, none⟩) := hV 17 (by decide)
          have d18 : (xs 18) = .slice (some ⟨g, 0, none⟩) n c1 := hV 18 (by decide)
          have d19 : (xs 19) = .int .i64 (at' : Nat) := hV 19 (by decide)
          have d20 : (xs 20) = .int .i64 (A3 : Nat) := hV 20 (by decide)
          have d21 : (xs 21) = .pointer (some ⟨g, A3, none⟩) := hV 21 (by decide)
          have d22 : (xs 22) = .int .i64 v3 := hV 22 (by decide)
          have d23 : (xs 23) = .int .i64 L := hV 23 (by decide)
          have d24 : (xs 24) = .tuple #[.int .i64 f1, .int .i64 f2] := hV 24 (by decide)
          have d25 : (xs 25) = .tuple #[.int .i64 f1, .int .i64 f2] := hV 25 (by decide)
          have d26 : (xs 26) = .int .i64 f1 := hV 26 (by decide)
          have d27 : (xs 27) = .int .i64 f2 := hV 27 (by decide)
          have d28 : (xs 28) = .int .i64 f1 := hV 28 (by decide)
          have d29 : (xs 29) = .int .i64 f2 := hV 29 (by decide)
          clear hV
          simp only [patchS, Nat.reduceAdd, Nat.reduceEqDiff, ↓reduceIte]
          generalize xs 0 = y0 at *
          generalize xs 1 = y1 at *
          generalize xs 2 = y2 at *
          generalize xs 3 = y3 at *
          generalize xs 4 = y4 at *
          generalize xs 5 = y5 at *
          generalize xs 6 = y6 at *
          generalize xs 7 = y7 at *
          generalize xs 8 = y8 at *
          generalize xs 9 = y9 at *
          generalize xs 10 = y10 at *
          generalize xs 11 = y11 at *
          generalize xs 12 = y12 at *
          generalize xs 13 = y13 at *
          generalize xs 14 = y14 at *
          generalize xs 15 = y15 at *
          generalize xs 16 = y16 at *
          generalize xs 17 = y17 at *
          generalize xs 18 = y18 at *
          generalize xs 19 = y19 at *
          generalize xs 20 = y20 at *
          generalize xs 21 = y21 at *
          generalize xs 22 = y22 at *
          generalize xs 23 = y23 at *
          generalize xs 24 = y24 at *
          generalize xs 25 = y25 at *
          generalize xs 26 = y26 at *
          generalize xs 27 = y27 at *
          generalize xs 28 = y28 at *
          generalize xs 29 = y29 at *
          replace hG : DB w B O g W H n c c1 a Z wx := hG
          clear d0 d1 d2 d3 d4 d5 d6 d7 d8 d9 d10 d11 d12 d13 d14 d15 d16 d17 d18 d19 d20 d21 d22 d23 d24 d25 d26 d27
          subst d28
          subst d29
          have k1 := hc1.out wx hG
          rw [HA1.out] at k1 HdbS
          have k2 := hG.frozen (at' - 1)
          obtain ⟨-, b0, b1, b2, -⟩ := bx3 hG.box
          obtain ⟨-, o0, o1, o2, -⟩ := bx3 hG.out
          clear D3
          go_upto_region 12 with fail
          have D4 := hG.set (at' - 1) f1
          generalize wx.setCell ⟨g, at' - 1, none⟩ (.int .i64 f1) = w4 at *
          clear hG k1 k2 b0 b1 b2 o0 o1 o2
          have k1 := D4.cell (i := at') (by omega)
          have k2 := D4.frozen at'
          obtain ⟨-, b0, b1, b2, -⟩ := bx3 D4.box
          obtain ⟨-, o0, o1, o2, -⟩ := bx3 D4.out
          have D5 := D4.set at' f2
          rw [← HdbS.out, ← Hnew.out] at D5
          rw [← Hnew.out] at S4
          go_wp2
          go_roundw
          case rel => exact ⟨j + 1, by omega, by rw [HX.out]; go_num, S4, D5⟩
          case measure => have := HX.out; simp [intOf]; omega
        · obtain rfl : nW = j := by omega
          have hX4 := HW4.out
          have hdj : decide (4 * (nW + 1) < W) = false := by simp; omega
          obtain ⟨X, hX⟩ : ∃ X, X = 4 * (nW + 1) := ⟨_, rfl⟩
          rw [← hX] at hdj ⊢
          clear hX hX4
          go_wp2
          go_roundw
          case rel => exact ⟨u + 1, by omega, by go_num, S3, D3⟩
          case measure => simp [intOf]; omega
    · obtain rfl : H = u := by omega
      have hdu : decide (H < H) = false := by simp
      clear b0 b1 b2
      obtain ⟨-, b0, b1, b2, -⟩ := bx3 D2.box
      go_wp2_with fail
      have E1 : DB w B O g W H n c c1 a (dbL L zs (rowsE W nW H)) wr := D2
      have T1 := S2
      clear D2 S2
      go_loopw [12, 13, 14, 15, 16] (fun y _ _ _ _ wr => ∃ u : Nat, u ≤ W ∧ y = .int .i64 u ∧ Hid (smp (dbL L zs (rowsE W nW H ++ colsE W nH u))) ∧ DB w B O g W H n c c1 a (dbL L zs (rowsE W nW H ++ colsE W nH u)) wr) (fun y _ _ _ _ _ => W - (intOf y).toNat)
      case atStart => exact ⟨0, by omega, rfl, Lib.hid (by simpa [colsE] using T1.out), by simpa [colsE] using E1⟩
      case round =>
        obtain ⟨u, hu, rfl, S2, D2⟩ := hrel
        clear E1 T1
        obtain ⟨-, b0, b1, b2, -⟩ := bx3 D2.box
        by_cases hlt : u < W
        · have hdu : decide (u < W) = true := by simpa using hlt
          go_wp2_with fail
          go_loopw [13, 14, 15, 16] (fun x _ _ _ wr2 => ∃ j : Nat, j ≤ nH ∧ x = .int .i64 (4 * (j + 1) : Nat) ∧ Hid (smp (dbL L zs ((rowsE W nW H ++ colsE W nH u) ++ colE W u j))) ∧ DB w B O g W H n c c1 a (dbL L zs ((rowsE W nW H ++ colsE W nH u) ++ colE W u j)) wr2) (fun x _ _ _ _ => H - (intOf x).toNat)
          case atStart => exact ⟨0, by omega, rfl, by simpa [colE] using S2, by simpa [colE] using D2⟩
          case round =>
            obtain ⟨j, hj, rfl, S3, D3⟩ := hrel
            clear D2 S2 b0 b1 b2
            obtain ⟨-, b0, b1, b2, -⟩ := bx3 D3.box
            by_cases hlj : j < nH
            · have hX4 := HH4.out
              have hdj : decide (4 * (j + 1) < H) = true := by simp; omega
              have he := col_ok (W := W) (H := H) (x := u) (k := j) hlt (by omega) hh4
              rw [← Hn.out] at he
              have HE := Lib.hid he
              obtain ⟨he1, he2, he3⟩ := he
              simp only at he1 he2 he3
              have hsuc := colE_succ W u j
              have hat : ((4 * (j + 1) : Nat) : Int) * (W : Int) + (u : Int) = ((4 * (j + 1) * W + u : Nat) : Int) := by rw [Int.natCast_add, Int.natCast_mul (4 * (j + 1)) W]
              have hp1 : 0 ≤ ((4 * (j + 1) : Nat) : Int) * (W : Int) ∧ ((4 * (j + 1) : Nat) : Int) * (W : Int) ≤ 1024 := by
                have : ((4 * (j + 1) : Nat) : Int) * (W : Int) = ((4 * (j + 1) * W : Nat) : Int) := by rw [Int.natCast_mul (4 * (j + 1)) W]
                omega
              obtain ⟨at', hAt⟩ : ∃ x, x = 4 * (j + 1) * W + u := ⟨_, rfl⟩
              rw [← hAt] at he2 he3 hsuc hat HE
              obtain ⟨X, hX⟩ : ∃ X, X = 4 * (j + 1) := ⟨_, rfl⟩
              rw [← hX] at hdj hat hp1 ⊢
              have hXW : X < H := by omega
              have hp2 : (X : Int) * (W : Int) + (u : Int) ≤ 2000 := by omega
              have HX := Lib.hid hX
              have HAt := Lib.hid hat
              obtain ⟨Z, hZ⟩ : ∃ Z, Z = dbL L zs ((rowsE W nW H ++ colsE W nH u) ++ colE W u j) := ⟨_, rfl⟩
              rw [← hZ] at D3 S3
              have hnew : dbL L zs ((rowsE W nW H ++ colsE W nH u) ++ colE W u (j + 1)) = dbS L Z (at', W) := by
                rw [hsuc, ← List.append_assoc, dbL_snoc, ← hZ]
              have Hnew := Lib.hid hnew
              have hZl := D3.len
              have hS4 := dbS_smp (L := L) S3.out (e := (at', W)) (by rw [hZl]; exact HE.out)
              have S4 := Lib.hid hS4
              have z0 := smp_nth S3.out (i := at' - 2 * W) (by omega)
              have z1 := smp_nth S3.out (i := at' - W) (by omega)
              have z2 := smp_nth S3.out (i := at') (by omega)
              have z3 := smp_nth S3.out (i := at' + W) (by omega)
              have HdbS := Lib.hid (show dbS L Z (at', W) = (Z.set (at' - W) (flt (nth Z (at' - 2 * W)) (nth Z (at' - W)) (nth Z at') (nth Z (at' + W)) L).1).set at' (flt (nth Z (at' - 2 * W)) (nth Z (at' - W)) (nth Z at') (nth Z (at' + W)) L).2 from rfl)
              have hc0 := Lib.hid (fun (wx : World) (h : DB w B O g W H n c c1 a Z wx) => h.cell (i := at' - 2 * W) (by omega))
              have hc1 := Lib.hid (fun (wx : World) (h : DB w B O g W H n c c1 a Z wx) => h.cell (i := at' - W) (by omega))
              have hc2 := Lib.hid (fun (wx : World) (h : DB w B O g W H n c c1 a Z wx) => h.cell (i := at') (by omega))
              have hc3 := Lib.hid (fun (wx : World) (h : DB w B O g W H n c c1 a Z wx) => h.cell (i := at' + W) (by omega))
              have HFE := Lib.hid (fun w => FilterEdge_in _ _ _ _ L w z0 z1 z2 z3 hL)
              generalize nth Z (at' - 2 * W) = v0 at *
              generalize nth Z (at' - W) = v1 at *
              generalize nth Z at' = v2 at *
              generalize nth Z (at' + W) = v3 at *
              obtain ⟨f1, hf1⟩ : ∃ f1, f1 = (flt v0 v1 v2 v3 L).1 := ⟨_, rfl⟩
              obtain ⟨f2, hf2⟩ : ∃ f2, f2 = (flt v0 v1 v2 v3 L).2 := ⟨_, rfl⟩
              rw [← hf1, ← hf2] at HdbS HFE
              obtain ⟨A0, hA0⟩ : ∃ A0, A0 = at' - 2 * W := ⟨_, rfl⟩
              obtain ⟨A1, hA1⟩ : ∃ A1, A1 = at' - W := ⟨_, rfl⟩
              have HA1 := Lib.hid hA1
              obtain ⟨A3, hA3⟩ : ∃ A3, A3 = at' + W := ⟨_, rfl⟩
              rw [← hA0] at hc0
              rw [← hA1] at hc1 HdbS
              rw [← hA3] at hc3
              have i0 := Lib.hid (show (at' : Int) - 2 * (W : Int) = (A0 : Int) by omega)
              have i1 := Lib.hid (show (at' : Int) - (W : Int) = (A1 : Int) by omega)
              have i3 := Lib.hid (show (at' : Int) + (W : Int) = (A3 : Int) by omega)
              have l0 : A0 < n := by omega
              have l1 : A1 < n := by omega
              have l2 : at' < n := by omega
              have l3 : A3 < n := by omega
              clear hf1 hf2 hA0 hA1 hA3 hnew hZ hsuc hX hAt hat hZl hS4 z0 z1 z2 z3 hX4
              go_upto_region 20 with fail
              rw [HAt.out]
              refine wp_region_inv2 (by kernel_rfl) [(15, 35), (16, 36), (96, 32), (97, 0), (98, 1), (99, 2), (100, 3), (101, 4), (102, 5), (103, 6), (104, 7), (105, 8), (106, 9), (107, 10), (108, 11), (109, 12), (110, 13), (111, 14), (112, 15), (113, 16), (114, 17), (115, 18), (116, 19), (117, 20), (118, 21), (119, 22), (120, 23), (121, 24), (122, 25), (123, 26), (124, 27), (125, 28), (126, 29), (127, 30), (128, 31), (129, 33), (130, 34)] [[], [0], [], [], [3], [3, 4], [2, 3, 4, 5], [0, 1, 2, 3, 4, 5, 6], [0, 1, 2, 3, 4, 5, 6, 7], [], [9], [], [], [12], [11, 12, 13], [9, 10, 11, 12, 13, 14], [9, 10, 11, 12, 13, 14, 15], [], [17], [], [17, 18, 19], [17, 18, 19, 20], [], [22], [], [], [25], [24, 25, 26], [22, 23, 24, 25, 26, 27], [22, 23, 24, 25, 26, 27, 28], [], [0, 1, 2, 3, 4, 5, 6, 7, 8, 9, 10, 11, 12, 13, 14, 15, 16, 17, 18, 19, 20, 21, 22, 23, 24, 25, 26, 27, 28, 29, 30], [0, 1, 2, 3, 4, 5, 6, 7, 8, 9, 10, 11, 12, 13, 14, 15, 16, 17, 18, 19, 20, 21, 22, 23, 24, 25, 26, 27, 28, 29, 30, 31], [0, 1, 2, 3, 4, 5, 6, 7, 8, 9, 10, 11, 12, 13, 14, 15, 16, 17, 18, 19, 20, 21, 22, 23, 24, 25, 26, 27, 28, 29, 30, 31, 32], [0, 1, 2, 3, 4, 5, 6, 7, 8, 9, 10, 11, 12, 13, 14, 15, 16, 17, 18, 19, 20, 21, 22, 23, 24, 25, 26, 27, 28, 29, 30, 31, 32], [0, 1, 2, 3, 4, 5, 6, 7, 8, 9, 10, 11, 12, 13, 14, 15, 16, 17, 18, 19, 20, 21, 22, 23, 24, 25, 26, 27, 28, 29, 30, 31, 32, 33], [0, 1, 2, 3, 4, 5, 6, 7, 8, 9, 10, 11, 12, 13, 14, 15, 16, 17, 18, 19, 20, 21, 22, 23, 24, 25, 26, 27, 28, 29, 30, 31, 32, 33, 34, 35]] (fun i own ys wx => match i with | 0 => own = .pointer (some ⟨O, 2, none⟩) | 1 => own = .slice (some ⟨g, 0, none⟩) n c1 | 2 => own = .int .i64 (at' : Nat) | 3 => own = .pointer (some ⟨B, 0, none⟩) | 4 => own = .int .i64 W | 5 => own = .int .i64 (2 * (W : Int)) | 6 => own = .int .i64 (A0 : Nat) | 7 => own = .pointer (some ⟨g, A0, none⟩) | 8 => own = .int .i64 v0 | 9 => own = .pointer (some ⟨O, 2, none⟩) | 10 => own = .slice (some ⟨g, 0, none⟩) n c1 | 11 => own = .int .i64 (at' : Nat) | 12 => own = .pointer (some ⟨B, 0, none⟩) | 13 => own = .int .i64 W | 14 => own = .int .i64 (A1 : Nat) | 15 => own = .pointer (some ⟨g, A1, none⟩) | 16 => own = .int .i64 v1 | 17 => own = .pointer (some ⟨O, 2, none⟩) | 18 => own = .slice (some ⟨g, 0, none⟩) n c1 | 19 => own = .int .i64 (at' : Nat) | 20 => own = .pointer (some ⟨g, at', none⟩) | 21 => own = .int .i64 v2 | 22 => own = .pointer (some ⟨O, 2, none⟩) | 23 => own = .slice (some ⟨g, 0, none⟩) n c1 | 24 => own = .int .i64 (at' : Nat) | 25 => own = .pointer (some ⟨B, 0, none⟩) | 26 => own = .int .i64 W | 27 => own = .int .i64 (A3 : Nat) | 28 => own = .pointer (some ⟨g, A3, none⟩) | 29 => own = .int .i64 v3 | 30 => own = .int .i64 L | 31 => own = .tuple #[.int .i64 f1, .int .i64 f2] | 32 => own = .tuple #[.int .i64 f1, .int .i64 f2] | 33 => own = .int .i64 f1 | 34 => own = .int .i64 f2 | 35 => own = .int .i64 f1 | 36 => own = .int .i64 f2 | _ => True) (fun kx wx => DB w B O g W H n c c1 a Z wx) (by kernel_rfl) (by kernel_rfl) (by kernel_rfl) ?g0_r2 ?gop_r2 ?gend_r2
              case g0_r2 => exact D3.drew
              case gop_r2 =>
                refine ⟨?_, ?_, ?_, ?_, ?_, ?_, ?_, ?_, ?_, ?_, ?_, ?_, ?_, ?_, ?_, ?_, ?_, ?_, ?_, ?_, ?_, ?_, ?_, ?_, ?_, ?_, ?_, ?_, ?_, ?_, ?_, ?_, ?_, ?_, ?_, ?_, ?_, trivial⟩
                · intro kx xs wx hk hG hD hI Qo Kx hK hQo
                  clear hD
                  clear hI
                  simp only [patchS, Nat.reduceAdd, Nat.reduceEqDiff, ↓reduceIte] at hQo ⊢
                  go_wp2
                  exact hK.out _ _ ⟨rfl, hG, fun _ _ _ _ _ _ h => h⟩
                · intro kx xs wx hk hG hD hI Qo Kx hK hQo
                  have d0 : (xs 0) = .pointer (some ⟨O, 2, none⟩) := hD 0 rfl
                  clear hD
                  clear hI
                  simp only [patchS, Nat.reduceAdd, Nat.reduceEqDiff, ↓reduceIte] at hQo ⊢
                  generalize xs 0 = y0 at *
                  subst d0
                  obtain ⟨-, k0, k1, k2, -⟩ := bx3 hG.out
                  go_wp2
                  exact hK.out _ _ ⟨rfl, hG, fun _ _ _ _ _ _ h => h⟩
                · intro kx xs wx hk hG hD hI Qo Kx hK hQo
                  clear hD
                  clear hI
                  simp only [patchS, Nat.reduceAdd, Nat.reduceEqDiff, ↓reduceIte] at hQo ⊢
                  go_wp2
                  exact hK.out _ _ ⟨rfl, hG, fun _ _ _ _ _ _ h => h⟩
                · intro kx xs wx hk hG hD hI Qo Kx hK hQo
                  clear hD
                  clear hI
                  simp only [patchS, Nat.reduceAdd, Nat.reduceEqDiff, ↓reduceIte] at hQo ⊢
                  go_wp2
                  exact hK.out _ _ ⟨rfl, hG, fun _ _ _ _ _ _ h => h⟩
                · intro kx xs wx hk hG hD hI Qo Kx hK hQo
                  have d3 : (xs 3) = .pointer (some ⟨B, 0, none⟩) := hD 3 rfl
                  clear hD
                  clear hI
                  simp only [patchS, Nat.reduceAdd, Nat.reduceEqDiff, ↓reduceIte] at hQo ⊢
                  generalize xs 3 = y3 at *
                  subst d3
                  obtain ⟨-, k0, k1, k2, -⟩ := bx3 hG.box
                  go_wp2
                  exact hK.out _ _ ⟨rfl, hG, fun _ _ _ _ _ _ h => h⟩
                · intro kx xs wx hk hG hD hI Qo Kx hK hQo
                  have d4 : (xs 4) = .int .i64 W := hD 4 rfl
                  clear hD
                  clear hI
                  simp only [patchS, Nat.reduceAdd, Nat.reduceEqDiff, ↓reduceIte] at hQo ⊢
                  generalize xs 4 = y4 at *
                  subst d4
                  go_wp2
                  exact hK.out _ _ ⟨rfl, hG, fun _ _ _ _ _ _ h => h⟩
                · intro kx xs wx hk hG hD hI Qo Kx hK hQo
                  have d2 : (xs 2) = .int .i64 (at' : Nat) := hD 2 rfl
                  have d5 : (xs 5) = .int .i64 (2 * (W : Int)) := hD 5 rfl
                  clear hD
                  clear hI
                  simp only [patchS, Nat.reduceAdd, Nat.reduceEqDiff, ↓reduceIte] at hQo ⊢
                  generalize xs 2 = y2 at *
                  generalize xs 5 = y5 at *
                  subst d2
                  subst d5
                  go_wp2
                  exact hK.out _ _ ⟨by rw [← i0.out], hG, fun _ _ _ _ _ _ h => h⟩
                · intro kx xs wx hk hG hD hI Qo Kx hK hQo
                  have d1 : (xs 1) = .slice (some ⟨g, 0, none⟩) n c1 := hD 1 rfl
                  have d6 : (xs 6) = .int .i64 (A0 : Nat) := hD 6 rfl
                  clear hD
                  clear hI
                  simp only [patchS, Nat.reduceAdd, Nat.reduceEqDiff, ↓reduceIte] at hQo ⊢
                  generalize xs 1 = y1 at *
                  generalize xs 6 = y6 at *
                  subst d1
                  subst d6
                  go_wp2
                  exact hK.out _ _ ⟨rfl, hG, fun _ _ _ _ _ _ h => h⟩
                · intro kx xs wx hk hG hD hI Qo Kx hK hQo
                  have d7 : (xs 7) = .pointer (some ⟨g, A0, none⟩) := hD 7 rfl
                  clear hD
                  clear hI
                  simp only [patchS, Nat.reduceAdd, Nat.reduceEqDiff, ↓reduceIte] at hQo ⊢
                  generalize xs 7 = y7 at *
                  subst d7
                  have hcx := hc0.out wx hG
                  go_wp2
                  exact hK.out _ _ ⟨rfl, hG, fun _ _ _ _ _ _ h => h⟩
                · intro kx xs wx hk hG hD hI Qo Kx hK hQo
                  clear hD
                  clear hI
                  simp only [patchS, Nat.reduceAdd, Nat.reduceEqDiff, ↓reduceIte] at hQo ⊢
                  go_wp2
                  exact hK.out _ _ ⟨rfl, hG, fun _ _ _ _ _ _ h => h⟩
                · intro kx xs wx hk hG hD hI Qo Kx hK hQo
                  have d9 : (xs 9) = .pointer (some ⟨O, 2, none⟩) := hD 9 rfl
                  clear hD
                  clear hI
                  simp only [patchS, Nat.reduceAdd, Nat.reduceEqDiff, ↓reduceIte] at hQo ⊢
                  generalize xs 9 = y9 at *
                  subst d9
                  obtain ⟨-, k0, k1, k2, -⟩ := bx3 hG.out
                  go_wp2
                  exact hK.out _ _ ⟨rfl, hG, fun _ _ _ _ _ _ h => h⟩
                · intro kx xs wx hk hG hD hI Qo Kx hK hQo
                  clear hD
                  clear hI
                  simp only [patchS, Nat.reduceAdd, Nat.reduceEqDiff, ↓reduceIte] at hQo ⊢
                  go_wp2
                  exact hK.out _ _ ⟨rfl, hG, fun _ _ _ _ _ _ h => h⟩
                · intro kx xs wx hk hG hD hI Qo Kx hK hQo
                  clear hD
                  clear hI
                  simp only [patchS, Nat.reduceAdd, Nat.reduceEqDiff, ↓reduceIte] at hQo ⊢
                  go_wp2
                  exact hK.out _ _ ⟨rfl, hG, fun _ _ _ _ _ _ h => h⟩
                · intro kx xs wx hk hG hD hI Qo Kx hK hQo
                  have d12 : (xs 12) = .pointer (some ⟨B, 0, none⟩) := hD 12 rfl
                  clear hD
                  clear hI
                  simp only [patchS, Nat.reduceAdd, Nat.reduceEqDiff, ↓reduceIte] at hQo ⊢
                  generalize xs 12 = y12 at *
                  subst d12
                  obtain ⟨-, k0, k1, k2, -⟩ := bx3 hG.box
                  go_wp2
                  exact hK.out _ _ ⟨rfl, hG, fun _ _ _ _ _ _ h => h⟩
                · intro kx xs wx hk hG hD hI Qo Kx hK hQo
                  have d11 : (xs 11) = .int .i64 (at' : Nat) := hD 11 rfl
                  have d13 : (xs 13) = .int .i64 W := hD 13 rfl
                  clear hD
                  clear hI
                  simp only [patchS, Nat.reduceAdd, Nat.reduceEqDiff, ↓reduceIte] at hQo ⊢
                  generalize xs 11 = y11 at *
                  generalize xs 13 = y13 at *
                  subst d11
                  subst d13
                  go_wp2
                  exact hK.out _ _ ⟨by rw [← i1.out], hG, fun _ _ _ _ _ _ h => h⟩
                · intro kx xs wx hk hG hD hI Qo Kx hK hQo
                  have d10 : (xs 10) = .slice (some ⟨g, 0, none⟩) n c1 := hD 10 rfl
                  have d14 : (xs 14) = .int .i64 (A1 : Nat) := hD 14 rfl
                  clear hD
                  clear hI
                  simp only [patchS, Nat.reduceAdd, Nat.reduceEqDiff, ↓reduceIte] at hQo ⊢
                  generalize xs 10 = y10 at *
                  generalize xs 14 = y14 at *
                  subst d10
                  subst d14
                  go_wp2
                  exact hK.out _ _ ⟨rfl, hG, fun _ _ _ _ _ _ h => h⟩
                · intro kx xs wx hk hG hD hI Qo Kx hK hQo
                  have d15 : (xs 15) = .pointer (some ⟨g, A1, none⟩) := hD 15 rfl
                  clear hD
                  clear hI
                  simp only [patchS, Nat.reduceAdd, Nat.reduceEqDiff, ↓reduceIte] at hQo ⊢
                  generalize xs 15 = y15 at *
                  subst d15
                  have hcx := hc1.out wx hG
                  go_wp2
                  exact hK.out _ _ ⟨rfl, hG, fun _ _ _ _ _ _ h => h⟩
                · intro kx xs wx hk hG hD hI Qo Kx hK hQo
                  clear hD
                  clear hI
                  simp only [patchS, Nat.reduceAdd, Nat.reduceEqDiff, ↓reduceIte] at hQo ⊢
                  go_wp2
                  exact hK.out _ _ ⟨rfl, hG, fun _ _ _ _ _ _ h => h⟩
                · intro kx xs wx hk hG hD hI Qo Kx hK hQo
                  have d17 : (xs 17) = .pointer (some ⟨O, 2, none⟩) := hD 17 rfl
                  clear hD
                  clear hI
                  simp only [patchS, Nat.reduceAdd, Nat.reduceEqDiff, ↓reduceIte] at hQo ⊢
                  generalize xs 17 = y17 at *
                  subst d17
                  obtain ⟨-, k0, k1, k2, -⟩ := bx3 hG.out
                  go_wp2
                  exact hK.out _ _ ⟨rfl, hG, fun _ _ _ _ _ _ h => h⟩
                · intro kx xs wx hk hG hD hI Qo Kx hK hQo
                  clear hD
                  clear hI
                  simp only [patchS, Nat.reduceAdd, Nat.reduceEqDiff, ↓reduceIte] at hQo ⊢
                  go_wp2
                  exact hK.out _ _ ⟨rfl, hG, fun _ _ _ _ _ _ h => h⟩
                · intro kx xs wx hk hG hD hI Qo Kx hK hQo
                  have d18 : (xs 18) = .slice (some ⟨g, 0, none⟩) n c1 := hD 18 rfl
                  have d19 : (xs 19) = .int .i64 (at' : Nat) := hD 19 rfl
                  clear hD
                  clear hI
                  simp only [patchS, Nat.reduceAdd, Nat.reduceEqDiff, ↓reduceIte] at hQo ⊢
                  generalize xs 18 = y18 at *
                  generalize xs 19 = y19 at *
                  subst d18
                  subst d19
                  go_wp2
                  exact hK.out _ _ ⟨rfl, hG, fun _ _ _ _ _ _ h => h⟩
                · intro kx xs wx hk hG hD hI Qo Kx hK hQo
                  have d20 : (xs 20) = .pointer (some ⟨g, at', none⟩) := hD 20 rfl
                  clear hD
                  clear hI
                  simp only [patchS, Nat.reduceAdd, Nat.reduceEqDiff, ↓reduceIte] at hQo ⊢
                  generalize xs 20 = y20 at *
                  subst d20
                  have hcx := hc2.out wx hG
                  go_wp2
                  exact hK.out _ _ ⟨rfl, hG, fun _ _ _ _ _ _ h => h⟩
                · intro kx xs wx hk hG hD hI Qo Kx hK hQo
                  clear hD
                  clear hI
                  simp only [patchS, Nat.reduceAdd, Nat.reduceEqDiff, ↓reduceIte] at hQo ⊢
                  go_wp2
                  exact hK.out _ _ ⟨rfl, hG, fun _ _ _ _ _ _ h => h⟩
                · intro kx xs wx hk hG hD hI Qo Kx hK hQo
                  have d22 : (xs 22) = .pointer (some ⟨O, 2, none⟩) := hD 22 rfl
                  clear hD
                  clear hI
                  simp only [patchS, Nat.reduceAdd, Nat.reduceEqDiff, ↓reduceIte] at hQo ⊢
                  generalize xs 22 = y22 at *
                  subst d22
                  obtain ⟨-, k0, k1, k2, -⟩ := bx3 hG.out
                  go_wp2
                  exact hK.out _ _ ⟨rfl, hG, fun _ _ _ _ _ _ h => h⟩
                · intro kx xs wx hk hG hD hI Qo Kx hK hQo
                  clear hD
                  clear hI
                  simp only [patchS, Nat.reduceAdd, Nat.reduceEqDiff, ↓reduceIte] at hQo ⊢
                  go_wp2
                  exact hK.out _ _ ⟨rfl, hG, fun _ _ _ _ _ _ h => h⟩
                · intro kx xs wx hk hG hD hI Qo Kx hK hQo
                  clear hD
                  clear hI
                  simp only [patchS, Nat.reduceAdd, Nat.reduceEqDiff, ↓reduceIte] at hQo ⊢
                  go_wp2
                  exact hK.out _ _ ⟨rfl, hG, fun _ _ _ _ _ _ h => h⟩
                · intro kx xs wx hk hG hD hI Qo Kx hK hQo
                  have d25 : (xs 25) = .pointer (some ⟨B, 0, none⟩) := hD 25 rfl
                  clear hD
                  clear hI
                  simp only [patchS, Nat.reduceAdd, Nat.reduceEqDiff, ↓reduceIte] at hQo ⊢
                  generalize xs 25 = y25 at *
                  subst d25
                  obtain ⟨-, k0, k1, k2, -⟩ := bx3 hG.box
                  go_wp2
                  exact hK.out _ _ ⟨rfl, hG, fun _ _ _ _ _ _ h => h⟩
                · intro kx xs wx hk hG hD hI Qo Kx hK hQo
                  have d24 : (xs 24) = .int .i64 (at' : Nat) := hD 24 rfl
                  have d26 : (xs 26) = .int .i64 W := hD 26 rfl
                  clear hD
                  clear hI
                  simp only [patchS, Nat.reduceAdd, Nat.reduceEqDiff, ↓reduceIte] at hQo ⊢
                  generalize xs 24 = y24 at *
                  generalize xs 26 = y26 at *
                  subst d24
                  subst d26
                  go_wp2
                  exact hK.out _ _ ⟨by rw [← i3.out], hG, fun _ _ _ _ _ _ h => h⟩
                · intro kx xs wx hk hG hD hI Qo Kx hK hQo
                  have d23 : (xs 23) = .slice (some ⟨g, 0, none⟩) n c1 := hD 23 rfl
                  have d27 : (xs 27) = .int .i64 (A3 : Nat) := hD 27 rfl
                  clear hD
                  clear hI
                  simp only [patchS, Nat.reduceAdd, Nat.reduceEqDiff, ↓reduceIte] at hQo ⊢
                  generalize xs 23 = y23 at *
                  generalize xs 27 = y27 at *
                  subst d23
                  subst d27
                  go_wp2
                  exact hK.out _ _ ⟨rfl, hG, fun _ _ _ _ _ _ h => h⟩
                · intro kx xs wx hk hG hD hI Qo Kx hK hQo
                  have d28 : (xs 28) = .pointer (some ⟨g, A3, none⟩) := hD 28 rfl
                  clear hD
                  clear hI
                  simp only [patchS, Nat.reduceAdd, Nat.reduceEqDiff, ↓reduceIte] at hQo ⊢
                  generalize xs 28 = y28 at *
                  subst d28
                  have hcx := hc3.out wx hG
                  go_wp2
                  exact hK.out _ _ ⟨rfl, hG, fun _ _ _ _ _ _ h => h⟩
                · intro kx xs wx hk hG hD hI Qo Kx hK hQo
                  clear hD
                  clear hI
                  simp only [patchS, Nat.reduceAdd, Nat.reduceEqDiff, ↓reduceIte] at hQo ⊢
                  go_wp2
                  exact hK.out _ _ ⟨rfl, hG, fun _ _ _ _ _ _ h => h⟩
                · intro kx xs wx hk hG hD hI Qo Kx hK hQo
                  have d8 : (xs 8) = .int .i64 v0 := hD 8 rfl
                  have d16 : (xs 16) = .int .i64 v1 := hD 16 rfl
                  have d21 : (xs 21) = .int .i64 v2 := hD 21 rfl
                  have d29 : (xs 29) = .int .i64 v3 := hD 29 rfl
                  have d30 : (xs 30) = .int .i64 L := hD 30 rfl
                  clear hD
                  clear hI
                  simp only [patchS, Nat.reduceAdd, Nat.reduceEqDiff, ↓reduceIte] at hQo ⊢
                  generalize xs 8 = y8 at *
                  generalize xs 16 = y16 at *
                  generalize xs 21 = y21 at *
                  generalize xs 29 = y29 at *
                  generalize xs 30 = y30 at *
                  subst d8
                  subst d16
                  subst d21
                  subst d29
                  subst d30
                  go_wp2_with fail
                  refine (HFE.out _).mono ?_
                  rintro e w7 ⟨rfl, rfl⟩
                  go_wp2
                  exact hK.out _ _ ⟨rfl, hG, fun _ _ _ _ _ _ h => h⟩
                · intro kx xs wx hk hG hD hI Qo Kx hK hQo
                  have d31 : (xs 31) = .tuple #[.int .i64 f1, .int .i64 f2] := hD 31 rfl
                  clear hD
                  clear hI
                  simp only [patchS, Nat.reduceAdd, Nat.reduceEqDiff, ↓reduceIte] at hQo ⊢
                  generalize xs 31 = y31 at *
                  subst d31
                  go_wp2
                  exact hK.out _ _ ⟨rfl, hG, fun _ _ _ _ _ _ h => h⟩
                · intro kx xs wx hk hG hD hI Qo Kx hK hQo
                  have d32 : (xs 32) = .tuple #[.int .i64 f1, .int .i64 f2] := hD 32 rfl
                  clear hD
                  clear hI
                  simp only [patchS, Nat.reduceAdd, Nat.reduceEqDiff, ↓reduceIte] at hQo ⊢
                  generalize xs 32 = y32 at *
                  subst d32
                  go_wp2
                  exact hK.out _ _ ⟨rfl, hG, fun _ _ _ _ _ _ h => h⟩
                · intro kx xs wx hk hG hD hI Qo Kx hK hQo
                  have d32 : (xs 32) = .tuple #[.int .i64 f1, .int .i64 f2] := hD 32 rfl
                  clear hD
                  clear hI
                  simp only [patchS, Nat.reduceAdd, Nat.reduceEqDiff, ↓reduceIte] at hQo ⊢
                  generalize xs 32 = y32 at *
                  subst d32
                  go_wp2
                  exact hK.out _ _ ⟨rfl, hG, fun _ _ _ _ _ _ h => h⟩
                · intro kx xs wx hk hG hD hI Qo Kx hK hQo
                  have d33 : (xs 33) = .int .i64 f1 := hD 33 rfl
                  clear hD
                  clear hI
                  simp only [patchS, Nat.reduceAdd, Nat.reduceEqDiff, ↓reduceIte] at hQo ⊢
                  generalize xs 33 = y33 at *
                  subst d33
                  go_wp2
                  exact hK.out _ _ ⟨rfl, hG, fun _ _ _ _ _ _ h => h⟩
                · intro kx xs wx hk hG hD hI Qo Kx hK hQo
                  have d34 : (xs 34) = .int .i64 f2 := hD 34 rfl
                  clear hD
                  clear hI
                  simp only [patchS, Nat.reduceAdd, Nat.reduceEqDiff, ↓reduceIte] at hQo ⊢
                  generalize xs 34 = y34 at *
                  subst d34
                  go_wp2
                  exact hK.out _ _ ⟨rfl, hG, fun _ _ _ _ _ _ h => h⟩
              intro xs wx hV hG
              have d0 : (xs 0) = .pointer (some ⟨O, 2, none⟩) := hV 0 (by decide)
              have d1 : (xs 1) = .slice (some ⟨g, 0, none⟩) n c1 := hV 1 (by decide)
              have d2 : (xs 2) = .int .i64 (at' : Nat) := hV 2 (by decide)
              have d3 : (xs 3) = .pointer (some ⟨B, 0, none⟩) := hV 3 (by decide)
              have d4 : (xs 4) = .int .i64 W := hV 4 (by decide)
              have d5 : (xs 5) = .int .i64 (2 * (W : Int)) := hV 5 (by decide)
              have d6 : (xs 6) = .int .i64 (A0 : Nat) := hV 6 (by decide)
              have d7 : (xs 7) = .pointer (some ⟨g, A0, none⟩) := hV 7 (by decide)
              have d8 : (xs 8) = .int .i64 v0 := hV 8 (by decide)
              have d9 : (xs 9) = .pointer (some ⟨O, 2, none⟩) := hV 9 (by decide)
              have d10 : (xs 10) = .slice (some ⟨g, 0, none⟩) n c1 := hV 10 (by decide)
              have d11 : (xs 11) = .int .i64 (at' : Nat) := hV 11 (by decide)
              have d12 : (xs 12) = .pointer (some ⟨B, 0, none⟩) := hV 12 (by decide)
              have d13 : (xs 13) = .int .i64 W := hV 13 (by decide)
              have d14 : (xs 14) = .int .i64 (A1 : Nat) := hV 14 (by decide)
              have d15 : (xs 15) = .pointer (some ⟨g, A1, none⟩) := hV 15 (by decide)
              have d16 : (xs 16) = .int .i64 v1 := hV 16 (by decide)
              have d17 : (xs 17) = .pointer (some ⟨O, 2, none⟩) := hV 17 (by decide)
              have d18 : (xs 18) = .slice (some ⟨g, 0, none⟩) n c1 := hV 18 (by decide)
              have d19 : (xs 19) = .int .i64 (at' : Nat) := hV 19 (by decide)
              have d20 : (xs 20) = .pointer (some ⟨g, at', none⟩) := hV 20 (by decide)
              have d21 : (xs 21) = .int .i64 v2 := hV 21 (by decide)
              have d22 : (xs 22) = .pointer (some ⟨O, 2, none⟩) := hV 22 (by decide)
              have d23 : (xs 23) = .slice (some ⟨g, 0, none⟩) n c1 := hV 23 (by decide)
              have d24 : (xs 24) = .int .i64 (at' : Nat) := hV 24 (by decide)
              have d25 : (xs 25) = .pointer (some ⟨B, 0, none⟩) := hV 25 (by decide)
              have d26 : (xs 26) = .int .i64 W := hV 26 (by decide)
              have d27 : (xs 27) = .int .i64 (A3 : Nat) := hV 27 (by decide)
              have d28 : (xs 28) = .pointer (some ⟨g, A3, none⟩) := hV 28 (by decide)
              have d29 : (xs 29) = .int .i64 v3 := hV 29 (by decide)
              have d30 : (xs 30) = .int .i64 L := hV 30 (by decide)
              have d31 : (xs 31) = .tuple #[.int .i64 f1, .int .i64 f2] := hV 31 (by decide)
              have d32 : (xs 32) = .tuple #[.int .i64 f1, .int .i64 f2] := hV 32 (by decide)
              have d33 : (xs 33) = .int .i64 f1 := hV 33 (by decide)
              have d34 : (xs 34) = .int .i64 f2 := hV 34 (by decide)
              have d35 : (xs 35) = .int .i64 f1 := hV 35 (by decide)
              have d36 : (xs 36) = .int .i64 f2 := hV 36 (by decide)
              clear hV
              simp only [patchS, Nat.reduceAdd, Nat.reduceEqDiff, ↓reduceIte]
              generalize xs 0 = y0 at *
              generalize xs 1 = y1 at *
              generalize xs 2 = y2 at *
              generalize xs 3 = y3 at *
              generalize xs 4 = y4 at *
              generalize xs 5 = y5 at *
              generalize xs 6 = y6 at *
              generalize xs 7 = y7 at *
              generalize xs 8 = y8 at *
              generalize xs 9 = y9 at *
              generalize xs 10 = y10 at *
              generalize xs 11 = y11 at *
              generalize xs 12 = y12 at *
              generalize xs 13 = y13 at *
              generalize xs 14 = y14 at *
              generalize xs 15 = y15 at *
              generalize xs 16 = y16 at *
              generalize xs 17 = y17 at *
              generalize xs 18 = y18 at *
              generalize xs 19 = y19 at *
              generalize xs 20 = y20 at *
              generalize xs 21 = y21 at *
              generalize xs 22 = y22 at *
              generalize xs 23 = y23 at *
              generalize xs 24 = y24 at *
              generalize xs 25 = y25 at *
              generalize xs 26 = y26 at *
              generalize xs 27 = y27 at *
              generalize xs 28 = y28 at *
              generalize xs 29 = y29 at *
              generalize xs 30 = y30 at *
              generalize xs 31 = y31 at *
              generalize xs 32 = y32 at *
              generalize xs 33 = y33 at *
              generalize xs 34 = y34 at *
              generalize xs 35 = y35 at *
              generalize xs 36 = y36 at *
              replace hG : DB w B O g W H n c c1 a Z wx := hG
              clear d0 d1 d2 d3 d4 d5 d6 d7 d8 d9 d10 d11 d12 d13 d14 d15 d16 d17 d18 d19 d20 d21 d22 d23 d24 d25 d26 d27 d28 d29 d30 d31 d32 d33 d34
              subst d35
              subst d36
              have k1 := hc1.out wx hG
              rw [HA1.out] at k1 HdbS
              have k2 := hG.frozen (at' - W)
              obtain ⟨-, b0, b1, b2, -⟩ := bx3 hG.box
              obtain ⟨-, o0, o1, o2, -⟩ := bx3 hG.out
              clear D3
              go_upto_region 22 with fail
              have D4 := hG.set (at' - W) f1
              generalize wx.setCell ⟨g, at' - W, none⟩ (.int .i64 f1) = w4 at *
              clear hG k1 k2 b0 b1 b2 o0 o1 o2
              have k1 := D4.cell (i := at') (by omega)
              have k2 := D4.frozen at'
              obtain ⟨-, b0, b1, b2, -⟩ := bx3 D4.box
              obtain ⟨-, o0, o1, o2, -⟩ := bx3 D4.out
              have D5 := D4.set at' f2
              rw [← HdbS.out, ← Hnew.out] at D5
              rw [← Hnew.out] at S4
              go_wp2
              go_roundw
              case rel => exact ⟨j + 1, by omega, by rw [HX.out]; go_num, S4, D5⟩
              case measure => have := HX.out; simp [intOf]; omega
            · obtain rfl : nH = j := by omega
              have hX4 := HH4.out
              have hdj : decide (4 * (nH + 1) < H) = false := by simp; omega
              obtain ⟨X, hX⟩ : ∃ X, X = 4 * (nH + 1) := ⟨_, rfl⟩
              rw [← hX] at hdj ⊢
              clear hX hX4
              go_wp2
              go_roundw
              case rel => exact ⟨u + 1, by omega, by go_num, by simpa [colsE, List.append_assoc] using S3, by simpa [colsE, List.append_assoc] using D3⟩
              case measure => simp [intOf]; omega
        · obtain rfl : W = u := by omega
          have hdu : decide (W < W) = false := by simp
          obtain ⟨-, r0, r1, r2, f0, f1, f2⟩ := bx3 D2.res
          obtain ⟨-, o0, o1, o2, -⟩ := bx3 D2.out
          have HF := Lib.hid (show edgesL W H = rowsE W nW H ++ colsE W nH W by rw [HnW.out, HnH.out]; rfl)
          have hg1 := D2.gB
          have hw1 := D2.wB
          have hres := blk_set3 (x' := .int .i64 W) (y' := .int .i64 H) (z' := .slice (some ⟨g, 0, none⟩) n c1) D2.res
          have hown := own_gr (own_gr (own_gr D2.own (gr_set _ (B + 1) 0 (.int .i64 W)) (by omega)) (gr_set _ (B + 1) 1 (.int .i64 H)) (by omega)) (gr_set _ (B + 1) 2 (.slice (some ⟨g, 0, none⟩) n c1)) (by omega)
          have hext := Ext.grown (Ext.grown (Ext.grown D2.ext (gr_set _ (B + 1) 0 (.int .i64 W)) (fun k e => by cases e; omega)) (gr_set _ (B + 1) 1 (.int .i64 H)) (fun k e => by cases e; omega)) (gr_set _ (B + 1) 2 (.slice (some ⟨g, 0, none⟩) n c1)) (fun k e => by cases e; omega)
          rw [← HF.out] at hown
          go_wp2
          exact bodyPost_ret (v := .agg #[.int .i64 W, .int .i64 H, .slice (some ⟨g, 0, none⟩) n c1]) (results_cell_row rfl _ _ (B + 1) 46 #[.int .i64 W, .int .i64 H, .slice (some ⟨g, 0, none⟩) n c1] (0, 0) _ rfl hres Tryd.underlying46 rfl size_Picture) rfl ⟨_, _, rfl, owns_mono hown (by omega), hext⟩
  -- ENDLOOPS
end Go.Proofs.YtlmoeabchiddnaaDoor
