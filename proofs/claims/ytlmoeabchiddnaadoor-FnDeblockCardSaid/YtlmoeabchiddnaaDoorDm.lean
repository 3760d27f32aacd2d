/- Drawing: vectors, blocks. -/
import Derived.Test.YtlmoeabchiddnaaDoorD3
import Derived.Test.YtlmoeabchiddnaaDoorMt
import Derived.Deep.Cut
namespace Go.Proofs.YtlmoeabchiddnaaDoor
open Go.RowKit
set_option maxHeartbeats 1000000
/-- Integers within bounds. -/
def bdI (B : Int) (zs : List Int) : Prop := ∀ j, j < zs.length → -B ≤ nth zs j ∧ nth zs j ≤ B
theorem bdI_zero (B : Int) (n : Nat) (h : 0 ≤ B) : bdI B (List.replicate n 0) := by
  intro j hj
  have hj' : j < n := by simpa using hj
  have : nth (List.replicate n 0) j = 0 := by simp [nth, hj']
  omega
theorem bdI_set {B : Int} {zs : List Int} {i : Nat} {v : Int} (h : bdI B zs) (h1 : -B ≤ v) (h2 : v ≤ B) : bdI B (zs.set i v) := by
  intro j hj
  rw [List.length_set] at hj
  by_cases hij : i = j
  · subst hij; rw [nth_set_same _ _ _ hj]; omega
  · rw [nth_set_ne _ _ _ _ hij]; exact h j hj
theorem bdI_mono {B B' : Int} {zs : List Int} (h : bdI B zs) (hb : B ≤ B') : bdI B' zs := fun j hj => by have := h j hj; omega
theorem bdI_spl {B : Int} {zs ys : List Int} {off : Nat} (h : bdI B zs) (hy : bdI B ys) (hl : off + ys.length ≤ zs.length) : bdI B (spl zs off ys) := by
  intro j hj
  rw [spl_len hl] at hj
  by_cases h1 : off ≤ j ∧ j < off + ys.length
  · rw [nth_spl_in hl h1.1 h1.2]; exact hy _ (by omega)
  · rw [nth_spl_out hl (by omega)]; exact h j hj
/-- Block q holds n integers within bounds. -/
def IQ (B : Int) (w : World) (q T n : Nat) : Prop := ∃ zs, IB w q T zs ∧ zs.length = n ∧ bdI B zs
theorem IQ.gr {B : Int} {w w' : World} {q T n b : Nat} (h : IQ B w q T n) (g : w.grownBy w' (some b)) (hne : q ≠ b) : IQ B w' q T n := by
  obtain ⟨zs, h1, h2, h3⟩ := h
  exact ⟨zs, h1.gr g (by simp; omega), h2, h3⟩
theorem IQ.ext {B : Int} {w w' : World} {q T n : Nat} (h : IQ B w q T n) (e : Ext w w') : IQ B w' q T n := by
  obtain ⟨zs, h1, h2, h3⟩ := h
  exact ⟨zs, h1.ext e, h2, h3⟩
theorem IQ.set {B : Int} {w : World} {q T n : Nat} (h : IQ B w q T n) (i : Nat) (v : Int) (h1 : -B ≤ v) (h2 : v ≤ B) : IQ B (w.setCell ⟨q, i, none⟩ (.int .i64 v)) q T n := by
  obtain ⟨zs, k1, k2, k3⟩ := h
  exact ⟨zs.set i v, k1.set i v, by simpa using k2, bdI_set k3 h1 h2⟩
theorem IQ.cell {B : Int} {w : World} {q T n : Nat} (h : IQ B w q T n) {i : Nat} (hi : i < n) : ∃ v : Int, w.cell? ⟨q, i, none⟩ = some (.int .i64 v) ∧ w.frozen? ⟨q, i, none⟩ = false ∧ -B ≤ v ∧ v ≤ B := by
  obtain ⟨zs, k1, rfl, k3⟩ := h
  exact ⟨_, k1.cell hi, k1.frozen i, k3 i hi⟩
theorem IQ.lt {B : Int} {w : World} {q T n : Nat} (h : IQ B w q T n) : q < w.heap.size := by
  obtain ⟨zs, k1, -⟩ := h; exact k1.lt
theorem IQ.set_other {B : Int} {w : World} {q c i T n : Nat} {v : Value} (h : IQ B w q T n) (hne : q ≠ c) : IQ B (w.setCell ⟨c, i, none⟩ v) q T n := by
  obtain ⟨zs, k1, k2, k3⟩ := h
  exact ⟨zs, k1.set_other hne, k2, k3⟩
theorem gset {w wx : World} {r : Option Nat} {q j : Nat} {v : Value} (g : w.grownBy wx r) (hq : w.heap.size ≤ q) : w.grownBy (wx.setCell ⟨q, j, none⟩ v) r := grown_set g hq
theorem size_Vec : (Tryd.prog.info? 31).map (·.size) = some 2 := by kernel_rfl
theorem zero_Vec : (Tryd.prog.info? 31).map (·.zero) = some (some (.agg (ic (List.replicate 2 0)))) := by kernel_rfl
set_option maxRecDepth 100000 in
theorem l20Vector_c (b P : Nat) (n : Int) (w : World) (h : RdP w b P) (hp : P < 2^38) (hn0 : 0 ≤ n) (hn : n ≤ 1000000) :
    Calls Tryd.prog 102 #[.pointer (some ⟨b, 0, none⟩), .int .i64 n] w fun e w' => ∃ x y : Int, e = .returned (.agg #[.int .i64 x, .int .i64 y]) ∧ -100 ≤ x ∧ x ≤ 100 ∧ -100 ≤ y ∧ y ≤ 100 ∧ RdP w' b (P + 10) ∧ w.grownBy w' (some b) := by
  have hblt := h.lt
  have hbw : b < w.heap.size := h.lt
  go_enter Tryd.func102, Tryd.ntmps102
  have E1 : Ext w (w.alloc (.cells #[.int .i64 0, .int .i64 0] 31)) := Ext.alloc w _
  have R1 := blk_new w (.cells #[.int .i64 0, .int .i64 0] 31)
  go_wp2_with fail
  refine (pick_c b P 13 _ (h.ext E1) (by omega) (by omega) (by omega)).mono ?_
  rintro e w1 ⟨x1, rfl, x1a, x1b, r1, g1⟩
  have D1 : DG w b (P + 1) 0 0 w1 := ⟨grown_trans (ext_gr E1) g1, by simpa using r1⟩
  have R2 := gr_blk g1 R1 (by omega)
  clear E1 R1 h r1 g1
  go_wp2_with fail
  refine (pick_c b _ 13 _ D1.2 (by omega) (by omega) (by omega)).mono ?_
  rintro e w2 ⟨x2, rfl, x2a, x2b, r2, g2⟩
  have R3 := gr_blk g2 R2 (by omega)
  have e3 := Ext.alloc w2 (.cells #[.int .i64 (x1 - 6), .int .i64 (x2 - 6)] 31)
  have D3 : DG w b (P + 2) 0 0 (w2.alloc (.cells #[.int .i64 (x1 - 6), .int .i64 (x2 - 6)] 31)) := ⟨grown_ext (grown_trans D1.1 g2) e3, (r2.ext e3).mono (by omega)⟩
  have R4 := blk_alloc R3 (.cells #[.int .i64 (x1 - 6), .int .i64 (x2 - 6)] 31)
  have hs2 : w.heap.size < w2.heap.size := lt_of_block R3
  obtain ⟨q, hq⟩ : ∃ q, q = w2.heap.size := ⟨_, rfl⟩
  have V4 := blk_new w2 (.cells #[.int .i64 (x1 - 6), .int .i64 (x2 - 6)] 31)
  rw [← hq] at hs2 V4
  clear D1 R2 R3 r2 g2 e3
  go_wp2_with fail
  rw [← hq]
  clear hq
  generalize w2.alloc (.cells #[.int .i64 (x1 - 6), .int .i64 (x2 - 6)] 31) = w3 at *
  refine (pick_c b _ 4 _ D3.2 (by omega) (by omega) (by omega)).mono ?_
  rintro e w4 ⟨x4, rfl, x4a, x4b, r4, g4⟩
  have D4 : DG w b (P + 3) 0 0 w4 := ⟨grown_trans D3.1 g4, r4.mono (by omega)⟩
  have R5 := gr_blk g4 R4 (by omega)
  have V5 := gr_blk g4 V4 (by omega)
  clear D3 R4 V4 r4 g4
  have Q5 : IQ 100 w4 q 31 2 := ⟨[x1 - 6, x2 - 6], V5, rfl, by
    intro j hj
    match j, hj with
    | 0, _ => show -100 ≤ x1 - 6 ∧ x1 - 6 ≤ 100; omega
    | 1, _ => show -100 ≤ x2 - 6 ∧ x2 - 6 ≤ 100; omega⟩
  clear V5 x1a x1b x2a x2b
  have hqw : w.heap.size < q := hs2
  have hqb : b < q := by omega
  go_upto_if 15 with (fail)
  go_cut [5] from 6 (fun p wz => p = .pointer (some ⟨q, 0, none⟩) ∧ DG w b (P + 5) 0 0 wz ∧ IQ 100 wz q 31 2 ∧ wz.heap[w.heap.size]? = some (.cells #[.int .i64 0, .int .i64 0] 31 (0, 0)))
  case first =>
    by_cases hx : x4 = 0
    · subst hx
      go_wp2_with fail
      refine (pick_c b _ 33 _ D4.2 (by omega) (by omega) (by omega)).mono ?_
      rintro e w5 ⟨y1, rfl, y1a, y1b, r5, g5⟩
      have D5 : DG w b (P + 4) 0 0 w5 := ⟨grown_trans D4.1 g5, r5.mono (by omega)⟩
      have R6 := gr_blk g5 R5 (by omega)
      have Q6 := Q5.gr g5 (by omega)
      clear D4 R5 Q5 r5 g5
      go_wp2_with fail
      refine (pick_c b _ 33 _ D5.2 (by omega) (by omega) (by omega)).mono ?_
      rintro e w6 ⟨y2, rfl, y2a, y2b, r6, g6⟩
      have D6 : DG w b (P + 5) 0 0 w6 := ⟨grown_trans D5.1 g6, r6.mono (by omega)⟩
      have R7 := gr_blk g6 R6 (by omega)
      have Q7 := Q6.gr g6 (by omega)
      clear D5 R6 Q6 r6 g6
      obtain ⟨u0, c0, f0, -⟩ := Q7.cell (i := 0) (by omega)
      obtain ⟨u1, c1, f1, -⟩ := Q7.cell (i := 1) (by omega)
      go_wp2
      go_meet
      case rel => exact ⟨rfl, (D6.set (by omega) hqb).set (by omega) hqb, (Q7.set 0 _ (by omega) (by omega)).set 1 _ (by omega) (by omega), blk_set_other (blk_set_other R7 (by omega)) (by omega)⟩
    · have hd : (x4 == 0) = false := by simpa using hx
      go_wp2
      go_meet
      case rel => exact ⟨rfl, ⟨D4.1, D4.2.mono (by omega)⟩, Q5, R5⟩
  case rest =>
    obtain ⟨rfl, D6, Q6, R6⟩ := hcut
    clear D4 Q5 R5
    have fin : ∀ (wz : World), DG w b (P + 10) 0 0 wz → IQ 100 wz q 31 2 → ∃ x y : Int, wz.cell? ⟨q, 0, none⟩ = some (.int .i64 x) ∧ wz.cell? ⟨q, 1, none⟩ = some (.int .i64 y) ∧ -100 ≤ x ∧ x ≤ 100 ∧ -100 ≤ y ∧ y ≤ 100 := fun wz _ hq => by
      obtain ⟨u, u1, -, u2, u3⟩ := hq.cell (i := 0) (by omega)
      obtain ⟨v, v1, -, v2, v3⟩ := hq.cell (i := 1) (by omega)
      exact ⟨u, v, u1, v1, u2, u3, v2, v3⟩
    have Fin := Lib.hid fin
    clear fin
    by_cases hn1 : n = 0
    · subst hn1
      have D7 : DG w b (P + 10) 0 0 wc := ⟨D6.1, D6.2.mono (by omega)⟩
      go_wp2_with fail
      refine (odd_0 b 0 _ (by omega)).mono ?_
      rintro e w7 ⟨rfl, rfl⟩
      obtain ⟨x, y, cx, cy, lx1, lx2, ly1, ly2⟩ := Fin.out wc D7 Q6
      obtain ⟨-, z0, z1, zf0, zf1⟩ := bx2 R6
      go_wp2
      exact bodyPost_ret (v := .agg #[.int .i64 x, .int .i64 y]) (results_cell_row rfl _ _ w.heap.size 31 #[.int .i64 x, .int .i64 y] (0, 0) _ rfl (blk_set2 R6) Tryd.underlying31 rfl size_Vector) rfl ⟨x, y, rfl, lx1, lx2, ly1, ly2, (D7 : DG w b (P + 10) 0 0 wc).2.set hbw |>.set hbw, gset (gset (D7 : DG w b (P + 10) 0 0 wc).1 (Nat.le_refl _)) (Nat.le_refl _)⟩
    · go_wp2_with fail
      refine (odd_c b _ n _ D6.2 (by omega) (by omega) (by omega)).mono ?_
      rintro e w7 ⟨x7, rfl, r7, g7⟩
      have D7 : DG w b (P + 6) 0 0 w7 := ⟨grown_trans D6.1 g7, r7.mono (by omega)⟩
      have R7 := gr_blk g7 R6 (by omega)
      have Q7 := Q6.gr g7 (by omega)
      clear D6 R6 Q6 r7 g7
      cases x7
      · have D9 : DG w b (P + 10) 0 0 w7 := ⟨D7.1, D7.2.mono (by omega)⟩
        obtain ⟨x, y, cx, cy, lx1, lx2, ly1, ly2⟩ := Fin.out w7 D9 Q7
        obtain ⟨-, z0, z1, zf0, zf1⟩ := bx2 R7
        go_wp2
        exact bodyPost_ret (v := .agg #[.int .i64 x, .int .i64 y]) (results_cell_row rfl _ _ w.heap.size 31 #[.int .i64 x, .int .i64 y] (0, 0) _ rfl (blk_set2 R7) Tryd.underlying31 rfl size_Vector) rfl ⟨x, y, rfl, lx1, lx2, ly1, ly2, (D9 : DG w b (P + 10) 0 0 w7).2.set hbw |>.set hbw, gset (gset (D9 : DG w b (P + 10) 0 0 w7).1 (Nat.le_refl _)) (Nat.le_refl _)⟩
      · have e8 := Ext.alloc w7 (.cells #[.int .i64 17, .int .i64 (-17)] 3)
        have S8 := blk_new w7 (.cells #[.int .i64 17, .int .i64 (-17)] 3)
        have R8 := e8.blk R7
        have Q8 := Q7.ext e8
        have D8 : DG w b (P + 6) 0 0 (w7.alloc (.cells #[.int .i64 17, .int .i64 (-17)] 3)) := ⟨grown_ext D7.1 e8, D7.2.ext e8⟩
        have h7b := D7.2.lt
        clear D7 R7 Q7 e8
        go_wp2_with fail
        refine (pick_c b _ 2 _ D8.2 (by omega) (by omega) (by omega)).mono ?_
        rintro e w9 ⟨y9, rfl, y9a, y9b, r9, g9⟩
        have D9 : DG w b (P + 7) 0 0 w9 := ⟨grown_trans D8.1 g9, r9.mono (by omega)⟩
        have R9 := gr_blk g9 R8 (by omega)
        have Q9 := Q8.gr g9 (by omega)
        have S9 := gr_blk g9 S8 (by omega)
        clear D8 R8 Q8 S8 r9 g9
        obtain ⟨-, s0, s1, -, -⟩ := bx2 S9
        obtain ⟨u0, c0, f0, -⟩ := Q9.cell (i := 0) (by omega)
        obtain ⟨u1, c1, f1, l1⟩ := Q9.cell (i := 1) (by omega)
        obtain ⟨-, z0, z1, zf0, zf1⟩ := bx2 R9
        obtain rfl | rfl : y9 = 0 ∨ y9 = 1 := by omega
        · have D10 : DG w b (P + 10) 0 0 (w9.setCell ⟨q, 0, none⟩ (.int .i64 17)) := ⟨(D9.set (by omega) hqb).1, (D9.set (by omega) hqb).2.mono (by omega)⟩
          have Q10 := Q9.set 0 17 (by omega) (by omega)
          have R10 : (w9.setCell ⟨q, 0, none⟩ (.int .i64 17)).heap[w.heap.size]? = _ := blk_set_other R9 (by omega)
          go_upto_region 6 with (fail)
          generalize w9.setCell ⟨q, 0, none⟩ (.int .i64 17) = w10 at *
          clear z0 z1 zf0 zf1 c0 f0 c1 f1 s0 s1
          obtain ⟨x, y, cx, cy, lx1, lx2, ly1, ly2⟩ := Fin.out w10 D10 Q10
          obtain ⟨-, z0, z1, zf0, zf1⟩ := bx2 R10
          go_wp2
          exact bodyPost_ret (v := .agg #[.int .i64 x, .int .i64 y]) (results_cell_row rfl _ _ w.heap.size 31 #[.int .i64 x, .int .i64 y] (0, 0) _ rfl (blk_set2 R10) Tryd.underlying31 rfl size_Vector) rfl ⟨x, y, rfl, lx1, lx2, ly1, ly2, (D10 : DG w b (P + 10) 0 0 w10).2.set hbw |>.set hbw, gset (gset (D10 : DG w b (P + 10) 0 0 w10).1 (Nat.le_refl _)) (Nat.le_refl _)⟩
        · have D10 : DG w b (P + 10) 0 0 (w9.setCell ⟨q, 0, none⟩ (.int .i64 (-17))) := ⟨(D9.set (by omega) hqb).1, (D9.set (by omega) hqb).2.mono (by omega)⟩
          have Q10 := Q9.set 0 (-17) (by omega) (by omega)
          have R10 : (w9.setCell ⟨q, 0, none⟩ (.int .i64 (-17))).heap[w.heap.size]? = _ := blk_set_other R9 (by omega)
          go_upto_region 6 with (fail)
          generalize w9.setCell ⟨q, 0, none⟩ (.int .i64 (-17)) = w10 at *
          clear z0 z1 zf0 zf1 c0 f0 c1 f1 s0 s1
          obtain ⟨x, y, cx, cy, lx1, lx2, ly1, ly2⟩ := Fin.out w10 D10 Q10
          obtain ⟨-, z0, z1, zf0, zf1⟩ := bx2 R10
          go_wp2
          exact bodyPost_ret (v := .agg #[.int .i64 x, .int .i64 y]) (results_cell_row rfl _ _ w.heap.size 31 #[.int .i64 x, .int .i64 y] (0, 0) _ rfl (blk_set2 R10) Tryd.underlying31 rfl size_Vector) rfl ⟨x, y, rfl, lx1, lx2, ly1, ly2, (D10 : DG w b (P + 10) 0 0 w10).2.set hbw |>.set hbw, gset (gset (D10 : DG w b (P + 10) 0 0 w10).1 (Nat.le_refl _)) (Nat.le_refl _)⟩
end Go.Proofs.YtlmoeabchiddnaaDoor
