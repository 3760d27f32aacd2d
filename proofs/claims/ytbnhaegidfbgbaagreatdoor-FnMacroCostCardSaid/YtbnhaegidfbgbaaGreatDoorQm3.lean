/- Copies of macroblocks. | Drawing: vectors, blocks. | Drawing: blocks of levels. | Drawing: macroblocks. -/
import Derived.Test.YtbnhaegidfbgbaaGreatDoorQm2
import Derived.Deep.Cut
import Derived.Deep.CutRange
set_option linter.unusedVariables false
set_option linter.unusedSimpArgs false
namespace Go.Proofs.YtbnhaegidfbgbaaGreatDoor
open Go.RowKit
set_option maxHeartbeats 400000
/-- The first k of xs, behind them what ys has. -/
def mixI (xs ys : List Int) (k : Nat) : List Int := xs.take k ++ ys.drop k
theorem mixI_zero (xs ys : List Int) : mixI xs ys 0 = ys := by simp [mixI]
theorem mixI_len (xs ys : List Int) (k n : Nat) (h1 : xs.length = n) (h2 : ys.length = n) : (mixI xs ys k).length = n := by simp [mixI]; omega
theorem mixI_all (xs ys : List Int) (n : Nat) (h1 : xs.length = n) (h2 : ys.length = n) : mixI xs ys n = xs := by
 unfold mixI
 rw [List.take_of_length_le (by omega), List.drop_of_length_le (by omega), List.append_nil]
theorem mixI_set (xs ys : List Int) (k n : Nat) (h1 : xs.length = n) (h2 : ys.length = n) (h : k < n) : (mixI xs ys k).set k (nth xs k) = mixI xs ys (k + 1) := by
 have hl : (xs.take k).length = k := by simp; omega
 have hk' : k < ys.length := by omega
 have hk : k < xs.length := by omega
 unfold mixI
 rw [List.drop_eq_getElem_cons hk', List.set_append_right _ _ (by omega), hl, Nat.sub_self, List.set_cons_zero, List.take_succ_eq_append_getElem hk, nth_eq _ _ hk, List.append_assoc]
 rfl
theorem blk_set2 {w : World} {b : Nat} {x y x' y' : Value} {T : TypeId} (h : w.heap[b]? = some (.cells #[x, y] T (0, 0))) : ((w.setCell ⟨b, 0, none⟩ x').setCell ⟨b, 1, none⟩ y').heap[b]? = some (.cells #[x', y'] T (0, 0)) := by
 have h1 := heap_setCell_same w b 0 _ _ x' h
 have h2 := heap_setCell_same _ b 1 _ _ y' h1
 simpa using h2
end Go.Proofs.YtbnhaegidfbgbaaGreatDoor
namespace Go.Proofs.YtbnhaegidfbgbaaGreatDoor
open Go.RowKit
set_option maxHeartbeats 1000000
/-- Integers within bounds. -/
def bdI (B : Int) (zs : List Int) : Prop := ∀ j, j < zs.length → -B ≤ nth zs j ∧ nth zs j ≤ B
theorem bdI_zero (B : Int) (n : Nat) (h : 0 ≤ B) : bdI B (List.replicate n 0) := by
 intro j hj
 have hj' : j < n := by simpa using hj
 have : nth (List.replicate n 0) j = 0 := by simp [nth, hj']
 omega
theorem bdI_set {B : Int} {zs : List Int} {i : Nat} {v : Int} (h : bdI B zs) (h1 : -B ≤ v) (h2 : v ≤ B) : bdI B (zs.set i v) := by
 intro j hj
 rw [List.length_set] at hj
 by_cases hij : i = j
 ·subst hij; rw [nth_set_same _ _ _ hj]; omega
 ·rw [nth_set_ne _ _ _ _ hij]; exact h j hj
theorem bdI_spl {B : Int} {zs ys : List Int} {off : Nat} (h : bdI B zs) (hy : bdI B ys) (hl : off + ys.length ≤ zs.length) : bdI B (spl zs off ys) := by
 intro j hj
 rw [spl_len hl] at hj
 by_cases h1 : off ≤ j ∧ j < off + ys.length
 ·rw [nth_spl_in hl h1.1 h1.2]; exact hy _ (by omega)
 ·rw [nth_spl_out hl (by omega)]; exact h j hj
/-- Block q holds n integers within bounds. -/
def IQ (B : Int) (w : World) (q T n : Nat) : Prop := ∃ zs, IB w q T zs ∧ zs.length = n ∧ bdI B zs
theorem IQ.gr {B : Int} {w w' : World} {q T n b : Nat} (h : IQ B w q T n) (g : w.grownBy w' (some b)) (hne : q ≠ b) : IQ B w' q T n := by
 obtain ⟨zs, h1, h2, h3⟩ := h
 exact ⟨zs, h1.gr g (by simp; omega), h2, h3⟩
theorem IQ.ext {B : Int} {w w' : World} {q T n : Nat} (h : IQ B w q T n) (e : Ext w w') : IQ B w' q T n := by
 obtain ⟨zs, h1, h2, h3⟩ := h
 exact ⟨zs, h1.ext e, h2, h3⟩
theorem IQ.set {B : Int} {w : World} {q T n : Nat} (h : IQ B w q T n) (i : Nat) (v : Int) (h1 : -B ≤ v) (h2 : v ≤ B) : IQ B (w.setCell ⟨q, i, none⟩ (.int .i64 v)) q T n := by
 obtain ⟨zs, k1, k2, k3⟩ := h
 exact ⟨zs.set i v, k1.set i v, by simpa using k2, bdI_set k3 h1 h2⟩
theorem IQ.cell {B : Int} {w : World} {q T n : Nat} (h : IQ B w q T n) {i : Nat} (hi : i < n) : ∃ v : Int, w.cell? ⟨q, i, none⟩ = some (.int .i64 v) ∧ w.frozen? ⟨q, i, none⟩ = false ∧ -B ≤ v ∧ v ≤ B := by
 obtain ⟨zs, k1, rfl, k3⟩ := h
 exact ⟨_, k1.cell hi, k1.frozen i, k3 i hi⟩
theorem IQ.lt {B : Int} {w : World} {q T n : Nat} (h : IQ B w q T n) : q < w.heap.size := by
 obtain ⟨zs, k1, -⟩ := h; exact k1.lt
theorem IQ.set_other {B : Int} {w : World} {q c i T n : Nat} {v : Value} (h : IQ B w q T n) (hne : q ≠ c) : IQ B (w.setCell ⟨c, i, none⟩ v) q T n := by
 obtain ⟨zs, k1, k2, k3⟩ := h
 exact ⟨zs, k1.set_other hne, k2, k3⟩
theorem gset {w wx : World} {r : Option Nat} {q j : Nat} {v : Value} (g : w.grownBy wx r) (hq : w.heap.size ≤ q) : w.grownBy (wx.setCell ⟨q, j, none⟩ v) r := grown_set g hq
set_option maxRecDepth 100000 in
theorem l20Vector_c (b P : Nat) (n : Int) (w : World) (h : RdP w b P) (hp : P < 2^38) (hn0 : 0 ≤ n) (hn : n ≤ 1000000) :
 Calls Tryz.prog 91 #[.pointer (some ⟨b, 0, none⟩), .int .i64 n] w fun e w' => ∃ x y : Int, e = .returned (.agg #[.int .i64 x, .int .i64 y]) ∧ -100 ≤ x ∧ x ≤ 100 ∧ -100 ≤ y ∧ y ≤ 100 ∧ RdP w' b (P + 10) ∧ w.grownBy w' (some b) := by
 have hblt := h.lt
 have hbw : b < w.heap.size := h.lt
 go_enter Tryz.func91, Tryz.ntmps91
 have E1 : Ext w (w.alloc (.cells #[.int .i64 0, .int .i64 0] 27)) := Ext.alloc w _
 have R1 := blk_new w (.cells #[.int .i64 0, .int .i64 0] 27)
 go_wp2_with fail
 refine (pick_c b P 13 _ (h.ext E1) (by omega) (by omega) (by omega)).mono ?_
 rintro e w1 ⟨x1, rfl, x1a, x1b, r1, g1⟩
 have D1 : DG w b (P + 1) 0 0 w1 := ⟨grown_trans (ext_gr E1) g1, by simpa using r1⟩
 have R2 := gr_blk g1 R1 (by omega)
 clear E1 R1 h r1 g1
 go_wp2_with fail
 refine (pick_c b _ 13 _ D1.2 (by omega) (by omega) (by omega)).mono ?_
 rintro e w2 ⟨x2, rfl, x2a, x2b, r2, g2⟩
 have R3 := gr_blk g2 R2 (by omega)
 have e3 := Ext.alloc w2 (.cells #[.int .i64 (x1 - 6), .int .i64 (x2 - 6)] 27)
 have D3 : DG w b (P + 2) 0 0 (w2.alloc (.cells #[.int .i64 (x1 - 6), .int .i64 (x2 - 6)] 27)) := ⟨grown_ext (grown_trans D1.1 g2) e3, (r2.ext e3).mono (by omega)⟩
 have R4 := blk_alloc R3 (.cells #[.int .i64 (x1 - 6), .int .i64 (x2 - 6)] 27)
 have hs2 : w.heap.size < w2.heap.size := lt_of_block R3
 obtain ⟨q, hq⟩ : ∃ q, q = w2.heap.size := ⟨_, rfl⟩
 have V4 := blk_new w2 (.cells #[.int .i64 (x1 - 6), .int .i64 (x2 - 6)] 27)
 rw [← hq] at hs2 V4
 clear D1 R2 R3 r2 g2 e3
 go_wp2_with fail
 rw [← hq]
 clear hq
 generalize w2.alloc (.cells #[.int .i64 (x1 - 6), .int .i64 (x2 - 6)] 27) = w3 at *
 refine (pick_c b _ 4 _ D3.2 (by omega) (by omega) (by omega)).mono ?_
 rintro e w4 ⟨x4, rfl, x4a, x4b, r4, g4⟩
 have D4 : DG w b (P + 3) 0 0 w4 := ⟨grown_trans D3.1 g4, r4.mono (by omega)⟩
 have R5 := gr_blk g4 R4 (by omega)
 have V5 := gr_blk g4 V4 (by omega)
 clear D3 R4 V4 r4 g4
 have Q5 : IQ 100 w4 q 27 2 := ⟨[x1 - 6, x2 - 6], V5, rfl, by
  intro j hj
  match j, hj with
  | 0, _ => show -100 ≤ x1 - 6 ∧ x1 - 6 ≤ 100; omega
  | 1, _ => show -100 ≤ x2 - 6 ∧ x2 - 6 ≤ 100; omega⟩
 clear V5 x1a x1b x2a x2b
 have hqw : w.heap.size < q := hs2
 have hqb : b < q := by omega
 go_upto_if 15 with (fail)
 go_cut [5] from 6 (fun p wz => p = .pointer (some ⟨q, 0, none⟩) ∧ DG w b (P + 5) 0 0 wz ∧ IQ 100 wz q 27 2 ∧ wz.heap[w.heap.size]? = some (.cells #[.int .i64 0, .int .i64 0] 27 (0, 0)))
 case first =>
  by_cases hx : x4 = 0
  ·subst hx
   go_wp2_with fail
   refine (pick_c b _ 33 _ D4.2 (by omega) (by omega) (by omega)).mono ?_
   rintro e w5 ⟨y1, rfl, y1a, y1b, r5, g5⟩
   have D5 : DG w b (P + 4) 0 0 w5 := ⟨grown_trans D4.1 g5, r5.mono (by omega)⟩
   have R6 := gr_blk g5 R5 (by omega)
   have Q6 := Q5.gr g5 (by omega)
   clear D4 R5 Q5 r5 g5
   go_wp2_with fail
   refine (pick_c b _ 33 _ D5.2 (by omega) (by omega) (by omega)).mono ?_
   rintro e w6 ⟨y2, rfl, y2a, y2b, r6, g6⟩
   have D6 : DG w b (P + 5) 0 0 w6 := ⟨grown_trans D5.1 g6, r6.mono (by omega)⟩
   have R7 := gr_blk g6 R6 (by omega)
   have Q7 := Q6.gr g6 (by omega)
   clear D5 R6 Q6 r6 g6
   obtain ⟨u0, c0, f0, -⟩ := Q7.cell (i := 0) (by omega)
   obtain ⟨u1, c1, f1, -⟩ := Q7.cell (i := 1) (by omega)
   go_wp2
   go_meet
   case rel => exact ⟨rfl, (D6.set (by omega) hqb).set (by omega) hqb, (Q7.set 0 _ (by omega) (by omega)).set 1 _ (by omega) (by omega), blk_set_other (blk_set_other R7 (by omega)) (by omega)⟩
  ·have hd : (x4 == 0) = false := by simpa using hx
   go_wp2
   go_meet
   case rel => exact ⟨rfl, ⟨D4.1, D4.2.mono (by omega)⟩, Q5, R5⟩
 case rest =>
  obtain ⟨rfl, D6, Q6, R6⟩ := hcut
  clear D4 Q5 R5
  have fin : ∀ (wz : World), DG w b (P + 10) 0 0 wz → IQ 100 wz q 27 2 → ∃ x y : Int, wz.cell? ⟨q, 0, none⟩ = some (.int .i64 x) ∧ wz.cell? ⟨q, 1, none⟩ = some (.int .i64 y) ∧ -100 ≤ x ∧ x ≤ 100 ∧ -100 ≤ y ∧ y ≤ 100 := fun wz _ hq => by
   obtain ⟨u, u1, -, u2, u3⟩ := hq.cell (i := 0) (by omega)
   obtain ⟨v, v1, -, v2, v3⟩ := hq.cell (i := 1) (by omega)
   exact ⟨u, v, u1, v1, u2, u3, v2, v3⟩
  have Fin := Lib.hid fin
  clear fin
  by_cases hn1 : n = 0
  ·subst hn1
   have D7 : DG w b (P + 10) 0 0 wc := ⟨D6.1, D6.2.mono (by omega)⟩
   go_wp2_with fail
   refine (odd_0 b 0 _ (by omega)).mono ?_
   rintro e w7 ⟨rfl, rfl⟩
   obtain ⟨x, y, cx, cy, lx1, lx2, ly1, ly2⟩ := Fin.out wc D7 Q6
   obtain ⟨-, z0, z1, zf0, zf1⟩ := bx2 R6
   go_wp2
   exact bodyPost_ret (v := .agg #[.int .i64 x, .int .i64 y]) (results_cell_row rfl _ _ w.heap.size 27 #[.int .i64 x, .int .i64 y] (0, 0) _ rfl (blk_set2 R6) Tryz.underlying27 rfl size_Vector) rfl ⟨x, y, rfl, lx1, lx2, ly1, ly2, (D7 : DG w b (P + 10) 0 0 wc).2.set hbw |>.set hbw, gset (gset (D7 : DG w b (P + 10) 0 0 wc).1 (Nat.le_refl _)) (Nat.le_refl _)⟩
  ·go_wp2_with fail
   refine (odd_c b _ n _ D6.2 (by omega) (by omega) (by omega)).mono ?_
   rintro e w7 ⟨x7, rfl, r7, g7⟩
   have D7 : DG w b (P + 6) 0 0 w7 := ⟨grown_trans D6.1 g7, r7.mono (by omega)⟩
   have R7 := gr_blk g7 R6 (by omega)
   have Q7 := Q6.gr g7 (by omega)
   clear D6 R6 Q6 r7 g7
   cases x7
   ·have D9 : DG w b (P + 10) 0 0 w7 := ⟨D7.1, D7.2.mono (by omega)⟩
    obtain ⟨x, y, cx, cy, lx1, lx2, ly1, ly2⟩ := Fin.out w7 D9 Q7
    obtain ⟨-, z0, z1, zf0, zf1⟩ := bx2 R7
    go_wp2
    exact bodyPost_ret (v := .agg #[.int .i64 x, .int .i64 y]) (results_cell_row rfl _ _ w.heap.size 27 #[.int .i64 x, .int .i64 y] (0, 0) _ rfl (blk_set2 R7) Tryz.underlying27 rfl size_Vector) rfl ⟨x, y, rfl, lx1, lx2, ly1, ly2, (D9 : DG w b (P + 10) 0 0 w7).2.set hbw |>.set hbw, gset (gset (D9 : DG w b (P + 10) 0 0 w7).1 (Nat.le_refl _)) (Nat.le_refl _)⟩
   ·have e8 := Ext.alloc w7 (.cells #[.int .i64 17, .int .i64 (-17)] 3)
    have S8 := blk_new w7 (.cells #[.int .i64 17, .int .i64 (-17)] 3)
    have R8 := e8.blk R7
    have Q8 := Q7.ext e8
    have D8 : DG w b (P + 6) 0 0 (w7.alloc (.cells #[.int .i64 17, .int .i64 (-17)] 3)) := ⟨grown_ext D7.1 e8, D7.2.ext e8⟩
    have h7b := D7.2.lt
    clear D7 R7 Q7 e8
    go_wp2_with fail
    refine (pick_c b _ 2 _ D8.2 (by omega) (by omega) (by omega)).mono ?_
    rintro e w9 ⟨y9, rfl, y9a, y9b, r9, g9⟩
    have D9 : DG w b (P + 7) 0 0 w9 := ⟨grown_trans D8.1 g9, r9.mono (by omega)⟩
    have R9 := gr_blk g9 R8 (by omega)
    have Q9 := Q8.gr g9 (by omega)
    have S9 := gr_blk g9 S8 (by omega)
    clear D8 R8 Q8 S8 r9 g9
    obtain ⟨-, s0, s1, -, -⟩ := bx2 S9
    obtain ⟨u0, c0, f0, -⟩ := Q9.cell (i := 0) (by omega)
    obtain ⟨u1, c1, f1, l1⟩ := Q9.cell (i := 1) (by omega)
    obtain ⟨-, z0, z1, zf0, zf1⟩ := bx2 R9
    obtain rfl | rfl : y9 = 0 ∨ y9 = 1 := by omega
    ·have D10 : DG w b (P + 10) 0 0 (w9.setCell ⟨q, 0, none⟩ (.int .i64 17)) := ⟨(D9.set (by omega) hqb).1, (D9.set (by omega) hqb).2.mono (by omega)⟩
     have Q10 := Q9.set 0 17 (by omega) (by omega)
     have R10 : (w9.setCell ⟨q, 0, none⟩ (.int .i64 17)).heap[w.heap.size]? = _ := blk_set_other R9 (by omega)
     go_upto_region 6 with (fail)
     generalize w9.setCell ⟨q, 0, none⟩ (.int .i64 17) = w10 at *
     clear z0 z1 zf0 zf1 c0 f0 c1 f1 s0 s1
     obtain ⟨x, y, cx, cy, lx1, lx2, ly1, ly2⟩ := Fin.out w10 D10 Q10
     obtain ⟨-, z0, z1, zf0, zf1⟩ := bx2 R10
     go_wp2
     exact bodyPost_ret (v := .agg #[.int .i64 x, .int .i64 y]) (results_cell_row rfl _ _ w.heap.size 27 #[.int .i64 x, .int .i64 y] (0, 0) _ rfl (blk_set2 R10) Tryz.underlying27 rfl size_Vector) rfl ⟨x, y, rfl, lx1, lx2, ly1, ly2, (D10 : DG w b (P + 10) 0 0 w10).2.set hbw |>.set hbw, gset (gset (D10 : DG w b (P + 10) 0 0 w10).1 (Nat.le_refl _)) (Nat.le_refl _)⟩
    ·have D10 : DG w b (P + 10) 0 0 (w9.setCell ⟨q, 0, none⟩ (.int .i64 (-17))) := ⟨(D9.set (by omega) hqb).1, (D9.set (by omega) hqb).2.mono (by omega)⟩
     have Q10 := Q9.set 0 (-17) (by omega) (by omega)
     have R10 : (w9.setCell ⟨q, 0, none⟩ (.int .i64 (-17))).heap[w.heap.size]? = _ := blk_set_other R9 (by omega)
     go_upto_region 6 with (fail)
     generalize w9.setCell ⟨q, 0, none⟩ (.int .i64 (-17)) = w10 at *
     clear z0 z1 zf0 zf1 c0 f0 c1 f1 s0 s1
     obtain ⟨x, y, cx, cy, lx1, lx2, ly1, ly2⟩ := Fin.out w10 D10 Q10
     obtain ⟨-, z0, z1, zf0, zf1⟩ := bx2 R10
     go_wp2
     exact bodyPost_ret (v := .agg #[.int .i64 x, .int .i64 y]) (results_cell_row rfl _ _ w.heap.size 27 #[.int .i64 x, .int .i64 y] (0, 0) _ rfl (blk_set2 R10) Tryz.underlying27 rfl size_Vector) rfl ⟨x, y, rfl, lx1, lx2, ly1, ly2, (D10 : DG w b (P + 10) 0 0 w10).2.set hbw |>.set hbw, gset (gset (D10 : DG w b (P + 10) 0 0 w10).1 (Nat.le_refl _)) (Nat.le_refl _)⟩
end Go.Proofs.YtbnhaegidfbgbaaGreatDoor
namespace Go.Proofs.YtbnhaegidfbgbaaGreatDoor
open Go.RowKit
set_option maxHeartbeats 1000000
/-- A row written that the call made is as good as what it grew by. -/
theorem gr_new {w w1 w2 : World} {r : Option Nat} {q : Nat} (g : w.grownBy w1 r) (h : w1.grownBy w2 (some q)) (hq : w.heap.size ≤ q) : w.grownBy w2 r :=
 ⟨h.os.trans g.os, h.tape.trans g.tape, h.output.trans g.output, Nat.le_trans g.size h.size, fun k hk hne => (h.block k (Nat.lt_of_lt_of_le hk g.size) (by simp; omega)).trans (g.block k hk hne)⟩
theorem RdP.grq {w w' : World} {b P q : Nat} (h : RdP w b P) (g : w.grownBy w' (some q)) (hq : b < q) : RdP w' b P := by
 obtain ⟨p, hp, a, m, c, zs, h1, h2, h3, h4, h5⟩ := h
 refine ⟨p, hp, a, m, c, zs, by rw [g.block b (lt_of_block h1) (by simp; omega)]; exact h1, h2, ?_, h4, h5⟩
 rcases h4 with h4 | h4
 ·subst h4
  exact ⟨h3.1, fun i hi => by omega⟩
 ·exact h3.grown g (fun x hx e => by have := h4 x hx; simp at e; omega)
theorem DG.grq {w wx wy : World} {b P C k q : Nat} (h : DG w b P C k wx) (g : wx.grownBy wy (some q)) (hq : w.heap.size ≤ q) (hb : b < q) : DG w b P C k wy := ⟨gr_new h.1 g hq, h.2.grq g hb⟩
theorem zero_A16 : (Tryz.prog.info? 29).map (·.zero) = some (some (.agg (ic (zl 16)))) := by kernel_rfl
set_option maxRecDepth 100000 in
set_option maxHeartbeats 3000000 in
theorem l20Block_c (b P : Nat) (most n : Int) (w : World) (h : RdP w b P) (hp : P < 2^38) (hm0 : 1 ≤ most) (hm1 : most ≤ 5000) (hn0 : 0 ≤ n) (hn : n ≤ 1000000) :
 Calls Tryz.prog 92 #[.pointer (some ⟨b, 0, none⟩), .int .i64 most, .int .i64 n] w fun e w' => ∃ zs : List Int, e = .returned (.agg (ic zs)) ∧ zs.length = 16 ∧ bdI 10000 zs ∧ RdP w' b (P + 100) ∧ w.grownBy w' (some b) := by
 have hbw : b < w.heap.size := h.lt
 go_enter Tryz.func92, Tryz.ntmps92
 have R1 := (IB.new w 29 (zl 16)).alloc (.cells (ic (zl 16)) 29)
 have Q1 := IB.new (w.alloc (.cells (ic (zl 16)) 29)) 29 (zl 16)
 have E1 := (Ext.alloc w (.cells (ic (zl 16)) 29)).trans (Ext.alloc _ (.cells (ic (zl 16)) 29))
 simp only [World.size_alloc] at Q1
 go_wp2_with (first | ((refine wpList_iallocz 29 rfl rfl 16 zero_A16 ?_); (try simp only [World.size_alloc])) | (refine wpList_izeroz 29 rfl rfl Tryz.underlying29 size_int 16 zero_A16 ?_) | (refine wpList_istore 29 _ _ rfl rfl Q1 0 16 rfl _ rfl _ rfl size_A16 (zl_len 16) (by simp [zl]) ?_; intro w1 q1 g1; refine Hid.out ?_))
 rw [spl_all (by rw [zl_len])] at q1
 have D1 : DG w b P 0 0 w1 := ⟨gr_new (ext_gr E1) g1 (by omega), (h.ext E1).grq g1 (by omega)⟩
 have R2 := R1.gr g1 (by simp)
 have Q2 : IQ 10000 w1 (w.heap.size + 1) 29 16 := ⟨zl 16, q1, zl_len 16, bdI_zero _ _ (by omega)⟩
 clear R1 Q1 E1 q1 g1 h
 obtain ⟨q, hq⟩ : ∃ q, q = w.heap.size + 1 := ⟨_, rfl⟩
 refine Lib.hid ?_
 rw [← hq] at Q2 ⊢
 have hqw : w.heap.size < q := by omega
 have hqb : b < q := by omega
 clear hq
 go_wp2_with fail
 refine (pick_c b _ 5 _ D1.2 (by omega) (by omega) (by omega)).mono ?_
 rintro e w2 ⟨kd, rfl, kda, kdb, r2, g2⟩
 have D2 : DG w b (P + 2) 0 0 w2 := ⟨grown_trans D1.1 g2, r2.mono (by omega)⟩
 have R3 := R2.gr g2 (by simp; omega)
 have Q3 := Q2.gr g2 (by omega)
 clear D1 R2 Q2 r2 g2
 go_wp2_with fail
 go_loopw [9] (fun i wr => ∃ k : Nat, k ≤ 16 ∧ i = .int .i64 k ∧ DG w b (P + 2 + k * 3) 0 0 wr ∧ IQ 10000 wr q 29 16 ∧ IB wr w.heap.size 29 (zl 16)) (fun i _ => 16 - (intOf i).toNat)
 case atStart => exact ⟨0, by omega, rfl, ⟨D2.1, D2.2.mono (by omega)⟩, Q3, R3⟩
 case round =>
  obtain ⟨k, hk, rfl, D_wr, Q_wr, R_wr⟩ := hrel
  clear D2 Q3 R3
  by_cases hlt : k < 16
  ·obtain rfl | rfl | rfl | rfl | rfl : kd = 0 ∨ kd = 1 ∨ kd = 2 ∨ kd = 3 ∨ kd = 4 := by omega
   ·go_wp2_with fail
    refine (pick_c b _ 7 _ D_wr.2 (by omega) (by omega) (by omega)).mono ?_
    rintro e wa ⟨ya, rfl, yaa, yab, r_wa, g_wa⟩
    have D_wa : DG w b (P + 2 + k * 3 + 1) 0 0 wa := ⟨grown_trans D_wr.1 g_wa, r_wa.mono (by omega)⟩
    have Q_wa := Q_wr.gr g_wa (by omega)
    have R_wa := R_wr.gr g_wa (by simp; omega)
    clear D_wr Q_wr R_wr r_wa g_wa
    obtain ⟨u, cu, fu, -⟩ := Q_wa.cell (i := k) (by omega)
    go_wp2
    go_roundw
    case rel => exact ⟨k + 1, by omega, by go_num, ⟨(D_wa.set (by omega) hqb).1, (D_wa.set (by omega) hqb).2.mono (by omega)⟩, Q_wa.set k _ (by omega) (by omega), R_wa.set_other (by omega)⟩
    case measure => simp [intOf]; omega
   ·go_wp2_with fail
    refine (pick_c b _ 256 _ D_wr.2 (by omega) (by omega) (by omega)).mono ?_
    rintro e wa ⟨ya, rfl, yaa, yab, r_wa, g_wa⟩
    have D_wa : DG w b (P + 2 + k * 3 + 1) 0 0 wa := ⟨grown_trans D_wr.1 g_wa, r_wa.mono (by omega)⟩
    have Q_wa := Q_wr.gr g_wa (by omega)
    have R_wa := R_wr.gr g_wa (by simp; omega)
    clear D_wr Q_wr R_wr r_wa g_wa
    go_wp2_with fail
    refine (pick_c b _ 256 _ D_wa.2 (by omega) (by omega) (by omega)).mono ?_
    rintro e wb ⟨yb, rfl, yba, ybb, r_wb, g_wb⟩
    have D_wb : DG w b (P + 2 + k * 3 + 2) 0 0 wb := ⟨grown_trans D_wa.1 g_wb, r_wb.mono (by omega)⟩
    have Q_wb := Q_wa.gr g_wb (by omega)
    have R_wb := R_wa.gr g_wb (by simp; omega)
    clear D_wa Q_wa R_wa r_wb g_wb
    have hmr := mod_rng (a := ya * 256 + yb) (b := 2 * most + 1) (by omega) (by omega)
    obtain ⟨u, cu, fu, -⟩ := Q_wb.cell (i := k) (by omega)
    go_wp2
    go_roundw
    case rel => exact ⟨k + 1, by omega, by go_num, ⟨(D_wb.set (by omega) hqb).1, (D_wb.set (by omega) hqb).2.mono (by omega)⟩, Q_wb.set k _ (by omega) (by omega), R_wb.set_other (by omega)⟩
    case measure => simp [intOf]; omega
   ·have e5 := Ext.alloc wr (.cells #[.int .i64 most, .int .i64 (-most), .int .i64 0] 3)
    have S5 := blk_new wr (.cells #[.int .i64 most, .int .i64 (-most), .int .i64 0] 3)
    have hb5 := D_wr.2.lt
    have D_w5 : DG w b (P + 2 + k * 3) 0 0 (wr.alloc (.cells #[.int .i64 most, .int .i64 (-most), .int .i64 0] 3)) := ⟨grown_ext D_wr.1 e5, D_wr.2.ext e5⟩
    have Q_w5 := Q_wr.ext e5
    have R_w5 := R_wr.ext e5
    clear D_wr Q_wr R_wr e5
    go_wp2_with fail
    refine (pick_c b _ 3 _ D_w5.2 (by omega) (by omega) (by omega)).mono ?_
    rintro e wa ⟨ya, rfl, yaa, yab, r_wa, g_wa⟩
    have D_wa : DG w b (P + 2 + k * 3 + 1) 0 0 wa := ⟨grown_trans D_w5.1 g_wa, r_wa.mono (by omega)⟩
    have Q_wa := Q_w5.gr g_wa (by omega)
    have R_wa := R_w5.gr g_wa (by simp; omega)
    have S6 := gr_blk g_wa S5 (by omega)
    obtain ⟨-, s0, s1, s2, -, -, -⟩ := bx3 S6
    clear S5 S6 D_w5 Q_w5 R_w5 r_wa g_wa
    obtain rfl | rfl | rfl : ya = 0 ∨ ya = 1 ∨ ya = 2 := by omega
    ·obtain ⟨u, cu, fu, -⟩ := Q_wa.cell (i := k) (by omega)
     go_wp2
     go_roundw
     case rel => exact ⟨k + 1, by omega, by go_num, ⟨(D_wa.set (by omega) hqb).1, (D_wa.set (by omega) hqb).2.mono (by omega)⟩, Q_wa.set k _ (by omega) (by omega), R_wa.set_other (by omega)⟩
     case measure => simp [intOf]; omega
    ·obtain ⟨u, cu, fu, -⟩ := Q_wa.cell (i := k) (by omega)
     go_wp2
     go_roundw
     case rel => exact ⟨k + 1, by omega, by go_num, ⟨(D_wa.set (by omega) hqb).1, (D_wa.set (by omega) hqb).2.mono (by omega)⟩, Q_wa.set k _ (by omega) (by omega), R_wa.set_other (by omega)⟩
     case measure => simp [intOf]; omega
    ·obtain ⟨u, cu, fu, -⟩ := Q_wa.cell (i := k) (by omega)
     go_wp2
     go_roundw
     case rel => exact ⟨k + 1, by omega, by go_num, ⟨(D_wa.set (by omega) hqb).1, (D_wa.set (by omega) hqb).2.mono (by omega)⟩, Q_wa.set k _ (by omega) (by omega), R_wa.set_other (by omega)⟩
     case measure => simp [intOf]; omega
   ·go_wp2_with fail
    refine (pick_c b _ 3 _ D_wr.2 (by omega) (by omega) (by omega)).mono ?_
    rintro e wa ⟨ya, rfl, yaa, yab, r_wa, g_wa⟩
    have D_wa : DG w b (P + 2 + k * 3 + 1) 0 0 wa := ⟨grown_trans D_wr.1 g_wa, r_wa.mono (by omega)⟩
    have Q_wa := Q_wr.gr g_wa (by omega)
    have R_wa := R_wr.gr g_wa (by simp; omega)
    clear D_wr Q_wr R_wr r_wa g_wa
    obtain ⟨u, cu, fu, -⟩ := Q_wa.cell (i := k) (by omega)
    go_wp2
    go_roundw
    case rel => exact ⟨k + 1, by omega, by go_num, ⟨(D_wa.set (by omega) hqb).1, (D_wa.set (by omega) hqb).2.mono (by omega)⟩, Q_wa.set k _ (by omega) (by omega), R_wa.set_other (by omega)⟩
    case measure => simp [intOf]; omega
   ·go_wp2_with fail
    refine (pick_c b _ 4 _ D_wr.2 (by omega) (by omega) (by omega)).mono ?_
    rintro e wa ⟨ya, rfl, yaa, yab, r_wa, g_wa⟩
    have D_wa : DG w b (P + 2 + k * 3 + 1) 0 0 wa := ⟨grown_trans D_wr.1 g_wa, r_wa.mono (by omega)⟩
    have Q_wa := Q_wr.gr g_wa (by omega)
    have R_wa := R_wr.gr g_wa (by simp; omega)
    clear D_wr Q_wr R_wr r_wa g_wa
    by_cases hy : ya = 0
    ·subst hy
     have Hm1 := Lib.hid hm1
     clear hm1
     go_wp2_with fail
     ·refine (pick_c b _ 121 _ D_wa.2 (by omega) (by omega) (by omega)).mono ?_
      rintro e wb ⟨yb, rfl, yba, ybb, r_wb, g_wb⟩
      have D_wb : DG w b (P + 2 + k * 3 + 2) 0 0 wb := ⟨grown_trans D_wa.1 g_wb, r_wb.mono (by omega)⟩
      have Q_wb := Q_wa.gr g_wb (by omega)
      have R_wb := R_wa.gr g_wb (by simp; omega)
      clear D_wa Q_wa R_wa r_wb g_wb
      obtain ⟨u, cu, fu, -⟩ := Q_wb.cell (i := k) (by omega)
      go_wp2
      go_roundw
      case rel => exact ⟨k + 1, by omega, by go_num, ⟨(D_wb.set (by omega) hqb).1, (D_wb.set (by omega) hqb).2.mono (by omega)⟩, Q_wb.set k _ (by omega) (by omega), R_wb.set_other (by omega)⟩
      case measure => simp [intOf]; omega
     ·refine (pick_c b _ (2 * most + 1) _ D_wa.2 (by omega) (by omega) (by have := Hm1.out; omega)).mono ?_
      rintro e wb ⟨yb, rfl, yba, ybb, r_wb, g_wb⟩
      have D_wb : DG w b (P + 2 + k * 3 + 2) 0 0 wb := ⟨grown_trans D_wa.1 g_wb, r_wb.mono (by omega)⟩
      have Q_wb := Q_wa.gr g_wb (by omega)
      have R_wb := R_wa.gr g_wb (by simp; omega)
      clear D_wa Q_wa R_wa r_wb g_wb
      obtain ⟨u, cu, fu, -⟩ := Q_wb.cell (i := k) (by omega)
      go_wp2
      go_roundw
      case rel => exact ⟨k + 1, by omega, by go_num, ⟨(D_wb.set (by omega) hqb).1, (D_wb.set (by omega) hqb).2.mono (by omega)⟩, Q_wb.set k _ (by omega) (by omega), R_wb.set_other (by omega)⟩
      case measure => simp [intOf]; omega
    ·have hd : (ya == 0) = false := by simpa using hy
     go_wp2
     go_roundw
     case rel => exact ⟨k + 1, by omega, by go_num, ⟨D_wa.1, D_wa.2.mono (by omega)⟩, Q_wa, R_wa⟩
     case measure => simp [intOf]; omega
  ·obtain rfl : k = 16 := by omega
   have D4 : DG w b (P + 60) 0 0 wr := ⟨D_wr.1, D_wr.2.mono (by omega)⟩
   clear D_wr
   by_cases hn1 : n = 0
   ·subst hn1
    go_wp2_with fail
    refine (odd_0 b 0 _ (by omega)).mono ?_
    rintro e w7 ⟨rfl, rfl⟩
    obtain ⟨zs, z1, z2, z3⟩ := Q_wr
    have Z2 := Lib.hid z2
    clear z2
    go_wp2_with (first | (refine wpList_iload 29 _ rfl rfl z1 0 16 rfl _ Tryz.underlying29 rfl size_A16 (by rw [Z2.out]; omega) _ (by rw [sub_all _ _ Z2.out]) ?_) | (refine wpList_istore 29 _ _ rfl rfl R_wr 0 16 rfl _ rfl zs rfl size_A16 Z2.out (by simp [zl]) ?_; intro wf pf gf; refine Hid.out ?_))
    rw [spl_all (by rw [Z2.out, zl_len])] at pf
    have D9 := D4.grq gf (Nat.le_refl _) hbw
    refine Lib.hid ?_
    go_wp2
    exact bodyPost_ret (v := .agg (ic zs)) (results_cell_row rfl _ _ w.heap.size 29 (ic zs) (0, 0) _ rfl pf Tryz.underlying29 rfl (by rw [ic_size, Z2.out]; exact size_A16)) rfl ⟨zs, rfl, Z2.out, z3, D9.2.mono (by omega), D9.1⟩
   ·go_wp2_with fail
    refine (odd_c b _ n _ D4.2 (by omega) (by omega) (by omega)).mono ?_
    rintro e w7 ⟨x7, rfl, r7, g7⟩
    have D7 : DG w b (P + 61) 0 0 w7 := ⟨grown_trans D4.1 g7, r7.mono (by omega)⟩
    have Q7 := Q_wr.gr g7 (by omega)
    have R7 := R_wr.gr g7 (by simp; omega)
    clear D4 Q_wr R_wr r7 g7
    cases x7
    ·skip
     obtain ⟨zs, z1, z2, z3⟩ := Q7
     have Z2 := Lib.hid z2
     clear z2
     go_wp2_with (first | (refine wpList_iload 29 _ rfl rfl z1 0 16 rfl _ Tryz.underlying29 rfl size_A16 (by rw [Z2.out]; omega) _ (by rw [sub_all _ _ Z2.out]) ?_) | (refine wpList_istore 29 _ _ rfl rfl R7 0 16 rfl _ rfl zs rfl size_A16 Z2.out (by simp [zl]) ?_; intro wf pf gf; refine Hid.out ?_))
     rw [spl_all (by rw [Z2.out, zl_len])] at pf
     have D9 := D7.grq gf (Nat.le_refl _) hbw
     refine Lib.hid ?_
     go_wp2
     exact bodyPost_ret (v := .agg (ic zs)) (results_cell_row rfl _ _ w.heap.size 29 (ic zs) (0, 0) _ rfl pf Tryz.underlying29 rfl (by rw [ic_size, Z2.out]; exact size_A16)) rfl ⟨zs, rfl, Z2.out, z3, D9.2.mono (by omega), D9.1⟩
    ·go_wp2_with fail
     refine (pick_c b _ 16 _ D7.2 (by omega) (by omega) (by omega)).mono ?_
     rintro e w8 ⟨y8, rfl, y8a, y8b, r8, g8⟩
     have D8 : DG w b (P + 62) 0 0 w8 := ⟨grown_trans D7.1 g8, r8.mono (by omega)⟩
     have Q8 := Q7.gr g8 (by omega)
     have R8 := R7.gr g8 (by simp; omega)
     clear D7 Q7 R7 r8 g8
     have e9 := Ext.alloc w8 (.cells #[.int .i64 (most + 1), .int .i64 (-most - 1)] 3)
     have S9 := blk_new w8 (.cells #[.int .i64 (most + 1), .int .i64 (-most - 1)] 3)
     have D9 : DG w b (P + 62) 0 0 (w8.alloc (.cells #[.int .i64 (most + 1), .int .i64 (-most - 1)] 3)) := ⟨grown_ext D8.1 e9, D8.2.ext e9⟩
     have hb9 := D8.2.lt
     have Q9 := Q8.ext e9
     have R9 := R8.ext e9
     clear D8 Q8 R8 e9
     go_wp2_with fail
     refine (pick_c b _ 2 _ D9.2 (by omega) (by omega) (by omega)).mono ?_
     rintro e wa ⟨y9, rfl, y9a, y9b, ra, ga⟩
     have DA : DG w b (P + 63) 0 0 wa := ⟨grown_trans D9.1 ga, ra.mono (by omega)⟩
     have SA := gr_blk ga S9 (by omega)
     have QA := Q9.gr ga (by omega)
     have RA := R9.gr ga (by simp; omega)
     clear D9 Q9 R9 S9 ra ga
     obtain ⟨-, s0, s1, -, -⟩ := bx2 SA
     obtain ⟨j, rfl⟩ := Int.eq_ofNat_of_zero_le y8a
     obtain ⟨u0, c0, f0, -⟩ := QA.cell (i := j) (by omega)
     obtain rfl | rfl : y9 = 0 ∨ y9 = 1 := by omega
     ·have DB := DA.set (q := q) (j := j) (v := .int .i64 (most + 1)) (by omega) hqb
      have QB := QA.set j (most + 1) (by omega) (by omega)
      have RB := RA.set_other (c := q) (i := j) (v := .int .i64 (most + 1)) (by omega)
      go_upto_region 19 with (fail)
      generalize wa.setCell ⟨q, j, none⟩ (.int .i64 (most + 1)) = wb at *
      clear c0 f0 s0 s1 SA DA QA RA
      obtain ⟨zs, z1, z2, z3⟩ := QB
      have Z2 := Lib.hid z2
      clear z2
      go_wp2_with (first | (refine wpList_iload 29 _ rfl rfl z1 0 16 rfl _ Tryz.underlying29 rfl size_A16 (by rw [Z2.out]; omega) _ (by rw [sub_all _ _ Z2.out]) ?_) | (refine wpList_istore 29 _ _ rfl rfl RB 0 16 rfl _ rfl zs rfl size_A16 Z2.out (by simp [zl]) ?_; intro wf pf gf; refine Hid.out ?_))
      rw [spl_all (by rw [Z2.out, zl_len])] at pf
      have D9 := DB.grq gf (Nat.le_refl _) hbw
      refine Lib.hid ?_
      go_wp2
      exact bodyPost_ret (v := .agg (ic zs)) (results_cell_row rfl _ _ w.heap.size 29 (ic zs) (0, 0) _ rfl pf Tryz.underlying29 rfl (by rw [ic_size, Z2.out]; exact size_A16)) rfl ⟨zs, rfl, Z2.out, z3, D9.2.mono (by omega), D9.1⟩
     ·have DB := DA.set (q := q) (j := j) (v := .int .i64 (-most - 1)) (by omega) hqb
      have QB := QA.set j (-most - 1) (by omega) (by omega)
      have RB := RA.set_other (c := q) (i := j) (v := .int .i64 (-most - 1)) (by omega)
      go_upto_region 19 with (fail)
      generalize wa.setCell ⟨q, j, none⟩ (.int .i64 (-most - 1)) = wb at *
      clear c0 f0 s0 s1 SA DA QA RA
      obtain ⟨zs, z1, z2, z3⟩ := QB
      have Z2 := Lib.hid z2
      clear z2
      go_wp2_with (first | (refine wpList_iload 29 _ rfl rfl z1 0 16 rfl _ Tryz.underlying29 rfl size_A16 (by rw [Z2.out]; omega) _ (by rw [sub_all _ _ Z2.out]) ?_) | (refine wpList_istore 29 _ _ rfl rfl RB 0 16 rfl _ rfl zs rfl size_A16 Z2.out (by simp [zl]) ?_; intro wf pf gf; refine Hid.out ?_))
      rw [spl_all (by rw [Z2.out, zl_len])] at pf
      have D9 := DB.grq gf (Nat.le_refl _) hbw
      refine Lib.hid ?_
      go_wp2
      exact bodyPost_ret (v := .agg (ic zs)) (results_cell_row rfl _ _ w.heap.size 29 (ic zs) (0, 0) _ rfl pf Tryz.underlying29 rfl (by rw [ic_size, Z2.out]; exact size_A16)) rfl ⟨zs, rfl, Z2.out, z3, D9.2.mono (by omega), D9.1⟩
end Go.Proofs.YtbnhaegidfbgbaaGreatDoor
namespace Go.Proofs.YtbnhaegidfbgbaaGreatDoor
open Go.RowKit
set_option maxHeartbeats 1000000
section
variable {P : Program}
/-- T{..}, T of integers alone. -/
theorem wpList_ibuild {ops : Array Oper} {rest : List Oper} {o : Oper} {a : Act} {w : World} {Q : Exit → Act → World → Prop} (t : TypeId) (parts : Array (Nat × Operand)) (ho : o.op = .build t parts) (hgd : Region.wanted o (yielded ops a.tmps) = true)
 (zs : List Int) (hb : P.built t (parts.map fun (i, x) => (i, a.eval x)).toList = some (ic zs))
 (hK : wpList P ops Q rest (a.put o.dst (.agg (ic zs))) w) : wpList P ops Q (o :: rest) a w := by
 refine wpList_wanted hgd fun _ hK' => ?_
 unfold Oper.wp execOp
 simp only [ho, Sem.run_bind, run_build w t _ _ hb, Result.andThen_ok]
 exact hK' _ _ hK
end
theorem bdI_cons {B : Int} {z : Int} {zs : List Int} (h1 : -B ≤ z) (h2 : z ≤ B) (h : bdI B zs) : bdI B (z :: zs) := by
 intro j hj
 cases j with
 | zero => exact ⟨h1, h2⟩
 | succ j => exact h j (by simpa using hj)
theorem IQ.splq {B : Int} {w : World} {q T n off : Nat} {zs ys : List Int} (p : IB w q T (spl zs off ys)) (hl : zs.length = n) (hz : bdI B zs) (hy : bdI B ys) (ho : off + ys.length ≤ n) : IQ B w q T n :=
 ⟨_, p, by rw [spl_len (by omega), hl], bdI_spl hz hy (by omega)⟩
theorem bdI_two {B x y : Int} (h1 : -B ≤ x) (h2 : x ≤ B) (h3 : -B ≤ y) (h4 : y ≤ B) : bdI B [x, y] := bdI_cons h1 h2 (bdI_cons h3 h4 (fun j hj => by simp at hj))
theorem odd_any (b P : Nat) (n : Int) (w : World) (h : RdP w b P) (hp : P < 2^40) (hn0 : 0 ≤ n) (hn : n ≤ 1000000000) :
 Calls Tryz.prog 88 #[.pointer (some ⟨b, 0, none⟩), .int .i64 n] w fun e w' => ∃ x : Bool, e = .returned (.bool x) ∧ RdP w' b (P + 1) ∧ w.grownBy w' (some b) := by
 by_cases hz : n = 0
 ·subst hz
  refine (odd_0 b 0 _ (by omega)).mono ?_
  rintro e w' ⟨rfl, rfl⟩
  exact ⟨false, rfl, h.mono (by omega), grown_refl _ _⟩
 ·refine (odd_c b P n _ h hp (by omega) hn).mono ?_
  rintro e w' ⟨x, rfl, r, g⟩
  exact ⟨x, rfl, r, g⟩
theorem zero_Macz : (Tryz.prog.info? 32).map (·.zero) = some (some (.agg (ic (zl 71)))) := by kernel_rfl
theorem built_Macz (x : Int) : Tryz.prog.built 32 [(0, .int .i64 x)] = some (ic (x :: zl 70)) := by kernel_rfl
theorem built_Vec1 (x : Int) : Tryz.prog.built 27 [(0, .int .i64 x)] = some (ic [x, 0]) := by kernel_rfl
theorem built_Vec2 (x : Int) : Tryz.prog.built 27 [(1, .int .i64 x)] = some (ic [0, x]) := by kernel_rfl
/-- What holds while a macroblock is drawn. -/
def MG (w : World) (b P k q : Nat) (wx : World) : Prop := DG w b P 1 k wx ∧ IQ 10000 wx q 32 71 ∧ IB wx w.heap.size 32 (zl 71) ∧ b < w.heap.size ∧ w.heap.size < q
theorem MG.step {w wx : World} {b P k q : Nat} (h : MG w b P k q wx) : MG w b P (k + 1) q wx := ⟨h.1.step, h.2⟩
theorem MG.more {w wx wy : World} {b P k q : Nat} (h : MG w b P k q wx) (e : wx.grownBy wy (some b)) (r : RdP wy b (P + k * 1 + 1)) (_ : 1 ≤ 1) : MG w b P (k + 1) q wy := ⟨h.1.more e r (Nat.le_refl _), h.2.1.gr e (by have := h.2.2.2; omega), h.2.2.1.gr e (by have := h.2.2.2; simp; omega), h.2.2.2⟩
theorem MG.moren {w wx wy : World} {b P k q n : Nat} (h : MG w b P k q wx) (e : wx.grownBy wy (some b)) (r : RdP wy b (P + k * 1 + n)) : MG w b P (k + n) q wy := ⟨⟨grown_trans h.1.1 e, r.mono (by omega)⟩, h.2.1.gr e (by have := h.2.2.2; omega), h.2.2.1.gr e (by have := h.2.2.2; simp; omega), h.2.2.2⟩
theorem MG.ext {w wx wy : World} {b P k q : Nat} (h : MG w b P k q wx) (e : Ext wx wy) : MG w b P (k + 1) q wy := ⟨h.1.ext e, h.2.1.ext e, h.2.2.1.ext e, h.2.2.2⟩
theorem MG.ext0 {w wx wy : World} {b P k q : Nat} (h : MG w b P k q wx) (e : Ext wx wy) : MG w b P k q wy := ⟨⟨grown_ext h.1.1 e, h.1.2.ext e⟩, h.2.1.ext e, h.2.2.1.ext e, h.2.2.2⟩
theorem MG.drew {w wx : World} {b P k q : Nat} (h : MG w b P k q wx) : MG w b P k q wx.drew := ⟨h.1.drew, h.2.1.ext (Ext.drewN _ 1), h.2.2.1.ext (Ext.drewN _ 1), h.2.2.2⟩
theorem MG.up {w wx : World} {b P k k' q : Nat} (h : MG w b P k q wx) (hk : k ≤ k') : MG w b P k' q wx := ⟨⟨h.1.1, h.1.2.mono (by omega)⟩, h.2⟩
theorem MG.re {w wx : World} {b P k q P' : Nat} (h : MG w b P k q wx) (hP : P + k ≤ P') : MG w b P' 0 q wx := ⟨h.1.reset (by omega) 1, h.2⟩
theorem MG.set {w wx : World} {b P k q : Nat} (h : MG w b P k q wx) (i : Nat) (v : Int) (h1 : -10000 ≤ v) (h2 : v ≤ 10000) : MG w b P k q (wx.setCell ⟨q, i, none⟩ (.int .i64 v)) :=
 ⟨h.1.set (Nat.le_of_lt h.2.2.2.2) (Nat.lt_trans h.2.2.2.1 h.2.2.2.2), h.2.1.set i v h1 h2, h.2.2.1.set_other (by have := h.2.2.2; omega), h.2.2.2⟩
theorem MG.spl {w wx wy : World} {b P k q off : Nat} {zs ys : List Int} (h : MG w b P k q wx) (g : wx.grownBy wy (some q)) (p : IB wy q 32 (spl zs off ys)) (hl : zs.length = 71) (hz : bdI 10000 zs) (hy : bdI 10000 ys) (ho : off + ys.length ≤ 71) : MG w b P k q wy :=
 ⟨h.1.grq g (Nat.le_of_lt h.2.2.2.2) (Nat.lt_trans h.2.2.2.1 h.2.2.2.2), IQ.splq p hl hz hy ho, h.2.2.1.gr g (by have := h.2.2.2; simp; omega), h.2.2.2⟩
theorem MG.cell {w wx : World} {b P k q : Nat} (h : MG w b P k q wx) {i : Nat} (hi : i < 71) : ∃ v : Int, wx.cell? ⟨q, i, none⟩ = some (.int .i64 v) ∧ wx.frozen? ⟨q, i, none⟩ = false ∧ -10000 ≤ v ∧ v ≤ 10000 := h.2.1.cell hi
set_option maxRecDepth 100000 in
set_option maxHeartbeats 3000000 in
theorem l20Macro_c (b P : Nat) (intra : Bool) (n : Int) (w : World) (h : RdP w b P) (hp : P < 2^37) (hn0 : 0 ≤ n) (hn : n ≤ 1000000) :
 Calls Tryz.prog 35 #[.pointer (some ⟨b, 0, none⟩), .bool intra, .int .i64 n] w fun e w' => ∃ zs : List Int, e = .returned (.agg (ic zs)) ∧ zs.length = 71 ∧ bdI 10000 zs ∧ RdP w' b (P + 600) ∧ w.grownBy w' (some b) := by
 have hbw : b < w.heap.size := h.lt
 go_enter Tryz.func35, Tryz.ntmps35
 have R1 := IB.new w 32 (zl 71)
 have E1 := Ext.alloc w (.cells (ic (zl 71)) 32)
 go_wp2_with (refine wpList_iallocz 32 rfl rfl 71 zero_Macz ?_; (try simp only [World.size_alloc]))
 refine (pick_c b P 3 _ (h.ext E1) (by omega) (by omega) (by omega)).mono ?_
 rintro e w1 ⟨kd, rfl, kda, kdb, r1, g1⟩
 have hw1 : w.heap.size < w1.heap.size := by have := g1.size; simp at this; omega
 have R2 := (R1.gr g1 (by simp; omega)).alloc (.cells (ic (zl 71)) 32)
 have D2 : DG w b P 1 1 (w1.alloc (.cells (ic (zl 71)) 32)) := ⟨grown_ext (grown_trans (ext_gr E1) g1) (Ext.alloc _ _), (r1.mono (by omega)).ext (Ext.alloc _ _)⟩
 have Q2 := IB.new w1 32 (zl 71)
 clear R1 E1 r1 g1 h
 go_wp2_with (first | (refine wpList_ibuild 32 _ rfl rfl (kd :: zl 70) (built_Macz _) ?_) | (refine wpList_iallocz 32 rfl rfl 71 zero_Macz ?_; (try simp only [World.size_alloc])) | (refine wpList_istore 32 _ _ rfl rfl Q2 0 71 rfl _ rfl (kd :: zl 70) rfl size_Macro (by simp [zl]) (by simp [zl]) ?_; intro w3 q3 g3; refine Hid.out ?_))
 rw [spl_all (by simp [zl])] at q3
 obtain ⟨q, hq⟩ : ∃ q, q = w1.heap.size := ⟨_, rfl⟩
 rw [← hq] at q3 g3 hw1 ⊢
 have M3 : MG w b P 1 q w3 := ⟨D2.grq g3 (by omega) (by omega), ⟨_, q3, by simp [zl], bdI_cons (by omega) (by omega) (bdI_zero _ _ (by omega))⟩, R2.gr g3 (by simp; omega), hbw, hw1⟩
 clear R2 D2 Q2 q3 g3 hq
 refine Lib.hid ?_
 go_upto_if 12 with (fail)
 go_cut [7] from 9 (fun p wz => p = .pointer (some ⟨q, 0, none⟩) ∧ MG w b P 1 q wz)
 case first =>
  obtain ⟨u0, c0, f0, -⟩ := M3.cell (i := 0) (by omega)
  cases intra
  ·go_wp2
   go_meet
   case rel => exact ⟨rfl, M3⟩
  ·go_wp2
   go_meet
   case rel => exact ⟨rfl, M3.set 0 2 (by omega) (by omega)⟩
 case rest =>
  obtain ⟨rfl, M4⟩ := hcut
  clear M3
  obtain ⟨u0, c0, f0, -⟩ := M4.cell (i := 0) (by omega)
  go_upto_if 16 with (fail)
  go_cut [7] from 9 (fun p wz => p = .pointer (some ⟨q, 0, none⟩) ∧ MG w b P 12 q wz)
  case first =>
   by_cases hu : u0 = 1
   ·subst hu
    go_wp2_with fail
    refine (l20Vector_c b _ 0 _ M4.1.2 (by omega) (by omega) (by omega)).mono ?_
    rintro e w5 ⟨vx, vy, rfl, v1, v2, v3, v4, r5, g5⟩
    have M5 := M4.moren g5 (r5.mono (Nat.le_refl _))
    obtain ⟨zs, z1, z2, z3⟩ := M5.2.1
    have Z2 := Lib.hid z2
    clear z2
    go_wp2_with (refine wpList_istore 27 _ _ rfl rfl z1 1 2 rfl _ rfl [vx, vy] rfl size_Vector rfl (by rw [Z2.out]; simp) ?_; intro w6 p6 g6; refine Hid.out ?_)
    have M6 := M5.spl g6 p6 Z2.out z3 (bdI_two (by omega) (by omega) (by omega) (by omega)) (by simp)
    refine Lib.hid ?_
    go_wp2
    go_meet
    case rel => exact ⟨rfl, M6.up (by omega)⟩
   ·have hd : (u0 == 1) = false := by simpa using hu
    go_wp2
    go_meet
    case rel => exact ⟨rfl, M4.up (by omega)⟩
  case rest =>
   obtain ⟨rfl, M5⟩ := hcut
   clear M4 c0 f0
   go_wp2_with fail
   go_loopw [8] (fun i wr => ∃ k : Nat, k ≤ 4 ∧ i = .int .i64 k ∧ MG w b (P + 12 + k * 120) 0 q wr) (fun i _ => 4 - (intOf i).toNat)
   case atStart => exact ⟨0, by omega, rfl, M5.re (by omega)⟩
   case round =>
    obtain ⟨k, hk, rfl, Mr⟩ := hrel
    clear M5
    by_cases hlt : k < 4
    ·obtain ⟨u0, c0, f0, -⟩ := Mr.cell (i := 0) (by omega)
     go_upto_if 26 with (fail)
     go_cut [7, 8] from 20 to 49 (fun p i wz => p = .pointer (some ⟨q, 0, none⟩) ∧ i = .int .i64 k ∧ MG w b (P + 12 + k * 120) 1 q wz)
     case first =>
      by_cases hu : u0 = 2
      ·subst hu
       go_wp2_with fail
       refine (pick_c b _ 5 _ Mr.1.2 (by omega) (by omega) (by omega)).mono ?_
       rintro e wa ⟨ya, rfl, yaa, yab, ra, ga⟩
       have Ma := Mr.moren ga (ra.mono (Nat.le_refl _))
       obtain ⟨u1, c1, f1, -⟩ := Ma.cell (i := 3 + k) (by omega)
       go_wp2
       go_meet
       case rel => exact ⟨rfl, rfl, (Ma.set (3 + k) ya (by omega) (by omega)).up (by omega)⟩
      ·have hd : (u0 == 2) = false := by simpa using hu
       go_wp2
       go_meet
       case rel => exact ⟨rfl, rfl, Mr.up (by omega)⟩
     case rest =>
      obtain ⟨rfl, rfl, Ms⟩ := hcut
      clear Mr c0 f0
      obtain ⟨u0, c0, f0, -⟩ := Ms.cell (i := 0) (by omega)
      by_cases hu : u0 = 0
      ·subst hu
       go_wp2
       go_roundw
       case rel => exact ⟨k + 1, by omega, by go_num, Ms.re (by omega)⟩
       case measure => simp [intOf]; omega
      ·have hd : (u0 != 0) = true := by simpa using hu
       go_wp2_with fail
       refine (pick_c b _ 3 _ Ms.1.2 (by omega) (by omega) (by omega)).mono ?_
       rintro e wa ⟨ya, rfl, yaa, yab, ra, ga⟩
       have M_wa := Ms.moren ga (ra.mono (Nat.le_refl _))
       clear Ms c0 f0 ra ga
       by_cases hy : ya = 0
       ·subst hy
        go_wp2
        go_roundw
        case rel => exact ⟨k + 1, by omega, by go_num, M_wa.re (by omega)⟩
        case measure => simp [intOf]; omega
       ·have hy2 : 0 < ya := by omega
        have e5 := Ext.alloc wa (.cells #[.int .i64 3, .int .i64 40, .int .i64 4080] 3)
        have S5 := blk_new wa (.cells #[.int .i64 3, .int .i64 40, .int .i64 4080] 3)
        have hb5 := M_wa.1.2.lt
        have M_w5 := M_wa.ext0 e5
        clear M_wa e5
        go_wp2_with fail
        refine (pick_c b _ 3 _ M_w5.1.2 (by omega) (by omega) (by omega)).mono ?_
        rintro e wb ⟨yb, rfl, yba, ybb, r_wb, g_wb⟩
        have M_wb := M_w5.moren g_wb (r_wb.mono (Nat.le_refl _))
        clear M_w5 r_wb
        have S6 := gr_blk g_wb S5 (by omega)
        obtain ⟨-, s0, s1, s2, -, -, -⟩ := bx3 S6
        clear S5 S6 g_wb
        obtain ⟨jb, rfl⟩ := Int.eq_ofNat_of_zero_le yba
        obtain ⟨mo, hmo, hmo1, hmo2⟩ : ∃ mo : Int, wb.cell? ⟨wa.heap.size, jb, none⟩ = some (.int .i64 mo) ∧ 1 ≤ mo ∧ mo ≤ 5000 := by
         obtain rfl | rfl | rfl : jb = 0 ∨ jb = 1 ∨ jb = 2 := by omega
         ·exact ⟨_, s0, by omega, by omega⟩
         ·exact ⟨_, s1, by omega, by omega⟩
         ·exact ⟨_, s2, by omega, by omega⟩
        have hjb : jb < 3 := by omega
        clear s0 s1 s2
        go_wp2_with fail
        refine (l20Block_c b _ mo 0 _ M_wb.1.2 (by omega) hmo1 hmo2 (by omega) (by omega)).mono ?_
        rintro e wd ⟨ys, rfl, yl, yb, rd, gd⟩
        have M_wd := M_wb.moren gd (rd.mono (Nat.le_refl _))
        obtain ⟨zs, z1, z2, z3⟩ := M_wd.2.1
        have Z2 := Lib.hid z2
        have Yl := Lib.hid yl
        clear z2 yl M_wb rd gd hmo
        go_wp2_with (refine wpList_istore 29 _ _ rfl rfl z1 (7 + k * 16) 16 rfl _ rfl ys rfl size_A16 Yl.out (by rw [Z2.out]; omega) ?_; intro we pe ge; refine Hid.out ?_)
        have M_we := M_wd.spl ge pe Z2.out z3 yb (by rw [Yl.out]; omega)
        refine Lib.hid ?_
        go_wp2
        go_roundw
        case rel => exact ⟨k + 1, by omega, by go_num, M_we.re (by omega)⟩
        case measure => simp [intOf]; omega
    ·obtain rfl : k = 4 := by omega
     go_wp2_with fail
     refine (odd_any b _ n _ Mr.1.2 (by omega) hn0 (by omega)).mono ?_
     rintro e wo ⟨x, rfl, ro, go⟩
     have M_wo := (Mr.moren go (ro.mono (Nat.le_refl _))).re (P' := P + 500) (by omega)
     clear Mr ro go
     go_upto_if 52 with (fail)
     go_cut [7] from 9 (fun p wz => p = .pointer (some ⟨q, 0, none⟩) ∧ MG w b (P + 600) 0 q wz)
     case first =>
      cases x
      ·go_wp2
       go_meet
       case rel => exact ⟨rfl, M_wo.re (by omega)⟩
      ·go_wp2_with fail
       refine (pick_c b _ 5 _ M_wo.1.2 (by omega) (by omega) (by omega)).mono ?_
       rintro e wsw ⟨ysw, rfl, yswa, yswb, r_wsw, g_wsw⟩
       have M_wsw := M_wo.moren g_wsw (r_wsw.mono (Nat.le_refl _))
       clear M_wo r_wsw g_wsw
       obtain rfl | rfl | rfl | rfl | rfl : ysw = 0 ∨ ysw = 1 ∨ ysw = 2 ∨ ysw = 3 ∨ ysw = 4 := by omega
       ·have e5 := Ext.alloc wsw (.cells #[.int .i64 (-1), .int .i64 3, .int .i64 0] 3)
        have S5 := blk_new wsw (.cells #[.int .i64 (-1), .int .i64 3, .int .i64 0] 3)
        have hb5 := M_wsw.1.2.lt
        have M_w5 := M_wsw.ext0 e5
        clear M_wsw e5
        go_wp2_with fail
        refine (pick_c b _ 3 _ M_w5.1.2 (by omega) (by omega) (by omega)).mono ?_
        rintro e wb ⟨yb, rfl, yba, ybb, r_wb, g_wb⟩
        have M_wb := M_w5.moren g_wb (r_wb.mono (Nat.le_refl _))
        clear M_w5 r_wb
        have S6 := gr_blk g_wb S5 (by omega)
        obtain ⟨-, s0, s1, s2, -, -, -⟩ := bx3 S6
        clear S5 S6 g_wb
        obtain ⟨u1, c1, f1, -⟩ := M_wb.cell (i := 0) (by omega)
        obtain rfl | rfl | rfl : yb = 0 ∨ yb = 1 ∨ yb = 2 := by omega
        ·go_wp2
         go_meet
         case rel => exact ⟨rfl, (M_wb.set 0 (-1) (by omega) (by omega)).re (by omega)⟩
        ·go_wp2
         go_meet
         case rel => exact ⟨rfl, (M_wb.set 0 3 (by omega) (by omega)).re (by omega)⟩
        ·go_wp2
         go_meet
         case rel => exact ⟨rfl, (M_wb.set 0 0 (by omega) (by omega)).re (by omega)⟩
       ·obtain ⟨zs, z1, z2, z3⟩ := M_wsw.2.1
        have Z2 := Lib.hid z2
        clear z2
        go_wp2_with (first | (refine wpList_ibuild 27 _ rfl rfl [17, 0] (built_Vec1 _) ?_) | (refine wpList_istore 27 _ _ rfl rfl z1 1 2 rfl _ rfl [17, 0] rfl size_Vector rfl (by rw [Z2.out]; simp) ?_; intro w6 p6 g6; refine Hid.out ?_))
        have M_w6 := M_wsw.spl g6 p6 Z2.out z3 (bdI_two (by omega) (by omega) (by omega) (by omega)) (by simp)
        refine Lib.hid ?_
        go_wp2
        go_meet
        case rel => exact ⟨rfl, M_w6.re (by omega)⟩
       ·go_wp2_with fail
        refine (pick_c b _ 4 _ M_wsw.1.2 (by omega) (by omega) (by omega)).mono ?_
        rintro e wa ⟨ya, rfl, yaa, yab, r_wa, g_wa⟩
        have M_wa := M_wsw.moren g_wa (r_wa.mono (Nat.le_refl _))
        clear M_wsw r_wa g_wa
        obtain ⟨ja, rfl⟩ := Int.eq_ofNat_of_zero_le yaa
        have e5 := Ext.alloc wa (.cells #[.int .i64 (-1), .int .i64 5, .int .i64 1] 3)
        have S5 := blk_new wa (.cells #[.int .i64 (-1), .int .i64 5, .int .i64 1] 3)
        have hb5 := M_wa.1.2.lt
        have M_w5 := M_wa.ext0 e5
        clear M_wa e5
        go_wp2_with fail
        refine (pick_c b _ 3 _ M_w5.1.2 (by omega) (by omega) (by omega)).mono ?_
        rintro e wb ⟨yb, rfl, yba, ybb, r_wb, g_wb⟩
        have M_wb := M_w5.moren g_wb (r_wb.mono (Nat.le_refl _))
        clear M_w5 r_wb
        have S6 := gr_blk g_wb S5 (by omega)
        obtain ⟨-, s0, s1, s2, -, -, -⟩ := bx3 S6
        clear S5 S6 g_wb
        obtain ⟨u1, c1, f1, -⟩ := M_wb.cell (i := 3 + ja) (by omega)
        obtain rfl | rfl | rfl : yb = 0 ∨ yb = 1 ∨ yb = 2 := by omega
        ·go_wp2
         go_meet
         case rel => exact ⟨rfl, (M_wb.set (3 + ja) (-1) (by omega) (by omega)).re (by omega)⟩
        ·go_wp2
         go_meet
         case rel => exact ⟨rfl, (M_wb.set (3 + ja) 5 (by omega) (by omega)).re (by omega)⟩
        ·go_wp2
         go_meet
         case rel => exact ⟨rfl, (M_wb.set (3 + ja) 1 (by omega) (by omega)).re (by omega)⟩
       ·go_upto_region 23 with fail
        have hext : ∀ (i : Nat) (own : Value) (ys : Nat → Value) (wa wb : World), wa.grownBy wb (some b) → (match i with | 0 => own = .pointer (some ⟨b, 0, none⟩) | 1 => ∃ x : Int, own = .int .i64 x ∧ 0 ≤ x ∧ x < 4 | 2 => own = .pointer (some ⟨b, 0, none⟩) | 3 => ∃ x : Int, own = .int .i64 x ∧ 0 ≤ x ∧ x < 16 | 4 => SlR wa (q + 1) own 3 (-4081) (4081) | 5 => own = .pointer (some ⟨b, 0, none⟩) | 6 => ∃ x : Int, own = .int .i64 x ∧ 0 ≤ x ∧ x < 3 | 7 => PtR wa (q + 1) own (-4081) (4081) | 8 => ∃ x : Int, own = .int .i64 x ∧ -4081 ≤ x ∧ x ≤ 4081 | 9 => own = .pointer (some ⟨q, 7, none⟩) | 10 => ∃ j : Nat, own = .pointer (some ⟨q, 7 + j * 16, none⟩) ∧ j < 4 | 11 => ∃ j : Nat, own = .pointer (some ⟨q, j, none⟩) ∧ j < 71 | 12 => True | _ => True) → (match i with | 0 => own = .pointer (some ⟨b, 0, none⟩) | 1 => ∃ x : Int, own = .int .i64 x ∧ 0 ≤ x ∧ x < 4 | 2 => own = .pointer (some ⟨b, 0, none⟩) | 3 => ∃ x : Int, own = .int .i64 x ∧ 0 ≤ x ∧ x < 16 | 4 => SlR wb (q + 1) own 3 (-4081) (4081) | 5 => own = .pointer (some ⟨b, 0, none⟩) | 6 => ∃ x : Int, own = .int .i64 x ∧ 0 ≤ x ∧ x < 3 | 7 => PtR wb (q + 1) own (-4081) (4081) | 8 => ∃ x : Int, own = .int .i64 x ∧ -4081 ≤ x ∧ x ≤ 4081 | 9 => own = .pointer (some ⟨q, 7, none⟩) | 10 => ∃ j : Nat, own = .pointer (some ⟨q, 7 + j * 16, none⟩) ∧ j < 4 | 11 => ∃ j : Nat, own = .pointer (some ⟨q, j, none⟩) ∧ j < 71 | 12 => True | _ => True) := by
         intro i own ys wa wb e h
         match i, h with
         | 0, h | 1, h | 2, h | 3, h | 5, h | 6, h | 8, h | 9, h | 10, h | 11, h | 12, h => exact h
         | 4, h | 7, h => exact h.grown e (by omega)
         | _ + 13, _ => trivial
        have Hext := Lib.hid hext
        clear hext
        refine wp_region_inv2 (by kernel_rfl) [(82, 0), (83, 1), (84, 2), (85, 3), (86, 4), (87, 5), (88, 6), (89, 7), (90, 8), (91, 9), (92, 10), (93, 11)] [[], [0], [], [0, 1, 2], [], [], [0, 1, 2, 3, 5], [0, 1, 2, 3, 4, 5, 6], [0, 1, 2, 3, 4, 5, 6, 7], [], [0, 1, 9], [0, 1, 2, 3, 4, 5, 6, 7, 8, 9, 10], [0, 1, 2, 3, 4, 5, 6, 7, 8, 9, 10, 11]] (fun i own ys wx => match i with | 0 => own = .pointer (some ⟨b, 0, none⟩) | 1 => ∃ x : Int, own = .int .i64 x ∧ 0 ≤ x ∧ x < 4 | 2 => own = .pointer (some ⟨b, 0, none⟩) | 3 => ∃ x : Int, own = .int .i64 x ∧ 0 ≤ x ∧ x < 16 | 4 => SlR wx (q + 1) own 3 (-4081) (4081) | 5 => own = .pointer (some ⟨b, 0, none⟩) | 6 => ∃ x : Int, own = .int .i64 x ∧ 0 ≤ x ∧ x < 3 | 7 => PtR wx (q + 1) own (-4081) (4081) | 8 => ∃ x : Int, own = .int .i64 x ∧ -4081 ≤ x ∧ x ≤ 4081 | 9 => own = .pointer (some ⟨q, 7, none⟩) | 10 => ∃ j : Nat, own = .pointer (some ⟨q, 7 + j * 16, none⟩) ∧ j < 4 | 11 => ∃ j : Nat, own = .pointer (some ⟨q, j, none⟩) ∧ j < 71 | 12 => True | _ => True) (fun kx wx => MG w b (P+510) kx q wx) (by kernel_rfl) (by kernel_rfl) (by kernel_rfl) ?g0_r1 ?gop_r1 ?gend_r1
        case g0_r1 => exact (M_wsw.re (P' := P + 510) (by omega)).drew
        case gop_r1 =>
         refine ⟨?_, ?o1, ?_, ?o3, ?o4, ?_, ?o6, ?o7, ?o8, ?_, ?o10, ?o11, ?o12, trivial⟩ <;> (intro kx xs wx hk hG hD hI Qo Kx hK hQo; simp only [patchS, Nat.reduceAdd, Nat.reduceEqDiff, ↓reduceIte] at hQo ⊢)
         case o1 =>
          have d0 : _ = _ := hD 0 rfl
          clear hD hI
          generalize xs 0 = y0 at *
          subst d0
          go_wp2_with fail
          refine (pick_c _ _ _ _ hG.1.2 (DG.small hk (by decide) (by decide) (by omega)) (by omega) (by omega)).mono ?_
          rintro e w4 ⟨xx, rfl, xa, xb, rd, gr⟩
          go_wp2
          exact hK.out _ _ ⟨⟨xx, rfl, xa, by omega⟩, hG.more gr rd (by decide), fun i _ _ _ own ys h => Hext.out i own ys _ _ gr h⟩
         case o3 =>
          have d2 : _ = _ := hD 2 rfl
          clear hD hI
          generalize xs 2 = y2 at *
          subst d2
          go_wp2_with fail
          refine (pick_c _ _ _ _ hG.1.2 (DG.small hk (by decide) (by decide) (by omega)) (by omega) (by omega)).mono ?_
          rintro e w4 ⟨xx, rfl, xa, xb, rd, gr⟩
          go_wp2
          exact hK.out _ _ ⟨⟨xx, rfl, xa, by omega⟩, hG.more gr rd (by decide), fun i _ _ _ own ys h => Hext.out i own ys _ _ gr h⟩
         case o4 =>
          clear hD hI
          have e5 := Ext.alloc wx (.cells #[.int .i64 4081, .int .i64 (-4081), .int .i64 1] 3)
          go_wp2
          exact hK.out _ _ ⟨⟨_, [4081, (-4081), 1], rfl, by have := hG.2.1.lt; omega, Sl_new _ _ _, by simp <;> omega⟩, hG.ext e5, fun i _ _ _ own ys h => Hext.out i own ys _ _ (ext_gr e5) h⟩
         case o6 =>
          have d5 : _ = _ := hD 5 rfl
          clear hD hI
          generalize xs 5 = y5 at *
          subst d5
          go_wp2_with fail
          refine (pick_c _ _ _ _ hG.1.2 (DG.small hk (by decide) (by decide) (by omega)) (by omega) (by omega)).mono ?_
          rintro e w4 ⟨xx, rfl, xa, xb, rd, gr⟩
          go_wp2
          exact hK.out _ _ ⟨⟨xx, rfl, xa, by omega⟩, hG.more gr rd (by decide), fun i _ _ _ own ys h => Hext.out i own ys _ _ gr h⟩
         case o7 =>
          have d4 : SlR wx (q + 1) (xs 4) 3 (-4081) (4081) := hD 4 rfl
          have d6 : ∃ x : Int, (xs 6) = .int .i64 x ∧ 0 ≤ x ∧ x < 3 := hD 6 rfl
          clear hD hI
          generalize xs 4 = y4 at *
          generalize xs 6 = y6 at *
          obtain ⟨g4, l4, rfl, n4, s4, r4⟩ := d4
          obtain ⟨x6, rfl, x6a, x6b⟩ := d6
          go_wp2
          exact hK.out _ _ ⟨SlR.at n4 s4 r4 (by omega), hG.step, fun _ _ _ _ _ _ h => h⟩
         case o8 =>
          have d7 : PtR wx (q + 1) (xs 7) (-4081) (4081) := hD 7 rfl
          clear hD hI
          generalize xs 7 = y7 at *
          obtain ⟨g7, j7, y7, rfl, n7, c7, y7a, y7b⟩ := d7
          go_wp2
          exact hK.out _ _ ⟨⟨_, rfl, by omega, by omega⟩, hG.step, fun _ _ _ _ _ _ h => h⟩
         case o10 =>
          have d1 : ∃ x : Int, (xs 1) = .int .i64 x ∧ 0 ≤ x ∧ x < 4 := hD 1 rfl
          have d9 : _ = _ := hD 9 rfl
          clear hD hI
          generalize xs 1 = y1 at *
          generalize xs 9 = y9 at *
          obtain ⟨x1, rfl, x1a, x1b⟩ := d1
          subst d9
          obtain ⟨j1, rfl⟩ := Int.eq_ofNat_of_zero_le x1a
          go_wp2
          exact hK.out _ _ ⟨⟨j1, rfl, by omega⟩, hG.step, fun _ _ _ _ _ _ h => h⟩
         case o11 =>
          have d3 : ∃ x : Int, (xs 3) = .int .i64 x ∧ 0 ≤ x ∧ x < 16 := hD 3 rfl
          have d10 : ∃ j : Nat, (xs 10) = .pointer (some ⟨q, 7 + j * 16, none⟩) ∧ j < 4 := hD 10 rfl
          clear hD hI
          generalize xs 3 = y3 at *
          generalize xs 10 = y10 at *
          obtain ⟨x3, rfl, x3a, x3b⟩ := d3
          obtain ⟨j10, rfl, h10⟩ := d10
          obtain ⟨j3, rfl⟩ := Int.eq_ofNat_of_zero_le x3a
          go_wp2
          exact hK.out _ _ ⟨⟨_, rfl, by omega⟩, hG.step, fun _ _ _ _ _ _ h => h⟩
         case o12 =>
          have d8 : ∃ x : Int, (xs 8) = .int .i64 x ∧ -4081 ≤ x ∧ x ≤ 4081 := hD 8 rfl
          have d11 : ∃ j : Nat, (xs 11) = .pointer (some ⟨q, j, none⟩) ∧ j < 71 := hD 11 rfl
          clear hD hI
          generalize xs 8 = y8 at *
          generalize xs 11 = y11 at *
          obtain ⟨x8, rfl, x8a, x8b⟩ := d8
          obtain ⟨j11, rfl, h11⟩ := d11
          obtain ⟨u1, c1, f1, -⟩ := hG.cell h11
          go_wp2
          have hst : ∀ (wy : World), (∀ (B : Nat) (v : Value) (n : Nat) (lo hi : Int), q < B → (SlR wx B v n lo hi → SlR wy B v n lo hi) ∧ (PtR wx B v lo hi → PtR wy B v lo hi)) → ∀ (ii : Nat), ii < 13 → ii ≠ 12 → ([[], [0], [], [0, 1, 2], [], [], [0, 1, 2, 3, 5], [0, 1, 2, 3, 4, 5, 6], [0, 1, 2, 3, 4, 5, 6, 7], [], [0, 1, 9], [0, 1, 2, 3, 4, 5, 6, 7, 8, 9, 10], [0, 1, 2, 3, 4, 5, 6, 7, 8, 9, 10, 11]].getD ii []).contains 12 = false → ∀ (own : Value) (ys : Nat → Value), (match ii with | 0 => own = .pointer (some ⟨b, 0, none⟩) | 1 => ∃ x : Int, own = .int .i64 x ∧ 0 ≤ x ∧ x < 4 | 2 => own = .pointer (some ⟨b, 0, none⟩) | 3 => ∃ x : Int, own = .int .i64 x ∧ 0 ≤ x ∧ x < 16 | 4 => SlR wx (q + 1) own 3 (-4081) (4081) | 5 => own = .pointer (some ⟨b, 0, none⟩) | 6 => ∃ x : Int, own = .int .i64 x ∧ 0 ≤ x ∧ x < 3 | 7 => PtR wx (q + 1) own (-4081) (4081) | 8 => ∃ x : Int, own = .int .i64 x ∧ -4081 ≤ x ∧ x ≤ 4081 | 9 => own = .pointer (some ⟨q, 7, none⟩) | 10 => ∃ j : Nat, own = .pointer (some ⟨q, 7 + j * 16, none⟩) ∧ j < 4 | 11 => ∃ j : Nat, own = .pointer (some ⟨q, j, none⟩) ∧ j < 71 | 12 => True | _ => True) → (match ii with | 0 => own = .pointer (some ⟨b, 0, none⟩) | 1 => ∃ x : Int, own = .int .i64 x ∧ 0 ≤ x ∧ x < 4 | 2 => own = .pointer (some ⟨b, 0, none⟩) | 3 => ∃ x : Int, own = .int .i64 x ∧ 0 ≤ x ∧ x < 16 | 4 => SlR wy (q + 1) own 3 (-4081) (4081) | 5 => own = .pointer (some ⟨b, 0, none⟩) | 6 => ∃ x : Int, own = .int .i64 x ∧ 0 ≤ x ∧ x < 3 | 7 => PtR wy (q + 1) own (-4081) (4081) | 8 => ∃ x : Int, own = .int .i64 x ∧ -4081 ≤ x ∧ x ≤ 4081 | 9 => own = .pointer (some ⟨q, 7, none⟩) | 10 => ∃ j : Nat, own = .pointer (some ⟨q, 7 + j * 16, none⟩) ∧ j < 4 | 11 => ∃ j : Nat, own = .pointer (some ⟨q, j, none⟩) ∧ j < 71 | 12 => True | _ => True) := by
           intro wy hy ii hii hne hc own ys h
           match ii, h with
           | 0, h | 1, h | 2, h | 3, h | 5, h | 6, h | 8, h | 9, h | 10, h | 11, h => exact h
           | 4, h => exact (hy _ _ _ _ _ (by omega)).1 h
           | 7, h => exact (hy _ _ 0 _ _ (by omega)).2 h
           | 12, h => exact absurd rfl hne
           | _ + 13, _ => trivial
          exact hQo undef _ (hK.out _ _ ⟨trivial, hG.step.set _ _ (by omega) (by omega), hst _ (fun B v n lo hi hB => ⟨fun h => h.set hB, fun h => h.set hB⟩)⟩)
         all_goals
          clear hD hI
          go_wp2
          exact hK.out _ _ ⟨rfl, hG.step, fun _ _ _ _ _ _ h => h⟩
        clear Hext
        intro xs wx hV hG
        have d1 : ∃ x : Int, (xs 1) = .int .i64 x ∧ 0 ≤ x ∧ x < 4 := hV 1 (by decide)
        clear hV
        simp only [patchS, Nat.reduceAdd, Nat.reduceEqDiff, ↓reduceIte]
        generalize xs 0 = y0 at *
        generalize xs 1 = y1 at *
        generalize xs 2 = y2 at *
        generalize xs 3 = y3 at *
        generalize xs 4 = y4 at *
        generalize xs 5 = y5 at *
        generalize xs 6 = y6 at *
        generalize xs 7 = y7 at *
        generalize xs 8 = y8 at *
        generalize xs 9 = y9 at *
        generalize xs 10 = y10 at *
        generalize xs 11 = y11 at *
        generalize xs 12 = y12 at *
        replace hG : MG w b (P+510) 13 q wx := hG
        obtain ⟨x1, rfl, x1a, x1b⟩ := d1
        go_wp2
        go_meet
        case rel => exact ⟨rfl, hG.re (by omega)⟩
       ·obtain ⟨zs, z1, z2, z3⟩ := M_wsw.2.1
        have Z2 := Lib.hid z2
        clear z2
        go_wp2_with (first | (refine wpList_ibuild 27 _ rfl rfl [0, 1] (built_Vec2 _) ?_) | (refine wpList_istore 27 _ _ rfl rfl z1 1 2 rfl _ rfl [0, 1] rfl size_Vector rfl (by rw [Z2.out]; simp) ?_; intro w6 p6 g6; refine Hid.out ?_))
        have M_w6 := M_wsw.spl g6 p6 Z2.out z3 (bdI_two (by omega) (by omega) (by omega) (by omega)) (by simp)
        refine Lib.hid ?_
        go_wp2
        go_meet
        case rel => exact ⟨rfl, M_w6.re (by omega)⟩
     case rest =>
      obtain ⟨rfl, M_wc⟩ := hcut
      clear M_wo
      obtain ⟨⟨gz, rz⟩, ⟨zs, z1, z2, z3⟩, RB, hz4⟩ := M_wc
      have Z2 := Lib.hid z2
      clear z2
      go_wp2_with (first | (refine wpList_iload 32 _ rfl rfl z1 0 71 rfl _ Tryz.underlying32 rfl size_Macro (by rw [Z2.out]; omega) _ (by rw [sub_all _ _ Z2.out]) ?_) | (refine wpList_istore 32 _ _ rfl rfl RB 0 71 rfl _ rfl zs rfl size_Macro Z2.out (by simp [zl]) ?_; intro wf pf gf; refine Hid.out ?_))
      rw [spl_all (by rw [Z2.out, zl_len])] at pf
      have rf := rz.grq gf hz4.1
      have gg := gr_new gz gf (Nat.le_refl _)
      refine Lib.hid ?_
      go_wp2
      exact bodyPost_ret (v := .agg (ic zs)) (results_cell_row rfl _ _ w.heap.size 32 (ic zs) (0, 0) _ rfl pf Tryz.underlying32 rfl (by rw [ic_size, Z2.out]; exact size_Macro)) rfl ⟨zs, rfl, Z2.out, z3, rf.mono (by omega), gg⟩
end Go.Proofs.YtbnhaegidfbgbaaGreatDoor
