/- Drawing: indices; the arguments of RequantizeMacro. -/
import Derived.Test.YtlmoeabchiddnaaDoorDr
namespace Go.Proofs.YtlmoeabchiddnaaDoor
open Go.RowKit
set_option maxHeartbeats 1000000
theorem l20Q_c (b P : Nat) (n : Int) (w : World) (h : RdP w b P) (hp : P < 2^38) (hn0 : 0 ≤ n) (hn : n ≤ 1000000) :
    Calls Tryd.prog 74 #[.pointer (some ⟨b, 0, none⟩), .int .i64 n] w fun e w' => ∃ x : Int, e = .returned (.int .i64 x) ∧ -1 ≤ x ∧ x ≤ 16 ∧ RdP w' b (P + 4) ∧ w.grownBy w' (some b) := by
  have hbw : b < w.heap.size := h.lt
  go_enter Tryd.func74, Tryd.ntmps74
  go_wp2_with fail
  refine (odd_any b _ n _ h (by omega) hn0 (by omega)).mono ?_
  rintro e w1 ⟨x1, rfl, r1, g1⟩
  clear h
  cases x1
  · go_wp2_with fail
    refine (pick_c b _ 16 _ r1 (by omega) (by omega) (by omega)).mono ?_
    rintro e w2 ⟨x2, rfl, x2a, x2b, r2, g2⟩
    go_wp2_with fail
    refine (pick_c b _ 5 _ r2 (by omega) (by omega) (by omega)).mono ?_
    rintro e w3 ⟨x3, rfl, x3a, x3b, r3, g3⟩
    have e4 := Ext.alloc w3 (.cells #[.int .i64 x2, .int .i64 x3] 3)
    have S4 := blk_new w3 (.cells #[.int .i64 x2, .int .i64 x3] 3)
    have r4 := r3.ext e4
    have g4 := grown_ext (grown_trans (grown_trans g1 g2) g3) e4
    have hb3 := r3.lt
    clear r1 r2 r3 g1 g2 g3 e4
    go_wp2_with fail
    refine (pick_c b _ 2 _ r4 (by omega) (by omega) (by omega)).mono ?_
    rintro e w5 ⟨x5, rfl, x5a, x5b, r5, g5⟩
    have S5 := gr_blk g5 S4 (by omega)
    obtain ⟨-, s0, s1, -, -⟩ := bx2 S5
    have g6 := grown_trans g4 g5
    clear S4 S5 g4 g5 r4
    obtain rfl | rfl : x5 = 0 ∨ x5 = 1 := by omega
    · go_wp2
      go_ret
      exact ⟨x2, rfl, by omega, by omega, r5.mono (by omega), g6⟩
    · go_wp2
      go_ret
      exact ⟨x3, rfl, by omega, by omega, r5.mono (by omega), g6⟩
  · have e2 := Ext.alloc w1 (.cells #[.int .i64 (-1), .int .i64 16] 3)
    have S2 := blk_new w1 (.cells #[.int .i64 (-1), .int .i64 16] 3)
    have r2 := r1.ext e2
    have g2 := grown_ext g1 e2
    have hb3 := r1.lt
    clear r1 g1 e2
    go_wp2_with fail
    refine (pick_c b _ 2 _ r2 (by omega) (by omega) (by omega)).mono ?_
    rintro e w5 ⟨x5, rfl, x5a, x5b, r5, g5⟩
    have S5 := gr_blk g5 S2 (by omega)
    obtain ⟨-, s0, s1, -, -⟩ := bx2 S5
    have g6 := grown_trans g2 g5
    clear S2 S5 g2 g5 r2
    obtain rfl | rfl : x5 = 0 ∨ x5 = 1 := by omega
    · go_wp2
      go_ret
      exact ⟨-1, rfl, by omega, by omega, r5.mono (by omega), g6⟩
    · go_wp2
      go_ret
      exact ⟨16, rfl, by omega, by omega, r5.mono (by omega), g6⟩
set_option maxRecDepth 100000 in
theorem DrawRequantizeMacro_any (a : Option Addr) (c n : Nat) (zs : List Int) (w : World) (hc : n ≤ c) (hc2 : c ≤ 9223372036854775807) (r : Sl w a n (zs.map (Value.int .u8))) (hz : ∀ z ∈ zs, 0 ≤ z ∧ z ≤ 255) :
    Calls Tryd.prog 35 #[.slice a n c] w fun e w' => ∃ (m : Mac) (f t : Int), e = .returned (.tuple #[.agg (ic m.zs), .int .i64 f, .int .i64 t]) ∧ m.ok ∧ bdI 10000 m.zs ∧ -1 ≤ f ∧ f ≤ 16 ∧ -1 ≤ t ∧ t ≤ 16 ∧ Ext w w' := by
  go_enter Tryd.func35, Tryd.ntmps35
  go_wp2_with (refine wpList_iallocz 33 rfl rfl 71 zero_Macz ?_; (try simp only [World.size_alloc]))
  have e0 := Ext.alloc w (.cells (ic (zl 71)) 33)
  have i0 := IB.new w 33 (zl 71)
  refine (open_any a c n zs _ hc hc2 (r.ext e0) hz).mono ?_
  rintro e w1 ⟨b, rfl, rd, e1, hb⟩
  have hrb : w.heap.size < b := by simp at hb; omega
  have D1 : DG w b 0 1 0 w1 := ⟨ext_gr (e0.trans e1), ⟨0, by omega, rd⟩⟩
  have i1 := i0.ext e1
  clear r hz rd hb e0 e1 i0
  go_wp2_with fail
  refine (l20Macro_c b _ false 9 _ D1.2 (by omega) (by omega) (by omega)).mono ?_
  rintro e w2 ⟨ms, rfl, ml, mb, r2, g2⟩
  have Ml := Lib.hid ml
  have Mb := Lib.hid mb
  have i2 := i1.gr g2 (by simp; omega)
  have D2 : DG w b 600 1 0 w2 := ⟨grown_trans D1.1 g2, r2.mono (by omega)⟩
  clear ml mb D1 i1 r2 g2
  go_wp2_with fail
  refine (l20Q_c b _ 12 _ D2.2 (by omega) (by omega) (by omega)).mono ?_
  rintro e w3 ⟨f, rfl, fa, fb, r3, g3⟩
  have i3 := i2.gr g3 (by simp; omega)
  have D3 : DG w b 610 1 0 w3 := ⟨grown_trans D2.1 g3, r3.mono (by omega)⟩
  clear D2 i2 r3 g3
  go_wp2_with fail
  refine (l20Q_c b _ 12 _ D3.2 (by omega) (by omega) (by omega)).mono ?_
  rintro e w4 ⟨t, rfl, ta, tb, r4, g4⟩
  have i4 := i3.gr g4 (by simp; omega)
  have G4 := grown_trans D3.1 g4
  clear D3 i3 r4 g4
  go_wp2_with (refine wpList_istore 33 _ _ rfl rfl i4 0 71 rfl _ rfl ms rfl size_Macro Ml.out (by simp [zl]) ?_; intro wf pf gf; refine Hid.out ?_)
  rw [spl_all (by rw [Ml.out, zl_len])] at pf
  refine Lib.hid ?_
  go_wp2
  obtain ⟨m, hm1, hm2⟩ := Mac.of Ml.out
  have E5 : Ext w wf := Ext.grown (Ext.grown (Below.refl _ _) G4 (fun k hk => by simp at hk; omega)) gf (fun k hk => by simp at hk; omega)
  refine bodyPost_ret (results_ctt_row rfl _ _ w.heap.size 33 (ic ms) (0, 0) _ rfl pf Tryd.underlying33 rfl (by rw [ic_size, Ml.out]; exact size_Macro)) rfl ?_
  exact ⟨m, _, _, by rw [hm2]; rfl, hm1, by rw [hm2]; exact Mb.out, fa, fb, ta, tb, E5⟩
end Go.Proofs.YtlmoeabchiddnaaDoor
