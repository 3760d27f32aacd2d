/- Drawing: blocks of levels. -/
import Derived.Test.YtlmoeabchiddnaaDoorDm
namespace Go.Proofs.YtlmoeabchiddnaaDoor
open Go.RowKit
set_option maxHeartbeats 1000000
/-- A row written that the call made is as good as what it grew by. -/
theorem gr_new {w w1 w2 : World} {r : Option Nat} {q : Nat} (g : w.grownBy w1 r) (h : w1.grownBy w2 (some q)) (hq : w.heap.size ≤ q) : w.grownBy w2 r :=
  ⟨h.os.trans g.os, h.tape.trans g.tape, h.output.trans g.output, Nat.le_trans g.size h.size, fun k hk hne => (h.block k (Nat.lt_of_lt_of_le hk g.size) (by simp; omega)).trans (g.block k hk hne)⟩
theorem RdP.grq {w w' : World} {b P q : Nat} (h : RdP w b P) (g : w.grownBy w' (some q)) (hq : b < q) : RdP w' b P := by
  obtain ⟨p, hp, a, m, c, zs, h1, h2, h3, h4, h5⟩ := h
  refine ⟨p, hp, a, m, c, zs, by rw [g.block b (lt_of_block h1) (by simp; omega)]; exact h1, h2, ?_, h4, h5⟩
  rcases h4 with h4 | h4
  · subst h4
    exact ⟨h3.1, fun i hi => by omega⟩
  · exact h3.grown g (fun x hx e => by have := h4 x hx; simp at e; omega)
theorem DG.grq {w wx wy : World} {b P C k q : Nat} (h : DG w b P C k wx) (g : wx.grownBy wy (some q)) (hq : w.heap.size ≤ q) (hb : b < q) : DG w b P C k wy := ⟨gr_new h.1 g hq, h.2.grq g hb⟩
theorem zero_A16 : (Tryd.prog.info? 25).map (·.zero) = some (some (.agg (ic (zl 16)))) := by kernel_rfl
set_option maxRecDepth 100000 in
set_option maxHeartbeats 3000000 in
theorem l20Block_c (b P : Nat) (most n : Int) (w : World) (h : RdP w b P) (hp : P < 2^38) (hm0 : 1 ≤ most) (hm1 : most ≤ 5000) (hn0 : 0 ≤ n) (hn : n ≤ 1000000) :
    Calls Tryd.prog 103 #[.pointer (some ⟨b, 0, none⟩), .int .i64 most, .int .i64 n] w fun e w' => ∃ zs : List Int, e = .returned (.agg (ic zs)) ∧ zs.length = 16 ∧ bdI 10000 zs ∧ RdP w' b (P + 100) ∧ w.grownBy w' (some b) := by
  have hbw : b < w.heap.size := h.lt
  go_enter Tryd.func103, Tryd.ntmps103
  have R1 := (IB.new w 25 (zl 16)).alloc (.cells (ic (zl 16)) 25)
  have Q1 := IB.new (w.alloc (.cells (ic (zl 16)) 25)) 25 (zl 16)
  have E1 := (Ext.alloc w (.cells (ic (zl 16)) 25)).trans (Ext.alloc _ (.cells (ic (zl 16)) 25))
  simp only [World.size_alloc] at Q1
  go_wp2_with (first | ((refine wpList_iallocz 25 rfl rfl 16 zero_A16 ?_); (try simp only [World.size_alloc])) | (refine wpList_izeroz 25 rfl rfl Tryd.underlying25 size_int 16 zero_A16 ?_) | (refine wpList_istore 25 _ _ rfl rfl Q1 0 16 rfl _ rfl _ rfl size_A16 (zl_len 16) (by simp [zl]) ?_; intro w1 q1 g1; refine Hid.out ?_))
  rw [spl_all (by rw [zl_len])] at q1
  have D1 : DG w b P 0 0 w1 := ⟨gr_new (ext_gr E1) g1 (by omega), (h.ext E1).grq g1 (by omega)⟩
  have R2 := R1.gr g1 (by simp)
  have Q2 : IQ 10000 w1 (w.heap.size + 1) 25 16 := ⟨zl 16, q1, zl_len 16, bdI_zero _ _ (by omega)⟩
  clear R1 Q1 E1 q1 g1 h
  obtain ⟨q, hq⟩ : ∃ q, q = w.heap.size + 1 := ⟨_, rfl⟩
  refine Lib.hid ?_
  rw [← hq] at Q2 ⊢
  have hqw : w.heap.size < q := by omega
  have hqb : b < q := by omega
  clear hq
  go_wp2_with fail
  refine (pick_c b _ 5 _ D1.2 (by omega) (by omega) (by omega)).mono ?_
  rintro e w2 ⟨kd, rfl, kda, kdb, r2, g2⟩
  have D2 : DG w b (P + 2) 0 0 w2 := ⟨grown_trans D1.1 g2, r2.mono (by omega)⟩
  have R3 := R2.gr g2 (by simp; omega)
  have Q3 := Q2.gr g2 (by omega)
  clear D1 R2 Q2 r2 g2
  go_wp2_with fail
  go_loopw [9] (fun i wr => ∃ k : Nat, k ≤ 16 ∧ i = .int .i64 k ∧ DG w b (P + 2 + k * 3) 0 0 wr ∧ IQ 10000 wr q 25 16 ∧ IB wr w.heap.size 25 (zl 16)) (fun i _ => 16 - (intOf i).toNat)
  case atStart => exact ⟨0, by omega, rfl, ⟨D2.1, D2.2.mono (by omega)⟩, Q3, R3⟩
  case round =>
    obtain ⟨k, hk, rfl, D_wr, Q_wr, R_wr⟩ := hrel
    clear D2 Q3 R3
    by_cases hlt : k < 16
    · obtain rfl | rfl | rfl | rfl | rfl : kd = 0 ∨ kd = 1 ∨ kd = 2 ∨ kd = 3 ∨ kd = 4 := by omega
      · go_wp2_with fail
        refine (pick_c b _ 7 _ D_wr.2 (by omega) (by omega) (by omega)).mono ?_
        rintro e wa ⟨ya, rfl, yaa, yab, r_wa, g_wa⟩
        have D_wa : DG w b (P + 2 + k * 3 + 1) 0 0 wa := ⟨grown_trans D_wr.1 g_wa, r_wa.mono (by omega)⟩
        have Q_wa := Q_wr.gr g_wa (by omega)
        have R_wa := R_wr.gr g_wa (by simp; omega)
        clear D_wr Q_wr R_wr r_wa g_wa
        obtain ⟨u, cu, fu, -⟩ := Q_wa.cell (i := k) (by omega)
        go_wp2
        go_roundw
        case rel => exact ⟨k + 1, by omega, by go_num, ⟨(D_wa.set (by omega) hqb).1, (D_wa.set (by omega) hqb).2.mono (by omega)⟩, Q_wa.set k _ (by omega) (by omega), R_wa.set_other (by omega)⟩
        case measure => simp [intOf]; omega
      · go_wp2_with fail
        refine (pick_c b _ 256 _ D_wr.2 (by omega) (by omega) (by omega)).mono ?_
        rintro e wa ⟨ya, rfl, yaa, yab, r_wa, g_wa⟩
        have D_wa : DG w b (P + 2 + k * 3 + 1) 0 0 wa := ⟨grown_trans D_wr.1 g_wa, r_wa.mono (by omega)⟩
        have Q_wa := Q_wr.gr g_wa (by omega)
        have R_wa := R_wr.gr g_wa (by simp; omega)
        clear D_wr Q_wr R_wr r_wa g_wa
        go_wp2_with fail
        refine (pick_c b _ 256 _ D_wa.2 (by omega) (by omega) (by omega)).mono ?_
        rintro e wb ⟨yb, rfl, yba, ybb, r_wb, g_wb⟩
        have D_wb : DG w b (P + 2 + k * 3 + 2) 0 0 wb := ⟨grown_trans D_wa.1 g_wb, r_wb.mono (by omega)⟩
        have Q_wb := Q_wa.gr g_wb (by omega)
        have R_wb := R_wa.gr g_wb (by simp; omega)
        clear D_wa Q_wa R_wa r_wb g_wb
        have hmr := mod_rng (a := ya * 256 + yb) (b := 2 * most + 1) (by omega) (by omega)
        obtain ⟨u, cu, fu, -⟩ := Q_wb.cell (i := k) (by omega)
        go_wp2
        go_roundw
        case rel => exact ⟨k + 1, by omega, by go_num, ⟨(D_wb.set (by omega) hqb).1, (D_wb.set (by omega) hqb).2.mono (by omega)⟩, Q_wb.set k _ (by omega) (by omega), R_wb.set_other (by omega)⟩
        case measure => simp [intOf]; omega
      · have e5 := Ext.alloc wr (.cells #[.int .i64 most, .int .i64 (-most), .int .i64 0] 3)
        have S5 := blk_new wr (.cells #[.int .i64 most, .int .i64 (-most), .int .i64 0] 3)
        have hb5 := D_wr.2.lt
        have D_w5 : DG w b (P + 2 + k * 3) 0 0 (wr.alloc (.cells #[.int .i64 most, .int .i64 (-most), .int .i64 0] 3)) := ⟨grown_ext D_wr.1 e5, D_wr.2.ext e5⟩
        have Q_w5 := Q_wr.ext e5
        have R_w5 := R_wr.ext e5
        clear D_wr Q_wr R_wr e5
        go_wp2_with fail
        refine (pick_c b _ 3 _ D_w5.2 (by omega) (by omega) (by omega)).mono ?_
        rintro e wa ⟨ya, rfl, yaa, yab, r_wa, g_wa⟩
        have D_wa : DG w b (P + 2 + k * 3 + 1) 0 0 wa := ⟨grown_trans D_w5.1 g_wa, r_wa.mono (by omega)⟩
        have Q_wa := Q_w5.gr g_wa (by omega)
        have R_wa := R_w5.gr g_wa (by simp; omega)
        have S6 := gr_blk g_wa S5 (by omega)
        obtain ⟨-, s0, s1, s2, -, -, -⟩ := bx3 S6
        clear S5 S6 D_w5 Q_w5 R_w5 r_wa g_wa
        obtain rfl | rfl | rfl : ya = 0 ∨ ya = 1 ∨ ya = 2 := by omega
        · obtain ⟨u, cu, fu, -⟩ := Q_wa.cell (i := k) (by omega)
          go_wp2
          go_roundw
          case rel => exact ⟨k + 1, by omega, by go_num, ⟨(D_wa.set (by omega) hqb).1, (D_wa.set (by omega) hqb).2.mono (by omega)⟩, Q_wa.set k _ (by omega) (by omega), R_wa.set_other (by omega)⟩
          case measure => simp [intOf]; omega
        · obtain ⟨u, cu, fu, -⟩ := Q_wa.cell (i := k) (by omega)
          go_wp2
          go_roundw
          case rel => exact ⟨k + 1, by omega, by go_num, ⟨(D_wa.set (by omega) hqb).1, (D_wa.set (by omega) hqb).2.mono (by omega)⟩, Q_wa.set k _ (by omega) (by omega), R_wa.set_other (by omega)⟩
          case measure => simp [intOf]; omega
        · obtain ⟨u, cu, fu, -⟩ := Q_wa.cell (i := k) (by omega)
          go_wp2
          go_roundw
          case rel => exact ⟨k + 1, by omega, by go_num, ⟨(D_wa.set (by omega) hqb).1, (D_wa.set (by omega) hqb).2.mono (by omega)⟩, Q_wa.set k _ (by omega) (by omega), R_wa.set_other (by omega)⟩
          case measure => simp [intOf]; omega
      · go_wp2_with fail
        refine (pick_c b _ 3 _ D_wr.2 (by omega) (by omega) (by omega)).mono ?_
        rintro e wa ⟨ya, rfl, yaa, yab, r_wa, g_wa⟩
        have D_wa : DG w b (P + 2 + k * 3 + 1) 0 0 wa := ⟨grown_trans D_wr.1 g_wa, r_wa.mono (by omega)⟩
        have Q_wa := Q_wr.gr g_wa (by omega)
        have R_wa := R_wr.gr g_wa (by simp; omega)
        clear D_wr Q_wr R_wr r_wa g_wa
        obtain ⟨u, cu, fu, -⟩ := Q_wa.cell (i := k) (by omega)
        go_wp2
        go_roundw
        case rel => exact ⟨k + 1, by omega, by go_num, ⟨(D_wa.set (by omega) hqb).1, (D_wa.set (by omega) hqb).2.mono (by omega)⟩, Q_wa.set k _ (by omega) (by omega), R_wa.set_other (by omega)⟩
        case measure => simp [intOf]; omega
      · go_wp2_with fail
        refine (pick_c b _ 4 _ D_wr.2 (by omega) (by omega) (by omega)).mono ?_
        rintro e wa ⟨ya, rfl, yaa, yab, r_wa, g_wa⟩
        have D_wa : DG w b (P + 2 + k * 3 + 1) 0 0 wa := ⟨grown_trans D_wr.1 g_wa, r_wa.mono (by omega)⟩
        have Q_wa := Q_wr.gr g_wa (by omega)
        have R_wa := R_wr.gr g_wa (by simp; omega)
        clear D_wr Q_wr R_wr r_wa g_wa
        by_cases hy : ya = 0
        · subst hy
          have Hm1 := Lib.hid hm1
          clear hm1
          go_wp2_with fail
          · refine (pick_c b _ 121 _ D_wa.2 (by omega) (by omega) (by omega)).mono ?_
            rintro e wb ⟨yb, rfl, yba, ybb, r_wb, g_wb⟩
            have D_wb : DG w b (P + 2 + k * 3 + 2) 0 0 wb := ⟨grown_trans D_wa.1 g_wb, r_wb.mono (by omega)⟩
            have Q_wb := Q_wa.gr g_wb (by omega)
            have R_wb := R_wa.gr g_wb (by simp; omega)
            clear D_wa Q_wa R_wa r_wb g_wb
            obtain ⟨u, cu, fu, -⟩ := Q_wb.cell (i := k) (by omega)
            go_wp2
            go_roundw
            case rel => exact ⟨k + 1, by omega, by go_num, ⟨(D_wb.set (by omega) hqb).1, (D_wb.set (by omega) hqb).2.mono (by omega)⟩, Q_wb.set k _ (by omega) (by omega), R_wb.set_other (by omega)⟩
            case measure => simp [intOf]; omega
          · refine (pick_c b _ (2 * most + 1) _ D_wa.2 (by omega) (by omega) (by have := Hm1.out; omega)).mono ?_
            rintro e wb ⟨yb, rfl, yba, ybb, r_wb, g_wb⟩
            have D_wb : DG w b (P + 2 + k * 3 + 2) 0 0 wb := ⟨grown_trans D_wa.1 g_wb, r_wb.mono (by omega)⟩
            have Q_wb := Q_wa.gr g_wb (by omega)
            have R_wb := R_wa.gr g_wb (by simp; omega)
            clear D_wa Q_wa R_wa r_wb g_wb
            obtain ⟨u, cu, fu, -⟩ := Q_wb.cell (i := k) (by omega)
            go_wp2
            go_roundw
            case rel => exact ⟨k + 1, by omega, by go_num, ⟨(D_wb.set (by omega) hqb).1, (D_wb.set (by omega) hqb).2.mono (by omega)⟩, Q_wb.set k _ (by omega) (by omega), R_wb.set_other (by omega)⟩
            case measure => simp [intOf]; omega
        · have hd : (ya == 0) = false := by simpa using hy
          go_wp2
          go_roundw
          case rel => exact ⟨k + 1, by omega, by go_num, ⟨D_wa.1, D_wa.2.mono (by omega)⟩, Q_wa, R_wa⟩
          case measure => simp [intOf]; omega
    · obtain rfl : k = 16 := by omega
      have D4 : DG w b (P + 60) 0 0 wr := ⟨D_wr.1, D_wr.2.mono (by omega)⟩
      clear D_wr
      by_cases hn1 : n = 0
      · subst hn1
        go_wp2_with fail
        refine (odd_0 b 0 _ (by omega)).mono ?_
        rintro e w7 ⟨rfl, rfl⟩
        obtain ⟨zs, z1, z2, z3⟩ := Q_wr
        have Z2 := Lib.hid z2
        clear z2
        go_wp2_with (first | (refine wpList_iload 25 _ rfl rfl z1 0 16 rfl _ Tryd.underlying25 rfl size_A16 (by rw [Z2.out]; omega) _ (by rw [sub_all _ _ Z2.out]) ?_) | (refine wpList_istore 25 _ _ rfl rfl R_wr 0 16 rfl _ rfl zs rfl size_A16 Z2.out (by simp [zl]) ?_; intro wf pf gf; refine Hid.out ?_))
        rw [spl_all (by rw [Z2.out, zl_len])] at pf
        have D9 := D4.grq gf (Nat.le_refl _) hbw
        refine Lib.hid ?_
        go_wp2
        exact bodyPost_ret (v := .agg (ic zs)) (results_cell_row rfl _ _ w.heap.size 25 (ic zs) (0, 0) _ rfl pf Tryd.underlying25 rfl (by rw [ic_size, Z2.out]; exact size_A16)) rfl ⟨zs, rfl, Z2.out, z3, D9.2.mono (by omega), D9.1⟩
      · go_wp2_with fail
        refine (odd_c b _ n _ D4.2 (by omega) (by omega) (by omega)).mono ?_
        rintro e w7 ⟨x7, rfl, r7, g7⟩
        have D7 : DG w b (P + 61) 0 0 w7 := ⟨grown_trans D4.1 g7, r7.mono (by omega)⟩
        have Q7 := Q_wr.gr g7 (by omega)
        have R7 := R_wr.gr g7 (by simp; omega)
        clear D4 Q_wr R_wr r7 g7
        cases x7
        · skip
          obtain ⟨zs, z1, z2, z3⟩ := Q7
          have Z2 := Lib.hid z2
          clear z2
          go_wp2_with (first | (refine wpList_iload 25 _ rfl rfl z1 0 16 rfl _ Tryd.underlying25 rfl size_A16 (by rw [Z2.out]; omega) _ (by rw [sub_all _ _ Z2.out]) ?_) | (refine wpList_istore 25 _ _ rfl rfl R7 0 16 rfl _ rfl zs rfl size_A16 Z2.out (by simp [zl]) ?_; intro wf pf gf; refine Hid.out ?_))
          rw [spl_all (by rw [Z2.out, zl_len])] at pf
          have D9 := D7.grq gf (Nat.le_refl _) hbw
          refine Lib.hid ?_
          go_wp2
          exact bodyPost_ret (v := .agg (ic zs)) (results_cell_row rfl _ _ w.heap.size 25 (ic zs) (0, 0) _ rfl pf Tryd.underlying25 rfl (by rw [ic_size, Z2.out]; exact size_A16)) rfl ⟨zs, rfl, Z2.out, z3, D9.2.mono (by omega), D9.1⟩
        · go_wp2_with fail
          refine (pick_c b _ 16 _ D7.2 (by omega) (by omega) (by omega)).mono ?_
          rintro e w8 ⟨y8, rfl, y8a, y8b, r8, g8⟩
          have D8 : DG w b (P + 62) 0 0 w8 := ⟨grown_trans D7.1 g8, r8.mono (by omega)⟩
          have Q8 := Q7.gr g8 (by omega)
          have R8 := R7.gr g8 (by simp; omega)
          clear D7 Q7 R7 r8 g8
          have e9 := Ext.alloc w8 (.cells #[.int .i64 (most + 1), .int .i64 (-most - 1)] 3)
          have S9 := blk_new w8 (.cells #[.int .i64 (most + 1), .int .i64 (-most - 1)] 3)
          have D9 : DG w b (P + 62) 0 0 (w8.alloc (.cells #[.int .i64 (most + 1), .int .i64 (-most - 1)] 3)) := ⟨grown_ext D8.1 e9, D8.2.ext e9⟩
          have hb9 := D8.2.lt
          have Q9 := Q8.ext e9
          have R9 := R8.ext e9
          clear D8 Q8 R8 e9
          go_wp2_with fail
          refine (pick_c b _ 2 _ D9.2 (by omega) (by omega) (by omega)).mono ?_
          rintro e wa ⟨y9, rfl, y9a, y9b, ra, ga⟩
          have DA : DG w b (P + 63) 0 0 wa := ⟨grown_trans D9.1 ga, ra.mono (by omega)⟩
          have SA := gr_blk ga S9 (by omega)
          have QA := Q9.gr ga (by omega)
          have RA := R9.gr ga (by simp; omega)
          clear D9 Q9 R9 S9 ra ga
          obtain ⟨-, s0, s1, -, -⟩ := bx2 SA
          obtain ⟨j, rfl⟩ := Int.eq_ofNat_of_zero_le y8a
          obtain ⟨u0, c0, f0, -⟩ := QA.cell (i := j) (by omega)
          obtain rfl | rfl : y9 = 0 ∨ y9 = 1 := by omega
          · have DB := DA.set (q := q) (j := j) (v := .int .i64 (most + 1)) (by omega) hqb
            have QB := QA.set j (most + 1) (by omega) (by omega)
            have RB := RA.set_other (c := q) (i := j) (v := .int .i64 (most + 1)) (by omega)
            go_upto_region 19 with (fail)
            generalize wa.setCell ⟨q, j, none⟩ (.int .i64 (most + 1)) = wb at *
            clear c0 f0 s0 s1 SA DA QA RA
            obtain ⟨zs, z1, z2, z3⟩ := QB
            have Z2 := Lib.hid z2
            clear z2
            go_wp2_with (first | (refine wpList_iload 25 _ rfl rfl z1 0 16 rfl _ Tryd.underlying25 rfl size_A16 (by rw [Z2.out]; omega) _ (by rw [sub_all _ _ Z2.out]) ?_) | (refine wpList_istore 25 _ _ rfl rfl RB 0 16 rfl _ rfl zs rfl size_A16 Z2.out (by simp [zl]) ?_; intro wf pf gf; refine Hid.out ?_))
            rw [spl_all (by rw [Z2.out, zl_len])] at pf
            have D9 := DB.grq gf (Nat.le_refl _) hbw
            refine Lib.hid ?_
            go_wp2
            exact bodyPost_ret (v := .agg (ic zs)) (results_cell_row rfl _ _ w.heap.size 25 (ic zs) (0, 0) _ rfl pf Tryd.underlying25 rfl (by rw [ic_size, Z2.out]; exact size_A16)) rfl ⟨zs, rfl, Z2.out, z3, D9.2.mono (by omega), D9.1⟩
          · have DB := DA.set (q := q) (j := j) (v := .int .i64 (-most - 1)) (by omega) hqb
            have QB := QA.set j (-most - 1) (by omega) (by omega)
            have RB := RA.set_other (c := q) (i := j) (v := .int .i64 (-most - 1)) (by omega)
            go_upto_region 19 with (fail)
            generalize wa.setCell ⟨q, j, none⟩ (.int .i64 (-most - 1)) = wb at *
            clear c0 f0 s0 s1 SA DA QA RA
            obtain ⟨zs, z1, z2, z3⟩ := QB
            have Z2 := Lib.hid z2
            clear z2
            go_wp2_with (first | (refine wpList_iload 25 _ rfl rfl z1 0 16 rfl _ Tryd.underlying25 rfl size_A16 (by rw [Z2.out]; omega) _ (by rw [sub_all _ _ Z2.out]) ?_) | (refine wpList_istore 25 _ _ rfl rfl RB 0 16 rfl _ rfl zs rfl size_A16 Z2.out (by simp [zl]) ?_; intro wf pf gf; refine Hid.out ?_))
            rw [spl_all (by rw [Z2.out, zl_len])] at pf
            have D9 := DB.grq gf (Nat.le_refl _) hbw
            refine Lib.hid ?_
            go_wp2
            exact bodyPost_ret (v := .agg (ic zs)) (results_cell_row rfl _ _ w.heap.size 25 (ic zs) (0, 0) _ rfl pf Tryd.underlying25 rfl (by rw [ic_size, Z2.out]; exact size_A16)) rfl ⟨zs, rfl, Z2.out, z3, D9.2.mono (by omega), D9.1⟩
end Go.Proofs.YtlmoeabchiddnaaDoor
