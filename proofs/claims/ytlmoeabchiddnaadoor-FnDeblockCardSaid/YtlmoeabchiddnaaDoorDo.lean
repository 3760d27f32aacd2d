/- Drawing: macroblocks. -/
import Derived.Test.YtlmoeabchiddnaaDoorDn
import Derived.Test.YtlmoeabchiddnaaDoorMb
import Derived.Deep.CutRange
namespace Go.Proofs.YtlmoeabchiddnaaDoor
open Go.RowKit
set_option maxHeartbeats 1000000
section
variable {P : Program}
/-- T{..}, T of integers alone. -/
theorem wpList_ibuild {ops : Array Oper} {rest : List Oper} {o : Oper} {a : Act} {w : World} {Q : Exit → Act → World → Prop} (t : TypeId) (parts : Array (Nat × Operand)) (ho : o.op = .build t parts) (hgd : Region.wanted o (yielded ops a.tmps) = true)
    (zs : List Int) (hb : P.built t (parts.map fun (i, x) => (i, a.eval x)).toList = some (ic zs))
    (hK : wpList P ops Q rest (a.put o.dst (.agg (ic zs))) w) : wpList P ops Q (o :: rest) a w := by
  refine wpList_wanted hgd fun _ hK' => ?_
  unfold Oper.wp execOp
  simp only [ho, Sem.run_bind, run_build w t _ _ hb, Result.andThen_ok]
  exact hK' _ _ hK
end
theorem bdI_cons {B : Int} {z : Int} {zs : List Int} (h1 : -B ≤ z) (h2 : z ≤ B) (h : bdI B zs) : bdI B (z :: zs) := by
  intro j hj
  cases j with
  | zero => exact ⟨h1, h2⟩
  | succ j => exact h j (by simpa using hj)
theorem IQ.splq {B : Int} {w : World} {q T n off : Nat} {zs ys : List Int} (p : IB w q T (spl zs off ys)) (hl : zs.length = n) (hz : bdI B zs) (hy : bdI B ys) (ho : off + ys.length ≤ n) : IQ B w q T n :=
  ⟨_, p, by rw [spl_len (by omega), hl], bdI_spl hz hy (by omega)⟩
theorem bdI_two {B x y : Int} (h1 : -B ≤ x) (h2 : x ≤ B) (h3 : -B ≤ y) (h4 : y ≤ B) : bdI B [x, y] := bdI_cons h1 h2 (bdI_cons h3 h4 (fun j hj => by simp at hj))
theorem odd_any (b P : Nat) (n : Int) (w : World) (h : RdP w b P) (hp : P < 2^40) (hn0 : 0 ≤ n) (hn : n ≤ 1000000000) :
    Calls Tryd.prog 64 #[.pointer (some ⟨b, 0, none⟩), .int .i64 n] w fun e w' => ∃ x : Bool, e = .returned (.bool x) ∧ RdP w' b (P + 1) ∧ w.grownBy w' (some b) := by
  by_cases hz : n = 0
  · subst hz
    refine (odd_0 b 0 _ (by omega)).mono ?_
    rintro e w' ⟨rfl, rfl⟩
    exact ⟨false, rfl, h.mono (by omega), grown_refl _ _⟩
  · refine (odd_c b P n _ h hp (by omega) hn).mono ?_
    rintro e w' ⟨x, rfl, r, g⟩
    exact ⟨x, rfl, r, g⟩
theorem zero_Macz : (Tryd.prog.info? 33).map (·.zero) = some (some (.agg (ic (zl 71)))) := by kernel_rfl
theorem built_Macz (x : Int) : Tryd.prog.built 33 [(0, .int .i64 x)] = some (ic (x :: zl 70)) := by kernel_rfl
theorem built_Vec1 (x : Int) : Tryd.prog.built 31 [(0, .int .i64 x)] = some (ic [x, 0]) := by kernel_rfl
theorem built_Vec2 (x : Int) : Tryd.prog.built 31 [(1, .int .i64 x)] = some (ic [0, x]) := by kernel_rfl
/-- What holds while a macroblock is drawn. -/
def MG (w : World) (b P k q : Nat) (wx : World) : Prop := DG w b P 1 k wx ∧ IQ 10000 wx q 33 71 ∧ IB wx w.heap.size 33 (zl 71) ∧ b < w.heap.size ∧ w.heap.size < q
theorem MG.step {w wx : World} {b P k q : Nat} (h : MG w b P k q wx) : MG w b P (k + 1) q wx := ⟨h.1.step, h.2⟩
theorem MG.more {w wx wy : World} {b P k q : Nat} (h : MG w b P k q wx) (e : wx.grownBy wy (some b)) (r : RdP wy b (P + k * 1 + 1)) (_ : 1 ≤ 1) : MG w b P (k + 1) q wy := ⟨h.1.more e r (Nat.le_refl _), h.2.1.gr e (by have := h.2.2.2; omega), h.2.2.1.gr e (by have := h.2.2.2; simp; omega), h.2.2.2⟩
theorem MG.moren {w wx wy : World} {b P k q n : Nat} (h : MG w b P k q wx) (e : wx.grownBy wy (some b)) (r : RdP wy b (P + k * 1 + n)) : MG w b P (k + n) q wy := ⟨⟨grown_trans h.1.1 e, r.mono (by omega)⟩, h.2.1.gr e (by have := h.2.2.2; omega), h.2.2.1.gr e (by have := h.2.2.2; simp; omega), h.2.2.2⟩
theorem MG.ext {w wx wy : World} {b P k q : Nat} (h : MG w b P k q wx) (e : Ext wx wy) : MG w b P (k + 1) q wy := ⟨h.1.ext e, h.2.1.ext e, h.2.2.1.ext e, h.2.2.2⟩
theorem MG.ext0 {w wx wy : World} {b P k q : Nat} (h : MG w b P k q wx) (e : Ext wx wy) : MG w b P k q wy := ⟨⟨grown_ext h.1.1 e, h.1.2.ext e⟩, h.2.1.ext e, h.2.2.1.ext e, h.2.2.2⟩
theorem MG.drew {w wx : World} {b P k q : Nat} (h : MG w b P k q wx) : MG w b P k q wx.drew := ⟨h.1.drew, h.2.1.ext (Ext.drewN _ 1), h.2.2.1.ext (Ext.drewN _ 1), h.2.2.2⟩
theorem MG.up {w wx : World} {b P k k' q : Nat} (h : MG w b P k q wx) (hk : k ≤ k') : MG w b P k' q wx := ⟨⟨h.1.1, h.1.2.mono (by omega)⟩, h.2⟩
theorem MG.re {w wx : World} {b P k q P' : Nat} (h : MG w b P k q wx) (hP : P + k ≤ P') : MG w b P' 0 q wx := ⟨h.1.reset (by omega) 1, h.2⟩
theorem MG.set {w wx : World} {b P k q : Nat} (h : MG w b P k q wx) (i : Nat) (v : Int) (h1 : -10000 ≤ v) (h2 : v ≤ 10000) : MG w b P k q (wx.setCell ⟨q, i, none⟩ (.int .i64 v)) :=
  ⟨h.1.set (Nat.le_of_lt h.2.2.2.2) (Nat.lt_trans h.2.2.2.1 h.2.2.2.2), h.2.1.set i v h1 h2, h.2.2.1.set_other (by have := h.2.2.2; omega), h.2.2.2⟩
theorem MG.spl {w wx wy : World} {b P k q off : Nat} {zs ys : List Int} (h : MG w b P k q wx) (g : wx.grownBy wy (some q)) (p : IB wy q 33 (spl zs off ys)) (hl : zs.length = 71) (hz : bdI 10000 zs) (hy : bdI 10000 ys) (ho : off + ys.length ≤ 71) : MG w b P k q wy :=
  ⟨h.1.grq g (Nat.le_of_lt h.2.2.2.2) (Nat.lt_trans h.2.2.2.1 h.2.2.2.2), IQ.splq p hl hz hy ho, h.2.2.1.gr g (by have := h.2.2.2; simp; omega), h.2.2.2⟩
theorem MG.cell {w wx : World} {b P k q : Nat} (h : MG w b P k q wx) {i : Nat} (hi : i < 71) : ∃ v : Int, wx.cell? ⟨q, i, none⟩ = some (.int .i64 v) ∧ wx.frozen? ⟨q, i, none⟩ = false ∧ -10000 ≤ v ∧ v ≤ 10000 := h.2.1.cell hi
set_option maxRecDepth 100000 in
set_option maxHeartbeats 3000000 in
theorem l20Macro_c (b P : Nat) (intra : Bool) (n : Int) (w : World) (h : RdP w b P) (hp : P < 2^37) (hn0 : 0 ≤ n) (hn : n ≤ 1000000) :
    Calls Tryd.prog 63 #[.pointer (some ⟨b, 0, none⟩), .bool intra, .int .i64 n] w fun e w' => ∃ zs : List Int, e = .returned (.agg (ic zs)) ∧ zs.length = 71 ∧ bdI 10000 zs ∧ RdP w' b (P + 600) ∧ w.grownBy w' (some b) := by
  have hbw : b < w.heap.size := h.lt
  go_enter Tryd.func63, Tryd.ntmps63
  have R1 := IB.new w 33 (zl 71)
  have E1 := Ext.alloc w (.cells (ic (zl 71)) 33)
  go_wp2_with (refine wpList_iallocz 33 rfl rfl 71 zero_Macz ?_; (try simp only [World.size_alloc]))
  refine (pick_c b P 3 _ (h.ext E1) (by omega) (by omega) (by omega)).mono ?_
  rintro e w1 ⟨kd, rfl, kda, kdb, r1, g1⟩
  have hw1 : w.heap.size < w1.heap.size := by have := g1.size; simp at this; omega
  have R2 := (R1.gr g1 (by simp; omega)).alloc (.cells (ic (zl 71)) 33)
  have D2 : DG w b P 1 1 (w1.alloc (.cells (ic (zl 71)) 33)) := ⟨grown_ext (grown_trans (ext_gr E1) g1) (Ext.alloc _ _), (r1.mono (by omega)).ext (Ext.alloc _ _)⟩
  have Q2 := IB.new w1 33 (zl 71)
  clear R1 E1 r1 g1 h
  go_wp2_with (first | (refine wpList_ibuild 33 _ rfl rfl (kd :: zl 70) (built_Macz _) ?_) | (refine wpList_iallocz 33 rfl rfl 71 zero_Macz ?_; (try simp only [World.size_alloc])) | (refine wpList_istore 33 _ _ rfl rfl Q2 0 71 rfl _ rfl (kd :: zl 70) rfl size_Macro (by simp [zl]) (by simp [zl]) ?_; intro w3 q3 g3; refine Hid.out ?_))
  rw [spl_all (by simp [zl])] at q3
  obtain ⟨q, hq⟩ : ∃ q, q = w1.heap.size := ⟨_, rfl⟩
  rw [← hq] at q3 g3 hw1 ⊢
  have M3 : MG w b P 1 q w3 := ⟨D2.grq g3 (by omega) (by omega), ⟨_, q3, by simp [zl], bdI_cons (by omega) (by omega) (bdI_zero _ _ (by omega))⟩, R2.gr g3 (by simp; omega), hbw, hw1⟩
  clear R2 D2 Q2 q3 g3 hq
  refine Lib.hid ?_
  go_upto_if 12 with (fail)
  go_cut [7] from 9 (fun p wz => p = .pointer (some ⟨q, 0, none⟩) ∧ MG w b P 1 q wz)
  case first =>
    obtain ⟨u0, c0, f0, -⟩ := M3.cell (i := 0) (by omega)
    cases intra
    · go_wp2
      go_meet
      case rel => exact ⟨rfl, M3⟩
    · go_wp2
      go_meet
      case rel => exact ⟨rfl, M3.set 0 2 (by omega) (by omega)⟩
  case rest =>
    obtain ⟨rfl, M4⟩ := hcut
    clear M3
    obtain ⟨u0, c0, f0, -⟩ := M4.cell (i := 0) (by omega)
    go_upto_if 16 with (fail)
    go_cut [7] from 9 (fun p wz => p = .pointer (some ⟨q, 0, none⟩) ∧ MG w b P 12 q wz)
    case first =>
      by_cases hu : u0 = 1
      · subst hu
        go_wp2_with fail
        refine (l20Vector_c b _ 0 _ M4.1.2 (by omega) (by omega) (by omega)).mono ?_
        rintro e w5 ⟨vx, vy, rfl, v1, v2, v3, v4, r5, g5⟩
        have M5 := M4.moren g5 (r5.mono (Nat.le_refl _))
        obtain ⟨zs, z1, z2, z3⟩ := M5.2.1
        have Z2 := Lib.hid z2
        clear z2
        go_wp2_with (refine wpList_istore 31 _ _ rfl rfl z1 1 2 rfl _ rfl [vx, vy] rfl size_Vector rfl (by rw [Z2.out]; simp) ?_; intro w6 p6 g6; refine Hid.out ?_)
        have M6 := M5.spl g6 p6 Z2.out z3 (bdI_two (by omega) (by omega) (by omega) (by omega)) (by simp)
        refine Lib.hid ?_
        go_wp2
        go_meet
        case rel => exact ⟨rfl, M6.up (by omega)⟩
      · have hd : (u0 == 1) = false := by simpa using hu
        go_wp2
        go_meet
        case rel => exact ⟨rfl, M4.up (by omega)⟩
    case rest =>
      obtain ⟨rfl, M5⟩ := hcut
      clear M4 c0 f0
      go_wp2_with fail
      go_loopw [8] (fun i wr => ∃ k : Nat, k ≤ 4 ∧ i = .int .i64 k ∧ MG w b (P + 12 + k * 120) 0 q wr) (fun i _ => 4 - (intOf i).toNat)
      case atStart => exact ⟨0, by omega, rfl, M5.re (by omega)⟩
      case round =>
        obtain ⟨k, hk, rfl, Mr⟩ := hrel
        clear M5
        by_cases hlt : k < 4
        · obtain ⟨u0, c0, f0, -⟩ := Mr.cell (i := 0) (by omega)
          go_upto_if 26 with (fail)
          go_cut [7, 8] from 20 to 49 (fun p i wz => p = .pointer (some ⟨q, 0, none⟩) ∧ i = .int .i64 k ∧ MG w b (P + 12 + k * 120) 1 q wz)
          case first =>
            by_cases hu : u0 = 2
            · subst hu
              go_wp2_with fail
              refine (pick_c b _ 5 _ Mr.1.2 (by omega) (by omega) (by omega)).mono ?_
              rintro e wa ⟨ya, rfl, yaa, yab, ra, ga⟩
              have Ma := Mr.moren ga (ra.mono (Nat.le_refl _))
              obtain ⟨u1, c1, f1, -⟩ := Ma.cell (i := 3 + k) (by omega)
              go_wp2
              go_meet
              case rel => exact ⟨rfl, rfl, (Ma.set (3 + k) ya (by omega) (by omega)).up (by omega)⟩
            · have hd : (u0 == 2) = false := by simpa using hu
              go_wp2
              go_meet
              case rel => exact ⟨rfl, rfl, Mr.up (by omega)⟩
          case rest =>
            obtain ⟨rfl, rfl, Ms⟩ := hcut
            clear Mr c0 f0
            obtain ⟨u0, c0, f0, -⟩ := Ms.cell (i := 0) (by omega)
            by_cases hu : u0 = 0
            · subst hu
              go_wp2
              go_roundw
              case rel => exact ⟨k + 1, by omega, by go_num, Ms.re (by omega)⟩
              case measure => simp [intOf]; omega
            · have hd : (u0 != 0) = true := by simpa using hu
              go_wp2_with fail
              refine (pick_c b _ 3 _ Ms.1.2 (by omega) (by omega) (by omega)).mono ?_
              rintro e wa ⟨ya, rfl, yaa, yab, ra, ga⟩
              have M_wa := Ms.moren ga (ra.mono (Nat.le_refl _))
              clear Ms c0 f0 ra ga
              by_cases hy : ya = 0
              · subst hy
                go_wp2
                go_roundw
                case rel => exact ⟨k + 1, by omega, by go_num, M_wa.re (by omega)⟩
                case measure => simp [intOf]; omega
              · have hy2 : 0 < ya := by omega
                have e5 := Ext.alloc wa (.cells #[.int .i64 3, .int .i64 40, .int .i64 4080] 3)
                have S5 := blk_new wa (.cells #[.int .i64 3, .int .i64 40, .int .i64 4080] 3)
                have hb5 := M_wa.1.2.lt
                have M_w5 := M_wa.ext0 e5
                clear M_wa e5
                go_wp2_with fail
                refine (pick_c b _ 3 _ M_w5.1.2 (by omega) (by omega) (by omega)).mono ?_
                rintro e wb ⟨yb, rfl, yba, ybb, r_wb, g_wb⟩
                have M_wb := M_w5.moren g_wb (r_wb.mono (Nat.le_refl _))
                clear M_w5 r_wb
                have S6 := gr_blk g_wb S5 (by omega)
                obtain ⟨-, s0, s1, s2, -, -, -⟩ := bx3 S6
                clear S5 S6 g_wb
                obtain ⟨jb, rfl⟩ := Int.eq_ofNat_of_zero_le yba
                obtain ⟨mo, hmo, hmo1, hmo2⟩ : ∃ mo : Int, wb.cell? ⟨wa.heap.size, jb, none⟩ = some (.int .i64 mo) ∧ 1 ≤ mo ∧ mo ≤ 5000 := by
                  obtain rfl | rfl | rfl : jb = 0 ∨ jb = 1 ∨ jb = 2 := by omega
                  · exact ⟨_, s0, by omega, by omega⟩
                  · exact ⟨_, s1, by omega, by omega⟩
                  · exact ⟨_, s2, by omega, by omega⟩
                have hjb : jb < 3 := by omega
                clear s0 s1 s2
                go_wp2_with fail
                refine (l20Block_c b _ mo 0 _ M_wb.1.2 (by omega) hmo1 hmo2 (by omega) (by omega)).mono ?_
                rintro e wd ⟨ys, rfl, yl, yb, rd, gd⟩
                have M_wd := M_wb.moren gd (rd.mono (Nat.le_refl _))
                obtain ⟨zs, z1, z2, z3⟩ := M_wd.2.1
                have Z2 := Lib.hid z2
                have Yl := Lib.hid yl
                clear z2 yl M_wb rd gd hmo
                go_wp2_with (refine wpList_istore 25 _ _ rfl rfl z1 (7 + k * 16) 16 rfl _ rfl ys rfl size_A16 Yl.out (by rw [Z2.out]; omega) ?_; intro we pe ge; refine Hid.out ?_)
                have M_we := M_wd.spl ge pe Z2.out z3 yb (by rw [Yl.out]; omega)
                refine Lib.hid ?_
                go_wp2
                go_roundw
                case rel => exact ⟨k + 1, by omega, by go_num, M_we.re (by omega)⟩
                case measure => simp [intOf]; omega
        · obtain rfl : k = 4 := by omega
          go_wp2_with fail
          refine (odd_any b _ n _ Mr.1.2 (by omega) hn0 (by omega)).mono ?_
          rintro e wo ⟨x, rfl, ro, go⟩
          have M_wo := (Mr.moren go (ro.mono (Nat.le_refl _))).re (P' := P + 500) (by omega)
          clear Mr ro go
          go_upto_if 52 with (fail)
          go_cut [7] from 9 (fun p wz => p = .pointer (some ⟨q, 0, none⟩) ∧ MG w b (P + 600) 0 q wz)
          case first =>
            cases x
            · go_wp2
              go_meet
              case rel => exact ⟨rfl, M_wo.re (by omega)⟩
            · go_wp2_with fail
              refine (pick_c b _ 5 _ M_wo.1.2 (by omega) (by omega) (by omega)).mono ?_
              rintro e wsw ⟨ysw, rfl, yswa, yswb, r_wsw, g_wsw⟩
              have M_wsw := M_wo.moren g_wsw (r_wsw.mono (Nat.le_refl _))
              clear M_wo r_wsw
              clear g_wsw
              obtain rfl | rfl | rfl | rfl | rfl : ysw = 0 ∨ ysw = 1 ∨ ysw = 2 ∨ ysw = 3 ∨ ysw = 4 := by omega
              · have e5 := Ext.alloc wsw (.cells #[.int .i64 (-1), .int .i64 3, .int .i64 0] 3)
                have S5 := blk_new wsw (.cells #[.int .i64 (-1), .int .i64 3, .int .i64 0] 3)
                have hb5 := M_wsw.1.2.lt
                have M_w5 := M_wsw.ext0 e5
                clear M_wsw e5
                go_wp2_with fail
                refine (pick_c b _ 3 _ M_w5.1.2 (by omega) (by omega) (by omega)).mono ?_
                rintro e wb ⟨yb, rfl, yba, ybb, r_wb, g_wb⟩
                have M_wb := M_w5.moren g_wb (r_wb.mono (Nat.le_refl _))
                clear M_w5 r_wb
                have S6 := gr_blk g_wb S5 (by omega)
                obtain ⟨-, s0, s1, s2, -, -, -⟩ := bx3 S6
                clear S5 S6 g_wb
                obtain ⟨u1, c1, f1, -⟩ := M_wb.cell (i := 0) (by omega)
                obtain rfl | rfl | rfl : yb = 0 ∨ yb = 1 ∨ yb = 2 := by omega
                · go_wp2
                  go_meet
                  case rel => exact ⟨rfl, (M_wb.set 0 (-1) (by omega) (by omega)).re (by omega)⟩
                · go_wp2
                  go_meet
                  case rel => exact ⟨rfl, (M_wb.set 0 3 (by omega) (by omega)).re (by omega)⟩
                · go_wp2
                  go_meet
                  case rel => exact ⟨rfl, (M_wb.set 0 0 (by omega) (by omega)).re (by omega)⟩
              · obtain ⟨zs, z1, z2, z3⟩ := M_wsw.2.1
                have Z2 := Lib.hid z2
                clear z2
                go_wp2_with (first | (refine wpList_ibuild 31 _ rfl rfl [17, 0] (built_Vec1 _) ?_) | (refine wpList_istore 31 _ _ rfl rfl z1 1 2 rfl _ rfl [17, 0] rfl size_Vector rfl (by rw [Z2.out]; simp) ?_; intro w6 p6 g6; refine Hid.out ?_))
                have M_w6 := M_wsw.spl g6 p6 Z2.out z3 (bdI_two (by omega) (by omega) (by omega) (by omega)) (by simp)
                refine Lib.hid ?_
                go_wp2
                go_meet
                case rel => exact ⟨rfl, M_w6.re (by omega)⟩
              · go_wp2_with fail
                refine (pick_c b _ 4 _ M_wsw.1.2 (by omega) (by omega) (by omega)).mono ?_
                rintro e wa ⟨ya, rfl, yaa, yab, r_wa, g_wa⟩
                have M_wa := M_wsw.moren g_wa (r_wa.mono (Nat.le_refl _))
                clear M_wsw r_wa
                clear g_wa
                obtain ⟨ja, rfl⟩ := Int.eq_ofNat_of_zero_le yaa
                have e5 := Ext.alloc wa (.cells #[.int .i64 (-1), .int .i64 5, .int .i64 1] 3)
                have S5 := blk_new wa (.cells #[.int .i64 (-1), .int .i64 5, .int .i64 1] 3)
                have hb5 := M_wa.1.2.lt
                have M_w5 := M_wa.ext0 e5
                clear M_wa e5
                go_wp2_with fail
                refine (pick_c b _ 3 _ M_w5.1.2 (by omega) (by omega) (by omega)).mono ?_
                rintro e wb ⟨yb, rfl, yba, ybb, r_wb, g_wb⟩
                have M_wb := M_w5.moren g_wb (r_wb.mono (Nat.le_refl _))
                clear M_w5 r_wb
                have S6 := gr_blk g_wb S5 (by omega)
                obtain ⟨-, s0, s1, s2, -, -, -⟩ := bx3 S6
                clear S5 S6 g_wb
                obtain ⟨u1, c1, f1, -⟩ := M_wb.cell (i := 3 + ja) (by omega)
                obtain rfl | rfl | rfl : yb = 0 ∨ yb = 1 ∨ yb = 2 := by omega
                · go_wp2
                  go_meet
                  case rel => exact ⟨rfl, (M_wb.set (3 + ja) (-1) (by omega) (by omega)).re (by omega)⟩
                · go_wp2
                  go_meet
                  case rel => exact ⟨rfl, (M_wb.set (3 + ja) 5 (by omega) (by omega)).re (by omega)⟩
                · go_wp2
                  go_meet
                  case rel => exact ⟨rfl, (M_wb.set (3 + ja) 1 (by omega) (by omega)).re (by omega)⟩
              · go_upto_region 23 with fail
                have hext : ∀ (i : Nat) (own : Value) (ys : Nat → Value) (wa wb : World), wa.grownBy wb (some b) → (match i with | 0 => own = .pointer (some ⟨b, 0, none⟩) | 1 => ∃ x : Int, own = .int .i64 x ∧ 0 ≤ x ∧ x < 4 | 2 => own = .pointer (some ⟨b, 0, none⟩) | 3 => ∃ x : Int, own = .int .i64 x ∧ 0 ≤ x ∧ x < 16 | 4 => SlR wa (q + 1) own 3 (-4081) (4081) | 5 => own = .pointer (some ⟨b, 0, none⟩) | 6 => ∃ x : Int, own = .int .i64 x ∧ 0 ≤ x ∧ x < 3 | 7 => PtR wa (q + 1) own (-4081) (4081) | 8 => ∃ x : Int, own = .int .i64 x ∧ -4081 ≤ x ∧ x ≤ 4081 | 9 => own = .pointer (some ⟨q, 7, none⟩) | 10 => ∃ j : Nat, own = .pointer (some ⟨q, 7 + j * 16, none⟩) ∧ j < 4 | 11 => ∃ j : Nat, own = .pointer (some ⟨q, j, none⟩) ∧ j < 71 | 12 => True | _ => True) → (match i with | 0 => own = .pointer (some ⟨b, 0, none⟩) | 1 => ∃ x : Int, own = .int .i64 x ∧ 0 ≤ x ∧ x < 4 | 2 => own = .pointer (some ⟨b, 0, none⟩) | 3 => ∃ x : Int, own = .int .i64 x ∧ 0 ≤ x ∧ x < 16 | 4 => SlR wb (q + 1) own 3 (-4081) (4081) | 5 => own = .pointer (some ⟨b, 0, none⟩) | 6 => ∃ x : Int, own = .int .i64 x ∧ 0 ≤ x ∧ x < 3 | 7 => PtR wb (q + 1) own (-4081) (4081) | 8 => ∃ x : Int, own = .int .i64 x ∧ -4081 ≤ x ∧ x ≤ 4081 | 9 => own = .pointer (some ⟨q, 7, none⟩) | 10 => ∃ j : Nat, own = .pointer (some ⟨q, 7 + j * 16, none⟩) ∧ j < 4 | 11 => ∃ j : Nat, own = .pointer (some ⟨q, j, none⟩) ∧ j < 71 | 12 => True | _ => True) := by
                  intro i own ys wa wb e h
                  match i, h with
                  | 0, h => exact h
                  | 1, h => exact h
                  | 2, h => exact h
                  | 3, h => exact h
                  | 4, h => exact h.grown e (by omega)
                  | 5, h => exact h
                  | 6, h => exact h
                  | 7, h => exact h.grown e (by omega)
                  | 8, h => exact h
                  | 9, h => exact h
                  | 10, h => exact h
                  | 11, h => exact h
                  | 12, h => exact h
                  | _ + 13, _ => trivial
                have Hext := Lib.hid hext
                clear hext
                refine wp_region_inv2 (by kernel_rfl) [(82, 0), (83, 1), (84, 2), (85, 3), (86, 4), (87, 5), (88, 6), (89, 7), (90, 8), (91, 9), (92, 10), (93, 11)] [[], [0], [], [0, 1, 2], [], [], [0, 1, 2, 3, 5], [0, 1, 2, 3, 4, 5, 6], [0, 1, 2, 3, 4, 5, 6, 7], [], [0, 1, 9], [0, 1, 2, 3, 4, 5, 6, 7, 8, 9, 10], [0, 1, 2, 3, 4, 5, 6, 7, 8, 9, 10, 11]] (fun i own ys wx => match i with | 0 => own = .pointer (some ⟨b, 0, none⟩) | 1 => ∃ x : Int, own = .int .i64 x ∧ 0 ≤ x ∧ x < 4 | 2 => own = .pointer (some ⟨b, 0, none⟩) | 3 => ∃ x : Int, own = .int .i64 x ∧ 0 ≤ x ∧ x < 16 | 4 => SlR wx (q + 1) own 3 (-4081) (4081) | 5 => own = .pointer (some ⟨b, 0, none⟩) | 6 => ∃ x : Int, own = .int .i64 x ∧ 0 ≤ x ∧ x < 3 | 7 => PtR wx (q + 1) own (-4081) (4081) | 8 => ∃ x : Int, own = .int .i64 x ∧ -4081 ≤ x ∧ x ≤ 4081 | 9 => own = .pointer (some ⟨q, 7, none⟩) | 10 => ∃ j : Nat, own = .pointer (some ⟨q, 7 + j * 16, none⟩) ∧ j < 4 | 11 => ∃ j : Nat, own = .pointer (some ⟨q, j, none⟩) ∧ j < 71 | 12 => True | _ => True) (fun kx wx => MG w b (P+510) kx q wx) (by kernel_rfl) (by kernel_rfl) (by kernel_rfl) ?g0_r1 ?gop_r1 ?gend_r1
                case g0_r1 => exact (M_wsw.re (P' := P + 510) (by omega)).drew
                case gop_r1 =>
                  refine ⟨?_, ?_, ?_, ?_, ?_, ?_, ?_, ?_, ?_, ?_, ?_, ?_, ?_, trivial⟩
                  · intro kx xs wx hk hG hD hI Qo Kx hK hQo
                    clear hD
                    clear hI
                    simp only [patchS, Nat.reduceAdd, Nat.reduceEqDiff, ↓reduceIte] at hQo ⊢
                    go_wp2
                    exact hK.out _ _ ⟨rfl, hG.step, fun _ _ _ _ _ _ h => h⟩
                  · intro kx xs wx hk hG hD hI Qo Kx hK hQo
                    have d0 : (xs 0) = .pointer (some ⟨b, 0, none⟩) := hD 0 rfl
                    clear hD
                    clear hI
                    simp only [patchS, Nat.reduceAdd, Nat.reduceEqDiff, ↓reduceIte] at hQo ⊢
                    generalize xs 0 = y0 at *
                    subst d0
                    go_wp2_with fail
                    refine (pick_c _ _ _ _ hG.1.2 (DG.small hk (by decide) (by decide) (by omega)) (by omega) (by omega)).mono ?_
                    rintro e w4 ⟨xx, rfl, xa, xb, rd, gr⟩
                    go_wp2
                    exact hK.out _ _ ⟨⟨xx, rfl, xa, by omega⟩, hG.more gr rd (by decide), fun i _ _ _ own ys h => Hext.out i own ys _ _ gr h⟩
                  · intro kx xs wx hk hG hD hI Qo Kx hK hQo
                    clear hD
                    clear hI
                    simp only [patchS, Nat.reduceAdd, Nat.reduceEqDiff, ↓reduceIte] at hQo ⊢
                    go_wp2
                    exact hK.out _ _ ⟨rfl, hG.step, fun _ _ _ _ _ _ h => h⟩
                  · intro kx xs wx hk hG hD hI Qo Kx hK hQo
                    have d2 : (xs 2) = .pointer (some ⟨b, 0, none⟩) := hD 2 rfl
                    clear hD
                    clear hI
                    simp only [patchS, Nat.reduceAdd, Nat.reduceEqDiff, ↓reduceIte] at hQo ⊢
                    generalize xs 2 = y2 at *
                    subst d2
                    go_wp2_with fail
                    refine (pick_c _ _ _ _ hG.1.2 (DG.small hk (by decide) (by decide) (by omega)) (by omega) (by omega)).mono ?_
                    rintro e w4 ⟨xx, rfl, xa, xb, rd, gr⟩
                    go_wp2
                    exact hK.out _ _ ⟨⟨xx, rfl, xa, by omega⟩, hG.more gr rd (by decide), fun i _ _ _ own ys h => Hext.out i own ys _ _ gr h⟩
                  · intro kx xs wx hk hG hD hI Qo Kx hK hQo
                    clear hD
                    clear hI
                    simp only [patchS, Nat.reduceAdd, Nat.reduceEqDiff, ↓reduceIte] at hQo ⊢
                    have e5 := Ext.alloc wx (.cells #[.int .i64 4081, .int .i64 (-4081), .int .i64 1] 3)
                    go_wp2
                    exact hK.out _ _ ⟨⟨_, [4081, (-4081), 1], rfl, by have := hG.2.1.lt; omega, Sl_new _ _ _, by simp <;> omega⟩, hG.ext e5, fun i _ _ _ own ys h => Hext.out i own ys _ _ (ext_gr e5) h⟩
                  · intro kx xs wx hk hG hD hI Qo Kx hK hQo
                    clear hD
                    clear hI
                    simp only [patchS, Nat.reduceAdd, Nat.reduceEqDiff, ↓reduceIte] at hQo ⊢
                    go_wp2
                    exact hK.out _ _ ⟨rfl, hG.step, fun _ _ _ _ _ _ h => h⟩
                  · intro kx xs wx hk hG hD hI Qo Kx hK hQo
                    have d5 : (xs 5) = .pointer (some ⟨b, 0, none⟩) := hD 5 rfl
                    clear hD
                    clear hI
                    simp only [patchS, Nat.reduceAdd, Nat.reduceEqDiff, ↓reduceIte] at hQo ⊢
                    generalize xs 5 = y5 at *
                    subst d5
                    go_wp2_with fail
                    refine (pick_c _ _ _ _ hG.1.2 (DG.small hk (by decide) (by decide) (by omega)) (by omega) (by omega)).mono ?_
                    rintro e w4 ⟨xx, rfl, xa, xb, rd, gr⟩
                    go_wp2
                    exact hK.out _ _ ⟨⟨xx, rfl, xa, by omega⟩, hG.more gr rd (by decide), fun i _ _ _ own ys h => Hext.out i own ys _ _ gr h⟩
                  · intro kx xs wx hk hG hD hI Qo Kx hK hQo
                    have d4 : SlR wx (q + 1) (xs 4) 3 (-4081) (4081) := hD 4 rfl
                    have d6 : ∃ x : Int, (xs 6) = .int .i64 x ∧ 0 ≤ x ∧ x < 3 := hD 6 rfl
                    clear hD
                    clear hI
                    simp only [patchS, Nat.reduceAdd, Nat.reduceEqDiff, ↓reduceIte] at hQo ⊢
                    generalize xs 4 = y4 at *
                    generalize xs 6 = y6 at *
                    obtain ⟨g4, l4, rfl, n4, s4, r4⟩ := d4
                    obtain ⟨x6, rfl, x6a, x6b⟩ := d6
                    go_wp2
                    exact hK.out _ _ ⟨SlR.at n4 s4 r4 (by omega), hG.step, fun _ _ _ _ _ _ h => h⟩
                  · intro kx xs wx hk hG hD hI Qo Kx hK hQo
                    have d7 : PtR wx (q + 1) (xs 7) (-4081) (4081) := hD 7 rfl
                    clear hD
                    clear hI
                    simp only [patchS, Nat.reduceAdd, Nat.reduceEqDiff, ↓reduceIte] at hQo ⊢
                    generalize xs 7 = y7 at *
                    obtain ⟨g7, j7, y7, rfl, n7, c7, y7a, y7b⟩ := d7
                    go_wp2
                    exact hK.out _ _ ⟨⟨_, rfl, by omega, by omega⟩, hG.step, fun _ _ _ _ _ _ h => h⟩
                  · intro kx xs wx hk hG hD hI Qo Kx hK hQo
                    clear hD
                    clear hI
                    simp only [patchS, Nat.reduceAdd, Nat.reduceEqDiff, ↓reduceIte] at hQo ⊢
                    go_wp2
                    exact hK.out _ _ ⟨rfl, hG.step, fun _ _ _ _ _ _ h => h⟩
                  · intro kx xs wx hk hG hD hI Qo Kx hK hQo
                    have d1 : ∃ x : Int, (xs 1) = .int .i64 x ∧ 0 ≤ x ∧ x < 4 := hD 1 rfl
                    have d9 : (xs 9) = .pointer (some ⟨q, 7, none⟩) := hD 9 rfl
                    clear hD
                    clear hI
                    simp only [patchS, Nat.reduceAdd, Nat.reduceEqDiff, ↓reduceIte] at hQo ⊢
                    generalize xs 1 = y1 at *
                    generalize xs 9 = y9 at *
                    obtain ⟨x1, rfl, x1a, x1b⟩ := d1
                    subst d9
                    obtain ⟨j1, rfl⟩ := Int.eq_ofNat_of_zero_le x1a
                    go_wp2
                    exact hK.out _ _ ⟨⟨j1, rfl, by omega⟩, hG.step, fun _ _ _ _ _ _ h => h⟩
                  · intro kx xs wx hk hG hD hI Qo Kx hK hQo
                    have d3 : ∃ x : Int, (xs 3) = .int .i64 x ∧ 0 ≤ x ∧ x < 16 := hD 3 rfl
                    have d10 : ∃ j : Nat, (xs 10) = .pointer (some ⟨q, 7 + j * 16, none⟩) ∧ j < 4 := hD 10 rfl
                    clear hD
                    clear hI
                    simp only [patchS, Nat.reduceAdd, Nat.reduceEqDiff, ↓reduceIte] at hQo ⊢
                    generalize xs 3 = y3 at *
                    generalize xs 10 = y10 at *
                    obtain ⟨x3, rfl, x3a, x3b⟩ := d3
                    obtain ⟨j10, rfl, h10⟩ := d10
                    obtain ⟨j3, rfl⟩ := Int.eq_ofNat_of_zero_le x3a
                    go_wp2
                    exact hK.out _ _ ⟨⟨_, rfl, by omega⟩, hG.step, fun _ _ _ _ _ _ h => h⟩
                  · intro kx xs wx hk hG hD hI Qo Kx hK hQo
                    have d8 : ∃ x : Int, (xs 8) = .int .i64 x ∧ -4081 ≤ x ∧ x ≤ 4081 := hD 8 rfl
                    have d11 : ∃ j : Nat, (xs 11) = .pointer (some ⟨q, j, none⟩) ∧ j < 71 := hD 11 rfl
                    clear hD
                    clear hI
                    simp only [patchS, Nat.reduceAdd, Nat.reduceEqDiff, ↓reduceIte] at hQo ⊢
                    generalize xs 8 = y8 at *
                    generalize xs 11 = y11 at *
                    obtain ⟨x8, rfl, x8a, x8b⟩ := d8
                    obtain ⟨j11, rfl, h11⟩ := d11
                    obtain ⟨u1, c1, f1, -⟩ := hG.cell h11
                    go_wp2
                    have hst : ∀ (wy : World), (∀ (B : Nat) (v : Value) (n : Nat) (lo hi : Int), q < B → (SlR wx B v n lo hi → SlR wy B v n lo hi) ∧ (PtR wx B v lo hi → PtR wy B v lo hi)) → ∀ (ii : Nat), ii < 13 → ii ≠ 12 → ([[], [0], [], [0, 1, 2], [], [], [0, 1, 2, 3, 5], [0, 1, 2, 3, 4, 5, 6], [0, 1, 2, 3, 4, 5, 6, 7], [], [0, 1, 9], [0, 1, 2, 3, 4, 5, 6, 7, 8, 9, 10], [0, 1, 2, 3, 4, 5, 6, 7, 8, 9, 10, 11]].getD ii []).contains 12 = false → ∀ (own : Value) (ys : Nat → Value), (match ii with | 0 => own = .pointer (some ⟨b, 0, none⟩) | 1 => ∃ x : Int, own = .int .i64 x ∧ 0 ≤ x ∧ x < 4 | 2 => own = .pointer (some ⟨b, 0, none⟩) | 3 => ∃ x : Int, own = .int .i64 x ∧ 0 ≤ x ∧ x < 16 | 4 => SlR wx (q + 1) own 3 (-4081) (4081) | 5 => own = .pointer (some ⟨b, 0, none⟩) | 6 => ∃ x : Int, own = .int .i64 x ∧ 0 ≤ x ∧ x < 3 | 7 => PtR wx (q + 1) own (-4081) (4081) | 8 => ∃ x : Int, own = .int .i64 x ∧ -4081 ≤ x ∧ x ≤ 4081 | 9 => own = .pointer (some ⟨q, 7, none⟩) | 10 => ∃ j : Nat, own = .pointer (some ⟨q, 7 + j * 16, none⟩) ∧ j < 4 | 11 => ∃ j : Nat, own = .pointer (some ⟨q, j, none⟩) ∧ j < 71 | 12 => True | _ => True) → (match ii with | 0 => own = .pointer (some ⟨b, 0, none⟩) | 1 => ∃ x : Int, own = .int .i64 x ∧ 0 ≤ x ∧ x < 4 | 2 => own = .pointer (some ⟨b, 0, none⟩) | 3 => ∃ x : Int, own = .int .i64 x ∧ 0 ≤ x ∧ x < 16 | 4 => SlR wy (q + 1) own 3 (-4081) (4081) | 5 => own = .pointer (some ⟨b, 0, none⟩) | 6 => ∃ x : Int, own = .int .i64 x ∧ 0 ≤ x ∧ x < 3 | 7 => PtR wy (q + 1) own (-4081) (4081) | 8 => ∃ x : Int, own = .int .i64 x ∧ -4081 ≤ x ∧ x ≤ 4081 | 9 => own = .pointer (some ⟨q, 7, none⟩) | 10 => ∃ j : Nat, own = .pointer (some ⟨q, 7 + j * 16, none⟩) ∧ j < 4 | 11 => ∃ j : Nat, own = .pointer (some ⟨q, j, none⟩) ∧ j < 71 | 12 => True | _ => True) := by
                      intro wy hy ii hii hne hc own ys h
                      match ii, h with
                      | 0, h => exact h
                      | 1, h => exact h
                      | 2, h => exact h
                      | 3, h => exact h
                      | 4, h => exact (hy _ _ _ _ _ (by omega)).1 h
                      | 5, h => exact h
                      | 6, h => exact h
                      | 7, h => exact (hy _ _ 0 _ _ (by omega)).2 h
                      | 8, h => exact h
                      | 9, h => exact h
                      | 10, h => exact h
                      | 11, h => exact h
                      | 12, h => exact absurd rfl hne
                      | _ + 13, _ => trivial
                    exact hQo undef _ (hK.out _ _ ⟨trivial, hG.step.set _ _ (by omega) (by omega), hst _ (fun B v n lo hi hB => ⟨fun h => h.set hB, fun h => h.set hB⟩)⟩)
                clear Hext
                intro xs wx hV hG
                have d0 : (xs 0) = .pointer (some ⟨b, 0, none⟩) := hV 0 (by decide)
                have d1 : ∃ x : Int, (xs 1) = .int .i64 x ∧ 0 ≤ x ∧ x < 4 := hV 1 (by decide)
                have d2 : (xs 2) = .pointer (some ⟨b, 0, none⟩) := hV 2 (by decide)
                have d3 : ∃ x : Int, (xs 3) = .int .i64 x ∧ 0 ≤ x ∧ x < 16 := hV 3 (by decide)
                have d4 : SlR wx (q + 1) (xs 4) 3 (-4081) (4081) := hV 4 (by decide)
                have d5 : (xs 5) = .pointer (some ⟨b, 0, none⟩) := hV 5 (by decide)
                have d6 : ∃ x : Int, (xs 6) = .int .i64 x ∧ 0 ≤ x ∧ x < 3 := hV 6 (by decide)
                have d7 : PtR wx (q + 1) (xs 7) (-4081) (4081) := hV 7 (by decide)
                have d8 : ∃ x : Int, (xs 8) = .int .i64 x ∧ -4081 ≤ x ∧ x ≤ 4081 := hV 8 (by decide)
                have d9 : (xs 9) = .pointer (some ⟨q, 7, none⟩) := hV 9 (by decide)
                have d10 : ∃ j : Nat, (xs 10) = .pointer (some ⟨q, 7 + j * 16, none⟩) ∧ j < 4 := hV 10 (by decide)
                have d11 : ∃ j : Nat, (xs 11) = .pointer (some ⟨q, j, none⟩) ∧ j < 71 := hV 11 (by decide)
                clear hV
                simp only [patchS, Nat.reduceAdd, Nat.reduceEqDiff, ↓reduceIte]
                generalize xs 0 = y0 at *
                generalize xs 1 = y1 at *
                generalize xs 2 = y2 at *
                generalize xs 3 = y3 at *
                generalize xs 4 = y4 at *
                generalize xs 5 = y5 at *
                generalize xs 6 = y6 at *
                generalize xs 7 = y7 at *
                generalize xs 8 = y8 at *
                generalize xs 9 = y9 at *
                generalize xs 10 = y10 at *
                generalize xs 11 = y11 at *
                generalize xs 12 = y12 at *
                replace hG : MG w b (P+510) 13 q wx := hG
                clear d0 d2 d3 d4 d5 d6 d7 d8 d9 d10 d11
                obtain ⟨x1, rfl, x1a, x1b⟩ := d1
                go_wp2
                go_meet
                case rel => exact ⟨rfl, hG.re (by omega)⟩
              · obtain ⟨zs, z1, z2, z3⟩ := M_wsw.2.1
                have Z2 := Lib.hid z2
                clear z2
                go_wp2_with (first | (refine wpList_ibuild 31 _ rfl rfl [0, 1] (built_Vec2 _) ?_) | (refine wpList_istore 31 _ _ rfl rfl z1 1 2 rfl _ rfl [0, 1] rfl size_Vector rfl (by rw [Z2.out]; simp) ?_; intro w6 p6 g6; refine Hid.out ?_))
                have M_w6 := M_wsw.spl g6 p6 Z2.out z3 (bdI_two (by omega) (by omega) (by omega) (by omega)) (by simp)
                refine Lib.hid ?_
                go_wp2
                go_meet
                case rel => exact ⟨rfl, M_w6.re (by omega)⟩
          case rest =>
            obtain ⟨rfl, M_wc⟩ := hcut
            clear M_wo
            obtain ⟨⟨gz, rz⟩, ⟨zs, z1, z2, z3⟩, RB, hz4⟩ := M_wc
            have Z2 := Lib.hid z2
            clear z2
            go_wp2_with (first | (refine wpList_iload 33 _ rfl rfl z1 0 71 rfl _ Tryd.underlying33 rfl size_Macro (by rw [Z2.out]; omega) _ (by rw [sub_all _ _ Z2.out]) ?_) | (refine wpList_istore 33 _ _ rfl rfl RB 0 71 rfl _ rfl zs rfl size_Macro Z2.out (by simp [zl]) ?_; intro wf pf gf; refine Hid.out ?_))
            rw [spl_all (by rw [Z2.out, zl_len])] at pf
            have rf := rz.grq gf hz4.1
            have gg := gr_new gz gf (Nat.le_refl _)
            refine Lib.hid ?_
            go_wp2
            exact bodyPost_ret (v := .agg (ic zs)) (results_cell_row rfl _ _ w.heap.size 33 (ic zs) (0, 0) _ rfl pf Tryd.underlying33 rfl (by rw [ic_size, Z2.out]; exact size_Macro)) rfl ⟨zs, rfl, Z2.out, z3, rf.mono (by omega), gg⟩
end Go.Proofs.YtlmoeabchiddnaaDoor
