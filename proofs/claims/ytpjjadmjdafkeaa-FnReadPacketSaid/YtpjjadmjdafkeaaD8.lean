/- Drawing: packets. -/
import Derived.Test.YtpjjadmjdafkeaaD6
import Derived.Test.YtpjjadmjdafkeaaD3
import Derived.Test.YtpjjadmjdafkeaaK7
import Derived.Test.YtpjjadmjdafkeaaApp
namespace Go.Proofs.Ytpjjadmjdafkeaa
open Go.RowKit
set_option maxHeartbeats 2000000
/-- What a drawn packet is like. -/
def PkR (w : World) (b P : Nat) (n : Int) (e : Ending) (w' : World) : Prop :=
  ∃ (p : Pkt) (a : Option Addr) (c : Nat), e = .returned (pkV p a c) ∧ w'.ownsRow w.heap.size 5 1 (.slice a p.data.length c) p.data.length (p.data.map (Value.int .u8)) ∧ p.data.length ≤ 13 ∧ bys p.data ∧ (n = 0 → p.ok) ∧ RdP w' b P ∧ w.grownBy w' (some b)
set_option maxRecDepth 100000 in
theorem l20Packet_c (b P : Nat) (n : Int) (w : World) (h : RdP w b P) (hp : P < 2^37) (hn0 : 0 ≤ n) (hn : n ≤ 1000000) :
    Calls Try.prog 59 #[.pointer (some ⟨b, 0, none⟩), .int .i64 n] w (PkR w b (P + 1000) n) := by
  have hblt := h.lt
  have Z := blk_new w (.cells #[.int .i64 0, .int .i64 0, .int .i64 0, .int .i64 0, .bool false, .slice none 0 0] 27)
  have E1 : Ext w (w.alloc (.cells #[.int .i64 0, .int .i64 0, .int .i64 0, .int .i64 0, .bool false, .slice none 0 0] 27)) := Ext.alloc w _
  go_enter Try.func59, Try.ntmps59
  go_wp2_with fail
  refine (pick_c b P 40 _ (h.ext E1) (by omega) (by omega) (by omega)).mono ?_
  rintro e w1 ⟨x1, rfl, x1a, x1b, r1, g1⟩
  have D1 : DG w b (P + 1) 0 0 w1 := ⟨grown_trans (ext_gr E1) g1, by simpa using r1⟩
  have Z1 := gr_blk g1 Z (by omega)
  clear Z E1 h r1 g1
  go_wp2_with fail
  refine (pick_c b _ 3 _ D1.2 (by omega) (by omega) (by omega)).mono ?_
  rintro e w2 ⟨x2, rfl, x2a, x2b, r2, g2⟩
  have D2 : DG w b (P + 2) 0 0 w2 := ⟨grown_trans D1.1 g2, r2.mono (by omega)⟩
  have Z2 := gr_blk g2 Z1 (by omega)
  clear D1 Z1 r2 g2
  go_wp2_with fail
  refine (pick_c b _ 4 _ D2.2 (by omega) (by omega) (by omega)).mono ?_
  rintro e w3 ⟨x3, rfl, x3a, x3b, r3, g3⟩
  have D3 : DG w b (P + 3) 0 0 w3 := ⟨grown_trans D2.1 g3, r3.mono (by omega)⟩
  have Z3 := gr_blk g3 Z2 (by omega)
  clear D2 Z2 r3 g3
  go_wp2_with fail
  refine (pick_c b _ 3 _ D3.2 (by omega) (by omega) (by omega)).mono ?_
  rintro e w4 ⟨x4, rfl, x4a, x4b, r4, g4⟩
  have D4 : DG w b (P + 4) 0 0 w4 := ⟨grown_trans D3.1 g4, r4.mono (by omega)⟩
  have Z4 := gr_blk g4 Z3 (by omega)
  clear D3 Z3 r4 g4
  go_wp2_with fail
  refine (pick_c b _ 2 _ D4.2 (by omega) (by omega) (by omega)).mono ?_
  rintro e w5 ⟨x5, rfl, x5a, x5b, r5, g5⟩
  have D5 : DG w b (P + 5) 0 0 w5 := ⟨grown_trans D4.1 g5, r5.mono (by omega)⟩
  have Z5 := gr_blk g5 Z4 (by omega)
  clear D4 Z4 r5 g5
  go_wp2_with fail
  refine (pick_c b _ 256 _ D5.2 (by omega) (by omega) (by omega)).mono ?_
  rintro e w6 ⟨x6, rfl, x6a, x6b, r6, g6⟩
  have D6 : DG w b (P + 6) 0 0 w6 := ⟨grown_trans D5.1 g6, r6.mono (by omega)⟩
  have Z6 := gr_blk g6 Z5 (by omega)
  clear D5 Z5 r6 g6
  have h8 : IntKind.u8.wrap x6 = x6 := wrap8 x6a (by omega)
  have hs6 := D6.1.size
  have e7 := Ext.alloc w6 (.cells #[.int .u8 x6] 5)
  have o7 := World.ownsRow_lit (base := w.heap.size) (e := 5) (size := 1) w6 #[.int .u8 x6] 1 hs6 (by unfold maxLen; omega) rfl
  have Z7 := e7.blk Z6
  go_wp2_with fail
  refine (l20Bytes_c b _ 12 _ (D6.2.ext e7) (by omega) (by omega)).mono ?_
  rintro e w8 ⟨v8, xs, rfl, own8, hxl, hxb, r8, g8⟩
  have D8 : DG w b (P + 406) 0 0 w8 := ⟨grown_trans (grown_ext D6.1 e7) g8, r8.mono (by omega)⟩
  have Z8 := gr_blk g8 Z7 (by omega)
  have o8 := own_gr o7 g8 hblt
  obtain ⟨a8, c8, rfl⟩ := owns_form own8
  have s8 := Sl.of_owns own8
  have HX := Lib.hid hxb
  have hs8 := D8.1.size
  clear D6 Z6 Z7 o7 e7 own8 r8 g8 hxb
  go_wp2_with (at_builtin; refine wpList_apps _ o8 hs8 rfl _ _ 22 rfl (.int .u8 0) 1 Try.underlying22 info_uint8 rfl rfl a8 xs.length c8 _ rfl s8 (by intro u hu; simp at hu; obtain ⟨z, -, rfl⟩ := hu; rfl) (by omega) (by omega) ?_; intro v9 w9 own9 gr9; refine Hid.out ?_)
  have D9 := D8.own gr9 (owns_ge o8) hblt
  have Z9 := blk_gr Z8 gr9 (by rcases own_ne_blk o8 Z8 (by decide) with h | h; (rw [h]; simp); exact h)
  obtain ⟨a9, c9, rfl⟩ := owns_form own9
  obtain ⟨ds, hds⟩ : ∃ ds, ds = x6 :: xs := ⟨_, rfl⟩
  have hdl : ds.length = 1 + xs.length := by rw [hds]; simp; omega
  have hdb : bys ds := by
    rw [hds]; intro z hz
    rcases List.mem_cons.1 hz with rfl | hz
    · exact ⟨x6a, by omega⟩
    · exact HX.out z hz
  have o9 : w9.ownsRow w.heap.size 5 1 (.slice a9 ds.length c9) ds.length (ds.map (Value.int .u8)) := by
    rw [hdl, hds]; exact own9
  rw [← hdl]
  have hd13 : ds.length ≤ 13 := by omega
  have hd1 : 1 ≤ ds.length := by omega
  have HB := Lib.hid hdb
  have hs9 := D9.1.size
  clear o8 s8 HX hxl D8 Z8 own9 gr9 hds hdl hdb hs8
  refine Lib.hid ?_
  obtain ⟨k5, hk5⟩ : ∃ k, k = (x5 == 0) := ⟨_, rfl⟩
  have e10 := Ext.alloc w9 (.cells #[.int .i64 x1, .int .i64 x2, .int .i64 x3, .int .i64 x4, .bool k5, .slice a9 ds.length c9] 27)
  have Q10 := blk_new w9 (.cells #[.int .i64 x1, .int .i64 x2, .int .i64 x3, .int .i64 x4, .bool k5, .slice a9 ds.length c9] 27)
  have Z10 := e10.blk Z9
  have o10 := owns_ext o9 e10
  have D10 : DG w b (P + 406) 0 0 _ := ⟨grown_ext D9.1 e10, D9.2.ext e10⟩
  have hk5' := hk5.symm
  have hRQ : w.heap.size < w9.heap.size := lt_of_block Z9
  clear D9 Z9 o9 hk5
  by_cases hz : n = 0
  · subst hz
    go_wp2_with fail
    refine (odd_0 b 0 _ (by omega)).mono ?_
    rintro e w11 ⟨rfl, rfl⟩
    generalize w9.alloc (.cells #[.int .i64 x1, .int .i64 x2, .int .i64 x3, .int .i64 x4, .bool k5, .slice a9 ds.length c9] 27) = w10 at *
    generalize w9.heap.size = Q at *
    have W11 := D10
    have ZZ := Lib.hid Z10
    have QQ := Lib.hid Q10
    obtain ⟨z, m0, m1, m2, m3, m4, m5⟩ := bx6 Q10
    obtain ⟨q0, q1, q2, q3, q4, q5⟩ := fz6 Q10
    obtain ⟨z2, n0, n1, n2, n3, n4, n5⟩ := bx6 Z10
    obtain ⟨f0, f1, f2, f3, f4, f5⟩ := fz6 Z10
    have hne : w.heap.size ≠ Q := by omega
    clear Z10 Q10
    go_wp2_with fail
    refine bodyPost_ret (results_cell_row rfl _ _ w.heap.size 27 #[.int .i64 x1, .int .i64 x2, .int .i64 x3, .int .i64 x4, .bool k5, .slice a9 ds.length c9] (0, 0) _ rfl (blk_set6 ZZ.out) Try.underlying27 rfl size_Packet) rfl ?_
    have gR := grown_set6 w10 w.heap.size (.int .i64 x1) (.int .i64 x2) (.int .i64 x3) (.int .i64 x4) (.bool k5) (.slice a9 ds.length c9)
    have DA := W11
    have DB := DA.own gR (fun q hq => by cases hq; exact Nat.le_refl _) hblt
    exact ⟨⟨x1, x2, x3, x4, k5, ds⟩, a9, c9, rfl, o10.kept gR (own_ne_blk o10 ZZ.out (by decide)), hd13, HB.out, fun _ => ⟨by simp; omega, by simp; omega, by simp; omega, by simp; omega, by simp; omega, by simp; omega, by simp; omega, by simp; omega, hd1, by simp; omega⟩, DB.2.mono (by omega), DB.1⟩
  · go_wp2_with fail
    refine (odd_c b _ n _ D10.2 (by omega) (by omega) (by omega)).mono ?_
    rintro e w11 ⟨od, rfl, r11, g11⟩
    have D11 : DG w b (P + 407) 0 0 w11 := ⟨grown_trans D10.1 g11, r11.mono (by omega)⟩
    have Z11 := gr_blk g11 Z10 (by omega)
    have Q11 := gr_blk g11 Q10 (by omega)
    have o11 := own_gr o10 g11 hblt
    clear D10 Z10 Q10 o10 r11 g11 e10
    generalize w9.heap.size = Q at *
    cases od
    · have ZZ := Lib.hid Z11
      have QQ := Lib.hid Q11
      obtain ⟨z, m0, m1, m2, m3, m4, m5⟩ := bx6 Q11
      obtain ⟨q0, q1, q2, q3, q4, q5⟩ := fz6 Q11
      obtain ⟨z2, n0, n1, n2, n3, n4, n5⟩ := bx6 Z11
      obtain ⟨f0, f1, f2, f3, f4, f5⟩ := fz6 Z11
      have hne : w.heap.size ≠ Q := by omega
      clear Z11 Q11
      go_wp2_with fail
      refine bodyPost_ret (results_cell_row rfl _ _ w.heap.size 27 #[.int .i64 x1, .int .i64 x2, .int .i64 x3, .int .i64 x4, .bool k5, .slice a9 ds.length c9] (0, 0) _ rfl (blk_set6 ZZ.out) Try.underlying27 rfl size_Packet) rfl ?_
      have gR := grown_set6 w11 w.heap.size (.int .i64 x1) (.int .i64 x2) (.int .i64 x3) (.int .i64 x4) (.bool k5) (.slice a9 ds.length c9)
      have DA := D11
      have DB := DA.own gR (fun q hq => by cases hq; exact Nat.le_refl _) hblt
      exact ⟨⟨x1, x2, x3, x4, k5, ds⟩, a9, c9, rfl, o11.kept gR (own_ne_blk o11 ZZ.out (by decide)), hd13, HB.out, fun h => absurd h hz, DB.2.mono (by omega), DB.1⟩
    · go_wp2_with fail
      refine (pick_c b _ 4 _ D11.2 (by omega) (by omega) (by omega)).mono ?_
      rintro e w12 ⟨y, rfl, ya, yb, r12, g12⟩
      have D12 : DG w b (P + 408) 0 0 w12 := ⟨grown_trans D11.1 g12, r12.mono (by omega)⟩
      have Z12 := gr_blk g12 Z11 (by omega)
      have Q12 := gr_blk g12 Q11 (by omega)
      have o12 := own_gr o11 g12 hblt
      clear D11 Z11 Q11 o11 r12 g12
      by_cases y0 : y = 0
      · subst y0
        have e13 := Ext.alloc w12 (.cells #[.int .i64 (-1), .int .i64 10000, .int .i64 9999] 3)
        have s13 : SlR (w12.alloc (.cells #[.int .i64 (-1), .int .i64 10000, .int .i64 9999] 3)) (b + 1) (.slice (some ⟨w12.heap.size, 0, none⟩) 3 3) 3 (-1) 10000 := ⟨_, [-1, 10000, 9999], rfl, by have := D12.2.lt; omega, Sl_new _ _ _, by simp⟩
        go_wp2_with fail
        refine (pick_c b _ 3 _ (D12.2.ext e13) (by omega) (by omega) (by omega)).mono ?_
        rintro e w14 ⟨u, rfl, ua, ub, r14, g14⟩
        have D14 : DG w b (P + 409) 0 0 w14 := ⟨grown_trans (grown_ext D12.1 e13) g14, r14.mono (by omega)⟩
        have s14 := s13.grown g14 (by omega)
        have Z14 := gr_blk g14 (e13.blk Z12) (by omega)
        have Q14 := gr_blk g14 (e13.blk Q12) (by omega)
        have o14 := own_gr (owns_ext o12 e13) g14 hblt
        clear D12 e13 s13 r14 g14 Z12 Q12 o12
        generalize w12.heap.size = B at *
        obtain ⟨gg, l, hv, n5, s6, r6⟩ := s14
        simp only [Value.slice.injEq, Option.some.injEq, Addr.mk.injEq, and_true] at hv
        subst hv
        obtain ⟨g6, j6, y6, h6, n6, c6, y6a, y6b⟩ := SlR.at n5 s6 r6 (show u.toNat < 3 by omega)
        simp only [Value.pointer.injEq, Option.some.injEq, Addr.mk.injEq, and_true] at h6
        obtain ⟨rfl, rfl⟩ := h6
        clear s6 n6
        have ZZ := Lib.hid Z14
        have QQ := Lib.hid Q14
        obtain ⟨z, m0, m1, m2, m3, m4, m5⟩ := bx6 Q14
        obtain ⟨q0, q1, q2, q3, q4, q5⟩ := fz6 Q14
        obtain ⟨z2, n0, n1, n2, n3, n4, n5⟩ := bx6 Z14
        obtain ⟨f0, f1, f2, f3, f4, f5⟩ := fz6 Z14
        have hne : w.heap.size ≠ Q := by omega
        clear Z14 Q14
        go_wp2_with fail
        refine bodyPost_ret (results_cell_row rfl _ _ w.heap.size 27 #[.int .i64 y6, .int .i64 x2, .int .i64 x3, .int .i64 x4, .bool k5, .slice a9 ds.length c9] (0, 0) _ rfl (blk_set6 (blk_set_other ZZ.out hne)) Try.underlying27 rfl size_Packet) rfl ?_
        have gR := grown_set6 (w14.setCell ⟨Q, 0, none⟩ (Value.int .i64 y6)) w.heap.size (.int .i64 y6) (.int .i64 x2) (.int .i64 x3) (.int .i64 x4) (.bool k5) (.slice a9 ds.length c9)
        have gQ := grown_set1 w14 Q 0 (Value.int .i64 y6)
        have DA := D14.own gQ (fun q hq => by cases hq; omega) hblt
        have DB := DA.own gR (fun q hq => by cases hq; exact Nat.le_refl _) hblt
        exact ⟨⟨y6, x2, x3, x4, k5, ds⟩, a9, c9, rfl, (o14.kept gQ (own_ne_blk o14 QQ.out (by decide))).kept gR (own_ne_blk (o14.kept gQ (own_ne_blk o14 QQ.out (by decide))) (blk_set_other ZZ.out hne) (by decide)), hd13, HB.out, fun h => absurd h hz, DB.2.mono (by omega), DB.1⟩
      · by_cases y1 : y = 1
        · subst y1
          have e13 := Ext.alloc w12 (.cells #[.int .i64 (-1), .int .i64 4] 3)
          have s13 : SlR (w12.alloc (.cells #[.int .i64 (-1), .int .i64 4] 3)) (b + 1) (.slice (some ⟨w12.heap.size, 0, none⟩) 2 2) 2 (-1) 4 := ⟨_, [-1, 4], rfl, by have := D12.2.lt; omega, Sl_new _ _ _, by simp⟩
          go_wp2_with fail
          refine (pick_c b _ 2 _ (D12.2.ext e13) (by omega) (by omega) (by omega)).mono ?_
          rintro e w14 ⟨u, rfl, ua, ub, r14, g14⟩
          have D14 : DG w b (P + 409) 0 0 w14 := ⟨grown_trans (grown_ext D12.1 e13) g14, r14.mono (by omega)⟩
          have s14 := s13.grown g14 (by omega)
          have Z14 := gr_blk g14 (e13.blk Z12) (by omega)
          have Q14 := gr_blk g14 (e13.blk Q12) (by omega)
          have o14 := own_gr (owns_ext o12 e13) g14 hblt
          clear D12 e13 s13 r14 g14 Z12 Q12 o12
          generalize w12.heap.size = B at *
          obtain ⟨gg, l, hv, n5, s6, r6⟩ := s14
          simp only [Value.slice.injEq, Option.some.injEq, Addr.mk.injEq, and_true] at hv
          subst hv
          obtain ⟨g6, j6, y6, h6, n6, c6, y6a, y6b⟩ := SlR.at n5 s6 r6 (show u.toNat < 2 by omega)
          simp only [Value.pointer.injEq, Option.some.injEq, Addr.mk.injEq, and_true] at h6
          obtain ⟨rfl, rfl⟩ := h6
          clear s6 n6
          have ZZ := Lib.hid Z14
          have QQ := Lib.hid Q14
          obtain ⟨z, m0, m1, m2, m3, m4, m5⟩ := bx6 Q14
          obtain ⟨q0, q1, q2, q3, q4, q5⟩ := fz6 Q14
          obtain ⟨z2, n0, n1, n2, n3, n4, n5⟩ := bx6 Z14
          obtain ⟨f0, f1, f2, f3, f4, f5⟩ := fz6 Z14
          have hne : w.heap.size ≠ Q := by omega
          clear Z14 Q14
          go_wp2_with fail
          refine bodyPost_ret (results_cell_row rfl _ _ w.heap.size 27 #[.int .i64 x1, .int .i64 x2, .int .i64 y6, .int .i64 x4, .bool k5, .slice a9 ds.length c9] (0, 0) _ rfl (blk_set6 (blk_set_other ZZ.out hne)) Try.underlying27 rfl size_Packet) rfl ?_
          have gR := grown_set6 (w14.setCell ⟨Q, 2, none⟩ (Value.int .i64 y6)) w.heap.size (.int .i64 x1) (.int .i64 x2) (.int .i64 y6) (.int .i64 x4) (.bool k5) (.slice a9 ds.length c9)
          have gQ := grown_set1 w14 Q 2 (Value.int .i64 y6)
          have DA := D14.own gQ (fun q hq => by cases hq; omega) hblt
          have DB := DA.own gR (fun q hq => by cases hq; exact Nat.le_refl _) hblt
          exact ⟨⟨x1, x2, y6, x4, k5, ds⟩, a9, c9, rfl, (o14.kept gQ (own_ne_blk o14 QQ.out (by decide))).kept gR (own_ne_blk (o14.kept gQ (own_ne_blk o14 QQ.out (by decide))) (blk_set_other ZZ.out hne) (by decide)), hd13, HB.out, fun h => absurd h hz, DB.2.mono (by omega), DB.1⟩
        · by_cases y2 : y = 2
          · subst y2
            have e13 := Ext.alloc w12 (.cells #[.int .i64 (-1), .int .i64 256, .int .i64 255] 3)
            have s13 : SlR (w12.alloc (.cells #[.int .i64 (-1), .int .i64 256, .int .i64 255] 3)) (b + 1) (.slice (some ⟨w12.heap.size, 0, none⟩) 3 3) 3 (-1) 256 := ⟨_, [-1, 256, 255], rfl, by have := D12.2.lt; omega, Sl_new _ _ _, by simp⟩
            go_wp2_with fail
            refine (pick_c b _ 3 _ (D12.2.ext e13) (by omega) (by omega) (by omega)).mono ?_
            rintro e w14 ⟨u, rfl, ua, ub, r14, g14⟩
            have D14 : DG w b (P + 409) 0 0 w14 := ⟨grown_trans (grown_ext D12.1 e13) g14, r14.mono (by omega)⟩
            have s14 := s13.grown g14 (by omega)
            have Z14 := gr_blk g14 (e13.blk Z12) (by omega)
            have Q14 := gr_blk g14 (e13.blk Q12) (by omega)
            have o14 := own_gr (owns_ext o12 e13) g14 hblt
            clear D12 e13 s13 r14 g14 Z12 Q12 o12
            generalize w12.heap.size = B at *
            obtain ⟨gg, l, hv, n5, s6, r6⟩ := s14
            simp only [Value.slice.injEq, Option.some.injEq, Addr.mk.injEq, and_true] at hv
            subst hv
            obtain ⟨g6, j6, y6, h6, n6, c6, y6a, y6b⟩ := SlR.at n5 s6 r6 (show u.toNat < 3 by omega)
            simp only [Value.pointer.injEq, Option.some.injEq, Addr.mk.injEq, and_true] at h6
            obtain ⟨rfl, rfl⟩ := h6
            clear s6 n6
            have ZZ := Lib.hid Z14
            have QQ := Lib.hid Q14
            obtain ⟨z, m0, m1, m2, m3, m4, m5⟩ := bx6 Q14
            obtain ⟨q0, q1, q2, q3, q4, q5⟩ := fz6 Q14
            obtain ⟨z2, n0, n1, n2, n3, n4, n5⟩ := bx6 Z14
            obtain ⟨f0, f1, f2, f3, f4, f5⟩ := fz6 Z14
            have hne : w.heap.size ≠ Q := by omega
            clear Z14 Q14
            go_wp2_with fail
            refine bodyPost_ret (results_cell_row rfl _ _ w.heap.size 27 #[.int .i64 x1, .int .i64 x2, .int .i64 x3, .int .i64 y6, .bool k5, .slice a9 ds.length c9] (0, 0) _ rfl (blk_set6 (blk_set_other ZZ.out hne)) Try.underlying27 rfl size_Packet) rfl ?_
            have gR := grown_set6 (w14.setCell ⟨Q, 3, none⟩ (Value.int .i64 y6)) w.heap.size (.int .i64 x1) (.int .i64 x2) (.int .i64 x3) (.int .i64 y6) (.bool k5) (.slice a9 ds.length c9)
            have gQ := grown_set1 w14 Q 3 (Value.int .i64 y6)
            have DA := D14.own gQ (fun q hq => by cases hq; omega) hblt
            have DB := DA.own gR (fun q hq => by cases hq; exact Nat.le_refl _) hblt
            exact ⟨⟨x1, x2, x3, y6, k5, ds⟩, a9, c9, rfl, (o14.kept gQ (own_ne_blk o14 QQ.out (by decide))).kept gR (own_ne_blk (o14.kept gQ (own_ne_blk o14 QQ.out (by decide))) (blk_set_other ZZ.out hne) (by decide)), hd13, HB.out, fun h => absurd h hz, DB.2.mono (by omega), DB.1⟩
          · obtain rfl : y = 3 := by omega
            have hQlt := lt_of_block Q12
            have ZZ := Lib.hid Z12
            have QQ := Lib.hid Q12
            obtain ⟨z, m0, m1, m2, m3, m4, m5⟩ := bx6 Q12
            obtain ⟨q0, q1, q2, q3, q4, q5⟩ := fz6 Q12
            obtain ⟨z2, n0, n1, n2, n3, n4, n5⟩ := bx6 Z12
            obtain ⟨f0, f1, f2, f3, f4, f5⟩ := fz6 Z12
            have hne : w.heap.size ≠ Q := by omega
            clear Z12 Q12
            go_wp2_with fail
            refine bodyPost_ret (results_cell_row rfl _ _ w.heap.size 27 #[.int .i64 x1, .int .i64 x2, .int .i64 x3, .int .i64 x4, .bool k5, .slice none 0 0] (0, 0) _ rfl (blk_set6 (blk_set_other ZZ.out hne)) Try.underlying27 rfl size_Packet) rfl ?_
            have gR := grown_set6 (w12.setCell ⟨Q, 5, none⟩ (Value.slice none 0 0)) w.heap.size (.int .i64 x1) (.int .i64 x2) (.int .i64 x3) (.int .i64 x4) (.bool k5) (.slice none 0 0)
            have gQ := grown_set1 w12 Q 5 (Value.slice none 0 0)
            have DA := D12.own gQ (fun q hq => by cases hq; omega) hblt
            have DB := DA.own gR (fun q hq => by cases hq; exact Nat.le_refl _) hblt
            exact ⟨⟨x1, x2, x3, x4, k5, []⟩, none, 0, rfl, World.ownsRow_nil _ _ _ _, by simp, by intro z hz; simp at hz, fun h => absurd h hz, DB.2.mono (by omega), DB.1⟩
end Go.Proofs.Ytpjjadmjdafkeaa
