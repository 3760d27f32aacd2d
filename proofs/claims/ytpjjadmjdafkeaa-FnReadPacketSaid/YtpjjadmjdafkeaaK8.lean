/- Packets: contract of the reference's ReadPacket. -/
import Derived.Test.YtpjjadmjdafkeaaK7
namespace Go.Proofs.Ytpjjadmjdafkeaa
open Go.RowKit
set_option maxHeartbeats 1000000
set_option maxRecDepth 100000 in
theorem spec_ReadPacket_short (a : Option Addr) (c n : Nat) (l : List Int) (w : World) (hs : n < 10 ∨ 209 < n) (r : Sl w a n (l.map (Value.int .u8))) :
    Calls Try.prog 21 #[.slice a n c] w (RdR w l) := by
  have hl := r.int_len
  have hno : ¬ rdOk l := fun h => by have h1 := h.1; have h2 := h.2.1; omega
  have HN := Lib.hid hno
  have HS := Lib.hid (show (n : Int) < 10 ∨ 209 < (n : Int) by omega)
  clear hno r hl hs
  go_enter Try.func21, Try.ntmps21
  go_wp2_with fail
  refine (l1In_no (n : Int) _ _ _ HS.out).mono ?_
  rintro e w1 ⟨rfl, rfl⟩
  go_wp2
  refine bodyPost_ret (v := .tuple #[.agg #[.int .i64 0, .int .i64 0, .int .i64 0, .int .i64 0, .bool false, .slice none 0 0], .bool false]) (by simp [results, Try.results21, go_sem]) rfl ?_
  unfold RdR
  rw [rdP_no HN.out, decide_eq_false HN.out]
  exact ⟨none, 0, rfl, World.ownsRow_nil _ _ _ _, Ext.alloc _ _⟩
set_option maxRecDepth 100000 in
theorem spec_ReadPacket_flag (a : Option Addr) (c n : Nat) (l : List Int) (w : World) (h10 : 10 ≤ n) (h209 : n ≤ 209) (h6 : 1 < nth l 6) (r : Sl w a n (l.map (Value.int .u8))) :
    Calls Try.prog 21 #[.slice a n c] w (RdR w l) := by
  have hno : ¬ rdOk l := fun h => by have := h.2.2.1; omega
  have HN := Lib.hid hno
  obtain ⟨b, o, rfl, g⟩ := r.int (i := 6) (by omega)
  generalize nth l 6 = s6 at *
  clear hno r
  have g' := cell_ext (Ext.alloc w (.cells #[.int .i64 0, .int .i64 0, .int .i64 0, .int .i64 0, .bool false, .slice none 0 0] 27)) g
  go_enter Try.func21, Try.ntmps21
  go_wp2_with fail
  refine (l1In_yes (n : Int) _ _ _ (by omega) (by omega)).mono ?_
  rintro e w1 ⟨rfl, rfl⟩
  go_wp2
  refine bodyPost_ret (v := .tuple #[.agg #[.int .i64 0, .int .i64 0, .int .i64 0, .int .i64 0, .bool false, .slice none 0 0], .bool false]) (by simp [results, Try.results21, go_sem]) rfl ?_
  unfold RdR
  rw [rdP_no HN.out, decide_eq_false HN.out]
  exact ⟨none, 0, rfl, World.ownsRow_nil _ _ _ _, Ext.alloc _ _⟩
set_option maxHeartbeats 8000000 in
set_option maxRecDepth 100000 in
theorem spec_ReadPacket_long (a : Option Addr) (c n : Nat) (l : List Int) (w : World) (hs2 : 10 ≤ n) (h209 : n ≤ 209) (h6 : nth l 6 ≤ 1) (hn : n ≤ c ∧ c ≤ 9223372036854775807) (hn2 : n < 2^45) (r : Sl w a n (l.map (Value.int .u8))) (hb : bys l) :
    Calls Try.prog 21 #[.slice a n c] w (RdR w l) := by
  have hl := r.int_len
  have Hb := Lib.hid hb
  have Hl := Lib.hid hl
  obtain ⟨bb, o, rfl, -⟩ := r.int (i := 0) (by omega)
  have hcell : ∀ i, i < n → w.cell? ⟨bb, o + i, none⟩ = some (.int .u8 (nth l i)) := fun i hi => by
    obtain ⟨b', off', h1, h2⟩ := r.int hi
    simp only [Option.some.injEq, Addr.mk.injEq, and_true] at h1
    obtain ⟨rfl, rfl⟩ := h1
    exact h2
  have g4 := hcell 4 (by omega)
  have g5 := hcell 5 (by omega)
  have g6 := hcell 6 (by omega)
  have d1 : (parse l).num = nth l 0 * 256 + nth l 1 := rfl
  have d2 : (parse l).fr = nth l 2 * 256 + nth l 3 := rfl
  have d3 : (parse l).row = nth l 4 := rfl
  have d4 : (parse l).part = nth l 5 := rfl
  have d5 : (parse l).last = decide (nth l 6 = 1) := rfl
  have d6 : (parse l).data = (l.drop 7).take (n - 9) := by rw [← hl]; rfl
  have d7 : (parse l).data.length = n - 9 := by rw [d6]; simp; omega
  have g0 := hcell 0 (by omega)
  have g1 := hcell 1 (by omega)
  have g2 := hcell 2 (by omega)
  have g3 := hcell 3 (by omega)
  have b0 := Hb.out (nth l 0) (by rw [nth_eq _ _ (by omega)]; exact List.getElem_mem _)
  have b1 := Hb.out (nth l 1) (by rw [nth_eq _ _ (by omega)]; exact List.getElem_mem _)
  have b2 := Hb.out (nth l 2) (by rw [nth_eq _ _ (by omega)]; exact List.getElem_mem _)
  have b3 := Hb.out (nth l 3) (by rw [nth_eq _ _ (by omega)]; exact List.getElem_mem _)
  have b6 := Hb.out (nth l 6) (by rw [nth_eq _ _ (by omega)]; exact List.getElem_mem _)
  rw [← d3] at g4
  rw [← d4] at g5
  have b4 := Hb.out (nth l 4) (by rw [nth_eq _ _ (by omega)]; exact List.getElem_mem _)
  have b5 := Hb.out (nth l 5) (by rw [nth_eq _ _ (by omega)]; exact List.getElem_mem _)
  rw [← d3] at b4
  rw [← d4] at b5
  have rM := r.mid (i := 7) (m := n - 9) (by omega)
  rw [← d6] at rM
  obtain ⟨p, hp⟩ : ∃ p, p = parse l := ⟨_, rfl⟩
  rw [← hp] at d1 d2 g4 g5 rM d5 d6 d7 b4 b5
  obtain ⟨num, fr, row, part, last, zs⟩ := p
  obtain ⟨s6, hs6⟩ : ∃ s, s = nth l 6 := ⟨_, rfl⟩
  rw [← hs6] at g6 d5 b6
  have hs61 : ¬ 1 < s6 := by have := h6; rw [← hs6] at this; omega
  have H6 := Lib.hid hs6
  simp only at d1 d2 g4 g5 rM d5 d6 d7 b4 b5
  have v4 : wrap64 row = row := by unfold wrap64; omega
  have v5 : wrap64 part = part := by unfold wrap64; omega
  obtain ⟨z0, hz0⟩ : ∃ s, s = nth l 0 := ⟨_, rfl⟩
  obtain ⟨z1, hz1⟩ : ∃ s, s = nth l 1 := ⟨_, rfl⟩
  obtain ⟨z2, hz2⟩ : ∃ s, s = nth l 2 := ⟨_, rfl⟩
  obtain ⟨z3, hz3⟩ : ∃ s, s = nth l 3 := ⟨_, rfl⟩
  rw [← hz0] at g0 b0 d1
  rw [← hz1] at g1 b1 d1
  rw [← hz2] at g2 b2 d2
  rw [← hz3] at g3 b3 d2
  rw [Nat.add_zero] at g0
  have HN1 := Lib.hid d1
  have HN2 := Lib.hid d2
  have Hp := Lib.hid hp
  have HD5 := Lib.hid d5
  have HD7 := Lib.hid d7
  have hzb : bys zs := by rw [d6]; exact fun z hz => Hb.out z (List.mem_of_mem_drop (List.mem_of_mem_take hz))
  have Hzb := Lib.hid hzb
  clear hcell d1 d2 d3 d4 d5 d6 d7 hp hs6 hz0 hz1 hz2 hz3 hb hl hzb
  have hnI : ((n : Int) - 2) = ((n - 2 : Nat) : Int) := by omega
  go_enter Try.func21, Try.ntmps21
  have pA := blk_new w (.cells #[.int .i64 0, .int .i64 0, .int .i64 0, .int .i64 0, .bool false, .slice none 0 0] 27)
  have EA := Ext.alloc w (.cells #[.int .i64 0, .int .i64 0, .int .i64 0, .int .i64 0, .bool false, .slice none 0 0] 27)
  have g6A := cell_ext EA g6
  go_wp2_with fail
  refine (l1In_yes (n : Int) _ _ _ (by omega) (by omega)).mono ?_
  rintro e w1 ⟨rfl, rfl⟩
  generalize w.alloc (.cells #[.int .i64 0, .int .i64 0, .int .i64 0, .int .i64 0, .bool false, .slice none 0 0] 27) = wA at *
  go_wp2_with fail
  have hext : ∀ (i : Nat) (own : Value) (ys : Nat → Value) (wa wb : World), Ext wa wb → (match i with | 0 => own = .slice (some ⟨bb, o, none⟩) n c | 1 => own = .pointer (some ⟨bb, o, none⟩) | 2 => own = .int .u8 z0 | 3 => own = .int .i64 z0 | 4 => own = .int .i64 (z0 * 256) | 5 => own = .slice (some ⟨bb, o, none⟩) n c | 6 => own = .pointer (some ⟨bb, o + 1, none⟩) | 7 => own = .int .u8 z1 | 8 => own = .int .i64 z1 | 9 => own = .int .i64 num | 10 => own = .slice (some ⟨bb, o, none⟩) n c | 11 => own = .pointer (some ⟨bb, o + 2, none⟩) | 12 => own = .int .u8 z2 | 13 => own = .int .i64 z2 | 14 => own = .int .i64 (z2 * 256) | 15 => own = .slice (some ⟨bb, o, none⟩) n c | 16 => own = .pointer (some ⟨bb, o + 3, none⟩) | 17 => own = .int .u8 z3 | 18 => own = .int .i64 z3 | 19 => own = .int .i64 fr | 20 => own = .slice (some ⟨bb, o, none⟩) n c | 21 => own = .pointer (some ⟨bb, o + 4, none⟩) | 22 => own = .int .u8 row | 23 => own = .int .i64 row | 24 => own = .slice (some ⟨bb, o, none⟩) n c | 25 => own = .pointer (some ⟨bb, o + 5, none⟩) | 26 => own = .int .u8 part | 27 => own = .int .i64 part | 28 => own = .slice (some ⟨bb, o, none⟩) n c | 29 => own = .pointer (some ⟨bb, o + 6, none⟩) | 30 => own = .int .u8 s6 | 31 => own = .bool (s6 == 1) | 32 => ∃ (q : Nat), own = .slice (some ⟨q, 0, none⟩) 0 0 ∧ wa.ownsRow wA.heap.size 5 1 (.slice (some ⟨q, 0, none⟩) 0 0) 0 [] | 33 => own = .slice (some ⟨bb, o, none⟩) n c | 34 => own = .int .i64 ((n - 2 : Nat) : Int) | 35 => own = .slice (some ⟨bb, o + 7, none⟩) (n - 9) (c - 7) | 36 => ∃ (ax : Option Addr) (cx : Nat), own = .slice ax (n - 9) cx ∧ wa.ownsRow wA.heap.size 5 1 (.slice ax (n - 9) cx) (n - 9) (zs.map (Value.int .u8)) | 37 => ∃ (ax : Option Addr) (cx : Nat), own = .agg #[.int .i64 num, .int .i64 fr, .int .i64 row, .int .i64 part, .bool (s6 == 1), .slice ax (n - 9) cx] ∧ wa.ownsRow wA.heap.size 5 1 (.slice ax (n - 9) cx) (n - 9) (zs.map (Value.int .u8)) | 38 => ∃ (q : Nat) (x0 x1 x2 x3 x4 x5 : Value), own = .pointer (some ⟨q, 0, none⟩) ∧ wA.heap.size ≤ q ∧ wa.heap[q]? = some (.cells #[x0, x1, x2, x3, x4, x5] 27 (0, 0)) | 39 => ∃ (q : Nat) (ax : Option Addr) (cx : Nat), ys 38 = .pointer (some ⟨q, 0, none⟩) ∧ wA.heap.size ≤ q ∧ wa.heap[q]? = some (.cells #[.int .i64 num, .int .i64 fr, .int .i64 row, .int .i64 part, .bool (s6 == 1), .slice ax (n - 9) cx] 27 (0, 0)) ∧ wa.ownsRow wA.heap.size 5 1 (.slice ax (n - 9) cx) (n - 9) (zs.map (Value.int .u8)) | _ => True) → (match i with | 0 => own = .slice (some ⟨bb, o, none⟩) n c | 1 => own = .pointer (some ⟨bb, o, none⟩) | 2 => own = .int .u8 z0 | 3 => own = .int .i64 z0 | 4 => own = .int .i64 (z0 * 256) | 5 => own = .slice (some ⟨bb, o, none⟩) n c | 6 => own = .pointer (some ⟨bb, o + 1, none⟩) | 7 => own = .int .u8 z1 | 8 => own = .int .i64 z1 | 9 => own = .int .i64 num | 10 => own = .slice (some ⟨bb, o, none⟩) n c | 11 => own = .pointer (some ⟨bb, o + 2, none⟩) | 12 => own = .int .u8 z2 | 13 => own = .int .i64 z2 | 14 => own = .int .i64 (z2 * 256) | 15 => own = .slice (some ⟨bb, o, none⟩) n c | 16 => own = .pointer (some ⟨bb, o + 3, none⟩) | 17 => own = .int .u8 z3 | 18 => own = .int .i64 z3 | 19 => own = .int .i64 fr | 20 => own = .slice (some ⟨bb, o, none⟩) n c | 21 => own = .pointer (some ⟨bb, o + 4, none⟩) | 22 => own = .int .u8 row | 23 => own = .int .i64 row | 24 => own = .slice (some ⟨bb, o, none⟩) n c | 25 => own = .pointer (some ⟨bb, o + 5, none⟩) | 26 => own = .int .u8 part | 27 => own = .int .i64 part | 28 => own = .slice (some ⟨bb, o, none⟩) n c | 29 => own = .pointer (some ⟨bb, o + 6, none⟩) | 30 => own = .int .u8 s6 | 31 => own = .bool (s6 == 1) | 32 => ∃ (q : Nat), own = .slice (some ⟨q, 0, none⟩) 0 0 ∧ wb.ownsRow wA.heap.size 5 1 (.slice (some ⟨q, 0, none⟩) 0 0) 0 [] | 33 => own = .slice (some ⟨bb, o, none⟩) n c | 34 => own = .int .i64 ((n - 2 : Nat) : Int) | 35 => own = .slice (some ⟨bb, o + 7, none⟩) (n - 9) (c - 7) | 36 => ∃ (ax : Option Addr) (cx : Nat), own = .slice ax (n - 9) cx ∧ wb.ownsRow wA.heap.size 5 1 (.slice ax (n - 9) cx) (n - 9) (zs.map (Value.int .u8)) | 37 => ∃ (ax : Option Addr) (cx : Nat), own = .agg #[.int .i64 num, .int .i64 fr, .int .i64 row, .int .i64 part, .bool (s6 == 1), .slice ax (n - 9) cx] ∧ wb.ownsRow wA.heap.size 5 1 (.slice ax (n - 9) cx) (n - 9) (zs.map (Value.int .u8)) | 38 => ∃ (q : Nat) (x0 x1 x2 x3 x4 x5 : Value), own = .pointer (some ⟨q, 0, none⟩) ∧ wA.heap.size ≤ q ∧ wb.heap[q]? = some (.cells #[x0, x1, x2, x3, x4, x5] 27 (0, 0)) | 39 => ∃ (q : Nat) (ax : Option Addr) (cx : Nat), ys 38 = .pointer (some ⟨q, 0, none⟩) ∧ wA.heap.size ≤ q ∧ wb.heap[q]? = some (.cells #[.int .i64 num, .int .i64 fr, .int .i64 row, .int .i64 part, .bool (s6 == 1), .slice ax (n - 9) cx] 27 (0, 0)) ∧ wb.ownsRow wA.heap.size 5 1 (.slice ax (n - 9) cx) (n - 9) (zs.map (Value.int .u8)) | _ => True) := by
    intro i own ys wa wb e h
    match i, h with
    | 0, h => exact h
    | 1, h => exact h
    | 2, h => exact h
    | 3, h => exact h
    | 4, h => exact h
    | 5, h => exact h
    | 6, h => exact h
    | 7, h => exact h
    | 8, h => exact h
    | 9, h => exact h
    | 10, h => exact h
    | 11, h => exact h
    | 12, h => exact h
    | 13, h => exact h
    | 14, h => exact h
    | 15, h => exact h
    | 16, h => exact h
    | 17, h => exact h
    | 18, h => exact h
    | 19, h => exact h
    | 20, h => exact h
    | 21, h => exact h
    | 22, h => exact h
    | 23, h => exact h
    | 24, h => exact h
    | 25, h => exact h
    | 26, h => exact h
    | 27, h => exact h
    | 28, h => exact h
    | 29, h => exact h
    | 30, h => exact h
    | 31, h => exact h
    | 32, h => obtain ⟨q, h1, h2⟩ := h; exact ⟨q, h1, owns_ext h2 e⟩
    | 33, h => exact h
    | 34, h => exact h
    | 35, h => exact h
    | 36, h => obtain ⟨a2, c2, h1, h2⟩ := h; exact ⟨a2, c2, h1, owns_ext h2 e⟩
    | 37, h => obtain ⟨a2, c2, h1, h2⟩ := h; exact ⟨a2, c2, h1, owns_ext h2 e⟩
    | 38, h => obtain ⟨q, x0, x1, x2, x3, x4, x5, h1, h2, h3⟩ := h; exact ⟨q, x0, x1, x2, x3, x4, x5, h1, h2, e.blk h3⟩
    | 39, h => obtain ⟨q, a2, c2, h1, h2, h3, h4⟩ := h; exact ⟨q, a2, c2, h1, h2, e.blk h3, owns_ext h4 e⟩
    | _ + 40, _ => trivial
  have Hext := Lib.hid hext
  clear hext
  refine wp_region_inv2 (by kernel_rfl) [(5, 38), (20, 0), (21, 1), (22, 2), (23, 3), (24, 4), (25, 5), (26, 6), (27, 7), (28, 8), (29, 9), (30, 10), (31, 11), (32, 12), (33, 13), (34, 14), (35, 15), (36, 16), (37, 17), (38, 18), (39, 19), (40, 20), (41, 21), (42, 22), (43, 23), (44, 24), (45, 25), (46, 26), (47, 27), (48, 28), (49, 29), (50, 30), (51, 31), (52, 32), (53, 33), (54, 34), (55, 35), (56, 36), (57, 37)] [[], [0], [0, 1], [0, 1, 2], [0, 1, 2, 3], [], [5], [5, 6], [5, 6, 7], [0, 1, 2, 3, 4, 5, 6, 7, 8], [], [10], [10, 11], [10, 11, 12], [10, 11, 12, 13], [], [15], [15, 16], [15, 16, 17], [10, 11, 12, 13, 14, 15, 16, 17, 18], [], [20], [20, 21], [20, 21, 22], [], [24], [24, 25], [24, 25, 26], [], [28], [28, 29], [28, 29, 30], [], [], [], [33, 34], [32, 33, 34, 35], [0, 1, 2, 3, 4, 5, 6, 7, 8, 9, 10, 11, 12, 13, 14, 15, 16, 17, 18, 19, 20, 21, 22, 23, 24, 25, 26, 27, 28, 29, 30, 31, 32, 33, 34, 35, 36], [], [0, 1, 2, 3, 4, 5, 6, 7, 8, 9, 10, 11, 12, 13, 14, 15, 16, 17, 18, 19, 20, 21, 22, 23, 24, 25, 26, 27, 28, 29, 30, 31, 32, 33, 34, 35, 36, 37, 38]] (fun i own ys wx => match i with | 0 => own = .slice (some ⟨bb, o, none⟩) n c | 1 => own = .pointer (some ⟨bb, o, none⟩) | 2 => own = .int .u8 z0 | 3 => own = .int .i64 z0 | 4 => own = .int .i64 (z0 * 256) | 5 => own = .slice (some ⟨bb, o, none⟩) n c | 6 => own = .pointer (some ⟨bb, o + 1, none⟩) | 7 => own = .int .u8 z1 | 8 => own = .int .i64 z1 | 9 => own = .int .i64 num | 10 => own = .slice (some ⟨bb, o, none⟩) n c | 11 => own = .pointer (some ⟨bb, o + 2, none⟩) | 12 => own = .int .u8 z2 | 13 => own = .int .i64 z2 | 14 => own = .int .i64 (z2 * 256) | 15 => own = .slice (some ⟨bb, o, none⟩) n c | 16 => own = .pointer (some ⟨bb, o + 3, none⟩) | 17 => own = .int .u8 z3 | 18 => own = .int .i64 z3 | 19 => own = .int .i64 fr | 20 => own = .slice (some ⟨bb, o, none⟩) n c | 21 => own = .pointer (some ⟨bb, o + 4, none⟩) | 22 => own = .int .u8 row | 23 => own = .int .i64 row | 24 => own = .slice (some ⟨bb, o, none⟩) n c | 25 => own = .pointer (some ⟨bb, o + 5, none⟩) | 26 => own = .int .u8 part | 27 => own = .int .i64 part | 28 => own = .slice (some ⟨bb, o, none⟩) n c | 29 => own = .pointer (some ⟨bb, o + 6, none⟩) | 30 => own = .int .u8 s6 | 31 => own = .bool (s6 == 1) | 32 => ∃ (q : Nat), own = .slice (some ⟨q, 0, none⟩) 0 0 ∧ wx.ownsRow wA.heap.size 5 1 (.slice (some ⟨q, 0, none⟩) 0 0) 0 [] | 33 => own = .slice (some ⟨bb, o, none⟩) n c | 34 => own = .int .i64 ((n - 2 : Nat) : Int) | 35 => own = .slice (some ⟨bb, o + 7, none⟩) (n - 9) (c - 7) | 36 => ∃ (ax : Option Addr) (cx : Nat), own = .slice ax (n - 9) cx ∧ wx.ownsRow wA.heap.size 5 1 (.slice ax (n - 9) cx) (n - 9) (zs.map (Value.int .u8)) | 37 => ∃ (ax : Option Addr) (cx : Nat), own = .agg #[.int .i64 num, .int .i64 fr, .int .i64 row, .int .i64 part, .bool (s6 == 1), .slice ax (n - 9) cx] ∧ wx.ownsRow wA.heap.size 5 1 (.slice ax (n - 9) cx) (n - 9) (zs.map (Value.int .u8)) | 38 => ∃ (q : Nat) (x0 x1 x2 x3 x4 x5 : Value), own = .pointer (some ⟨q, 0, none⟩) ∧ wA.heap.size ≤ q ∧ wx.heap[q]? = some (.cells #[x0, x1, x2, x3, x4, x5] 27 (0, 0)) | 39 => ∃ (q : Nat) (ax : Option Addr) (cx : Nat), ys 38 = .pointer (some ⟨q, 0, none⟩) ∧ wA.heap.size ≤ q ∧ wx.heap[q]? = some (.cells #[.int .i64 num, .int .i64 fr, .int .i64 row, .int .i64 part, .bool (s6 == 1), .slice ax (n - 9) cx] 27 (0, 0)) ∧ wx.ownsRow wA.heap.size 5 1 (.slice ax (n - 9) cx) (n - 9) (zs.map (Value.int .u8)) | _ => True) (fun kx wx => Ext wA wx) (by kernel_rfl) (by kernel_rfl) (by kernel_rfl) ?g0_r1 ?gop_r1 ?gend_r1
  case g0_r1 => exact Ext.drewN _ 1
  case gop_r1 =>
    refine ⟨?_, ?_, ?_, ?_, ?_, ?_, ?_, ?_, ?_, ?_, ?_, ?_, ?_, ?_, ?_, ?_, ?_, ?_, ?_, ?_, ?_, ?_, ?_, ?_, ?_, ?_, ?_, ?_, ?_, ?_, ?_, ?_, ?_, ?_, ?_, ?_, ?_, ?_, ?_, ?_, trivial⟩
    · intro kx xs wx hk hG hD hI Qo Kx hK hQo
      clear hD
      clear hI
      simp only [patchS, Nat.reduceAdd, Nat.reduceEqDiff, ↓reduceIte] at hQo ⊢
      go_wp2
      exact hK.out _ _ ⟨rfl, hG, fun _ _ _ _ _ _ h => h⟩
    · intro kx xs wx hk hG hD hI Qo Kx hK hQo
      have d0 : (xs 0) = .slice (some ⟨bb, o, none⟩) n c := hD 0 rfl
      clear hD
      clear hI
      simp only [patchS, Nat.reduceAdd, Nat.reduceEqDiff, ↓reduceIte] at hQo ⊢
      generalize xs 0 = y0 at *
      subst d0
      go_wp2
      exact hK.out _ _ ⟨rfl, hG, fun _ _ _ _ _ _ h => h⟩
    · intro kx xs wx hk hG hD hI Qo Kx hK hQo
      have d1 : (xs 1) = .pointer (some ⟨bb, o, none⟩) := hD 1 rfl
      clear hD
      clear hI
      simp only [patchS, Nat.reduceAdd, Nat.reduceEqDiff, ↓reduceIte] at hQo ⊢
      generalize xs 1 = y1 at *
      subst d1
      have k0 := cell_ext (EA.trans hG) g0
      go_wp2
      exact hK.out _ _ ⟨rfl, hG, fun _ _ _ _ _ _ h => h⟩
    · intro kx xs wx hk hG hD hI Qo Kx hK hQo
      have d2 : (xs 2) = .int .u8 z0 := hD 2 rfl
      clear hD
      clear hI
      simp only [patchS, Nat.reduceAdd, Nat.reduceEqDiff, ↓reduceIte] at hQo ⊢
      generalize xs 2 = y2 at *
      subst d2
      go_wp2
      exact hK.out _ _ ⟨rfl, hG, fun _ _ _ _ _ _ h => h⟩
    · intro kx xs wx hk hG hD hI Qo Kx hK hQo
      have d3 : (xs 3) = .int .i64 z0 := hD 3 rfl
      clear hD
      clear hI
      simp only [patchS, Nat.reduceAdd, Nat.reduceEqDiff, ↓reduceIte] at hQo ⊢
      generalize xs 3 = y3 at *
      subst d3
      go_wp2
      exact hK.out _ _ ⟨rfl, hG, fun _ _ _ _ _ _ h => h⟩
    · intro kx xs wx hk hG hD hI Qo Kx hK hQo
      clear hD
      clear hI
      simp only [patchS, Nat.reduceAdd, Nat.reduceEqDiff, ↓reduceIte] at hQo ⊢
      go_wp2
      exact hK.out _ _ ⟨rfl, hG, fun _ _ _ _ _ _ h => h⟩
    · intro kx xs wx hk hG hD hI Qo Kx hK hQo
      have d5 : (xs 5) = .slice (some ⟨bb, o, none⟩) n c := hD 5 rfl
      clear hD
      clear hI
      simp only [patchS, Nat.reduceAdd, Nat.reduceEqDiff, ↓reduceIte] at hQo ⊢
      generalize xs 5 = y5 at *
      subst d5
      go_wp2
      exact hK.out _ _ ⟨rfl, hG, fun _ _ _ _ _ _ h => h⟩
    · intro kx xs wx hk hG hD hI Qo Kx hK hQo
      have d6 : (xs 6) = .pointer (some ⟨bb, o + 1, none⟩) := hD 6 rfl
      clear hD
      clear hI
      simp only [patchS, Nat.reduceAdd, Nat.reduceEqDiff, ↓reduceIte] at hQo ⊢
      generalize xs 6 = y6 at *
      subst d6
      have k0 := cell_ext (EA.trans hG) g1
      go_wp2
      exact hK.out _ _ ⟨rfl, hG, fun _ _ _ _ _ _ h => h⟩
    · intro kx xs wx hk hG hD hI Qo Kx hK hQo
      have d7 : (xs 7) = .int .u8 z1 := hD 7 rfl
      clear hD
      clear hI
      simp only [patchS, Nat.reduceAdd, Nat.reduceEqDiff, ↓reduceIte] at hQo ⊢
      generalize xs 7 = y7 at *
      subst d7
      go_wp2
      exact hK.out _ _ ⟨rfl, hG, fun _ _ _ _ _ _ h => h⟩
    · intro kx xs wx hk hG hD hI Qo Kx hK hQo
      have d4 : (xs 4) = .int .i64 (z0 * 256) := hD 4 rfl
      have d8 : (xs 8) = .int .i64 z1 := hD 8 rfl
      clear hD
      clear hI
      simp only [patchS, Nat.reduceAdd, Nat.reduceEqDiff, ↓reduceIte] at hQo ⊢
      generalize xs 4 = y4 at *
      generalize xs 8 = y8 at *
      subst d4
      subst d8
      go_wp2
      exact hK.out _ _ ⟨by rw [← HN1.out], hG, fun _ _ _ _ _ _ h => h⟩
    · intro kx xs wx hk hG hD hI Qo Kx hK hQo
      clear hD
      clear hI
      simp only [patchS, Nat.reduceAdd, Nat.reduceEqDiff, ↓reduceIte] at hQo ⊢
      go_wp2
      exact hK.out _ _ ⟨rfl, hG, fun _ _ _ _ _ _ h => h⟩
    · intro kx xs wx hk hG hD hI Qo Kx hK hQo
      have d10 : (xs 10) = .slice (some ⟨bb, o, none⟩) n c := hD 10 rfl
      clear hD
      clear hI
      simp only [patchS, Nat.reduceAdd, Nat.reduceEqDiff, ↓reduceIte] at hQo ⊢
      generalize xs 10 = y10 at *
      subst d10
      go_wp2
      exact hK.out _ _ ⟨rfl, hG, fun _ _ _ _ _ _ h => h⟩
    · intro kx xs wx hk hG hD hI Qo Kx hK hQo
      have d11 : (xs 11) = .pointer (some ⟨bb, o + 2, none⟩) := hD 11 rfl
      clear hD
      clear hI
      simp only [patchS, Nat.reduceAdd, Nat.reduceEqDiff, ↓reduceIte] at hQo ⊢
      generalize xs 11 = y11 at *
      subst d11
      have k0 := cell_ext (EA.trans hG) g2
      go_wp2
      exact hK.out _ _ ⟨rfl, hG, fun _ _ _ _ _ _ h => h⟩
    · intro kx xs wx hk hG hD hI Qo Kx hK hQo
      have d12 : (xs 12) = .int .u8 z2 := hD 12 rfl
      clear hD
      clear hI
      simp only [patchS, Nat.reduceAdd, Nat.reduceEqDiff, ↓reduceIte] at hQo ⊢
      generalize xs 12 = y12 at *
      subst d12
      go_wp2
      exact hK.out _ _ ⟨rfl, hG, fun _ _ _ _ _ _ h => h⟩
    · intro kx xs wx hk hG hD hI Qo Kx hK hQo
      have d13 : (xs 13) = .int .i64 z2 := hD 13 rfl
      clear hD
      clear hI
      simp only [patchS, Nat.reduceAdd, Nat.reduceEqDiff, ↓reduceIte] at hQo ⊢
      generalize xs 13 = y13 at *
      subst d13
      go_wp2
      exact hK.out _ _ ⟨rfl, hG, fun _ _ _ _ _ _ h => h⟩
    · intro kx xs wx hk hG hD hI Qo Kx hK hQo
      clear hD
      clear hI
      simp only [patchS, Nat.reduceAdd, Nat.reduceEqDiff, ↓reduceIte] at hQo ⊢
      go_wp2
      exact hK.out _ _ ⟨rfl, hG, fun _ _ _ _ _ _ h => h⟩
    · intro kx xs wx hk hG hD hI Qo Kx hK hQo
      have d15 : (xs 15) = .slice (some ⟨bb, o, none⟩) n c := hD 15 rfl
      clear hD
      clear hI
      simp only [patchS, Nat.reduceAdd, Nat.reduceEqDiff, ↓reduceIte] at hQo ⊢
      generalize xs 15 = y15 at *
      subst d15
      go_wp2
      exact hK.out _ _ ⟨rfl, hG, fun _ _ _ _ _ _ h => h⟩
    · intro kx xs wx hk hG hD hI Qo Kx hK hQo
      have d16 : (xs 16) = .pointer (some ⟨bb, o + 3, none⟩) := hD 16 rfl
      clear hD
      clear hI
      simp only [patchS, Nat.reduceAdd, Nat.reduceEqDiff, ↓reduceIte] at hQo ⊢
      generalize xs 16 = y16 at *
      subst d16
      have k0 := cell_ext (EA.trans hG) g3
      go_wp2
      exact hK.out _ _ ⟨rfl, hG, fun _ _ _ _ _ _ h => h⟩
    · intro kx xs wx hk hG hD hI Qo Kx hK hQo
      have d17 : (xs 17) = .int .u8 z3 := hD 17 rfl
      clear hD
      clear hI
      simp only [patchS, Nat.reduceAdd, Nat.reduceEqDiff, ↓reduceIte] at hQo ⊢
      generalize xs 17 = y17 at *
      subst d17
      go_wp2
      exact hK.out _ _ ⟨rfl, hG, fun _ _ _ _ _ _ h => h⟩
    · intro kx xs wx hk hG hD hI Qo Kx hK hQo
      have d14 : (xs 14) = .int .i64 (z2 * 256) := hD 14 rfl
      have d18 : (xs 18) = .int .i64 z3 := hD 18 rfl
      clear hD
      clear hI
      simp only [patchS, Nat.reduceAdd, Nat.reduceEqDiff, ↓reduceIte] at hQo ⊢
      generalize xs 14 = y14 at *
      generalize xs 18 = y18 at *
      subst d14
      subst d18
      go_wp2
      exact hK.out _ _ ⟨by rw [← HN2.out], hG, fun _ _ _ _ _ _ h => h⟩
    · intro kx xs wx hk hG hD hI Qo Kx hK hQo
      clear hD
      clear hI
      simp only [patchS, Nat.reduceAdd, Nat.reduceEqDiff, ↓reduceIte] at hQo ⊢
      go_wp2
      exact hK.out _ _ ⟨rfl, hG, fun _ _ _ _ _ _ h => h⟩
    · intro kx xs wx hk hG hD hI Qo Kx hK hQo
      have d20 : (xs 20) = .slice (some ⟨bb, o, none⟩) n c := hD 20 rfl
      clear hD
      clear hI
      simp only [patchS, Nat.reduceAdd, Nat.reduceEqDiff, ↓reduceIte] at hQo ⊢
      generalize xs 20 = y20 at *
      subst d20
      go_wp2
      exact hK.out _ _ ⟨rfl, hG, fun _ _ _ _ _ _ h => h⟩
    · intro kx xs wx hk hG hD hI Qo Kx hK hQo
      have d21 : (xs 21) = .pointer (some ⟨bb, o + 4, none⟩) := hD 21 rfl
      clear hD
      clear hI
      simp only [patchS, Nat.reduceAdd, Nat.reduceEqDiff, ↓reduceIte] at hQo ⊢
      generalize xs 21 = y21 at *
      subst d21
      have k0 := cell_ext (EA.trans hG) g4
      go_wp2
      exact hK.out _ _ ⟨rfl, hG, fun _ _ _ _ _ _ h => h⟩
    · intro kx xs wx hk hG hD hI Qo Kx hK hQo
      have d22 : (xs 22) = .int .u8 row := hD 22 rfl
      clear hD
      clear hI
      simp only [patchS, Nat.reduceAdd, Nat.reduceEqDiff, ↓reduceIte] at hQo ⊢
      generalize xs 22 = y22 at *
      subst d22
      go_wp2
      exact hK.out _ _ ⟨rfl, hG, fun _ _ _ _ _ _ h => h⟩
    · intro kx xs wx hk hG hD hI Qo Kx hK hQo
      clear hD
      clear hI
      simp only [patchS, Nat.reduceAdd, Nat.reduceEqDiff, ↓reduceIte] at hQo ⊢
      go_wp2
      exact hK.out _ _ ⟨rfl, hG, fun _ _ _ _ _ _ h => h⟩
    · intro kx xs wx hk hG hD hI Qo Kx hK hQo
      have d24 : (xs 24) = .slice (some ⟨bb, o, none⟩) n c := hD 24 rfl
      clear hD
      clear hI
      simp only [patchS, Nat.reduceAdd, Nat.reduceEqDiff, ↓reduceIte] at hQo ⊢
      generalize xs 24 = y24 at *
      subst d24
      go_wp2
      exact hK.out _ _ ⟨rfl, hG, fun _ _ _ _ _ _ h => h⟩
    · intro kx xs wx hk hG hD hI Qo Kx hK hQo
      have d25 : (xs 25) = .pointer (some ⟨bb, o + 5, none⟩) := hD 25 rfl
      clear hD
      clear hI
      simp only [patchS, Nat.reduceAdd, Nat.reduceEqDiff, ↓reduceIte] at hQo ⊢
      generalize xs 25 = y25 at *
      subst d25
      have k0 := cell_ext (EA.trans hG) g5
      go_wp2
      exact hK.out _ _ ⟨rfl, hG, fun _ _ _ _ _ _ h => h⟩
    · intro kx xs wx hk hG hD hI Qo Kx hK hQo
      have d26 : (xs 26) = .int .u8 part := hD 26 rfl
      clear hD
      clear hI
      simp only [patchS, Nat.reduceAdd, Nat.reduceEqDiff, ↓reduceIte] at hQo ⊢
      generalize xs 26 = y26 at *
      subst d26
      go_wp2
      exact hK.out _ _ ⟨rfl, hG, fun _ _ _ _ _ _ h => h⟩
    · intro kx xs wx hk hG hD hI Qo Kx hK hQo
      clear hD
      clear hI
      simp only [patchS, Nat.reduceAdd, Nat.reduceEqDiff, ↓reduceIte] at hQo ⊢
      go_wp2
      exact hK.out _ _ ⟨rfl, hG, fun _ _ _ _ _ _ h => h⟩
    · intro kx xs wx hk hG hD hI Qo Kx hK hQo
      have d28 : (xs 28) = .slice (some ⟨bb, o, none⟩) n c := hD 28 rfl
      clear hD
      clear hI
      simp only [patchS, Nat.reduceAdd, Nat.reduceEqDiff, ↓reduceIte] at hQo ⊢
      generalize xs 28 = y28 at *
      subst d28
      go_wp2
      exact hK.out _ _ ⟨rfl, hG, fun _ _ _ _ _ _ h => h⟩
    · intro kx xs wx hk hG hD hI Qo Kx hK hQo
      have d29 : (xs 29) = .pointer (some ⟨bb, o + 6, none⟩) := hD 29 rfl
      clear hD
      clear hI
      simp only [patchS, Nat.reduceAdd, Nat.reduceEqDiff, ↓reduceIte] at hQo ⊢
      generalize xs 29 = y29 at *
      subst d29
      have k0 := cell_ext (EA.trans hG) g6
      go_wp2
      exact hK.out _ _ ⟨rfl, hG, fun _ _ _ _ _ _ h => h⟩
    · intro kx xs wx hk hG hD hI Qo Kx hK hQo
      have d30 : (xs 30) = .int .u8 s6 := hD 30 rfl
      clear hD
      clear hI
      simp only [patchS, Nat.reduceAdd, Nat.reduceEqDiff, ↓reduceIte] at hQo ⊢
      generalize xs 30 = y30 at *
      subst d30
      go_wp2
      exact hK.out _ _ ⟨rfl, hG, fun _ _ _ _ _ _ h => h⟩
    · intro kx xs wx hk hG hD hI Qo Kx hK hQo
      clear hD
      clear hI
      simp only [patchS, Nat.reduceAdd, Nat.reduceEqDiff, ↓reduceIte] at hQo ⊢
      have e5 := Ext.alloc wx (.cells #[] 5)
      have o5 := World.ownsRow_made (base := wA.heap.size) (e := 5) (size := 1) wx #[] 0 hG.size (by simp) rfl
      go_wp2
      exact hK.out _ _ ⟨⟨_, rfl, o5⟩, hG.trans e5, fun i _ _ _ own ys h => Hext.out i own ys _ _ e5 h⟩
    · intro kx xs wx hk hG hD hI Qo Kx hK hQo
      clear hD
      clear hI
      simp only [patchS, Nat.reduceAdd, Nat.reduceEqDiff, ↓reduceIte] at hQo ⊢
      go_wp2
      exact hK.out _ _ ⟨rfl, hG, fun _ _ _ _ _ _ h => h⟩
    · intro kx xs wx hk hG hD hI Qo Kx hK hQo
      clear hD
      clear hI
      simp only [patchS, Nat.reduceAdd, Nat.reduceEqDiff, ↓reduceIte] at hQo ⊢
      go_wp2
      exact hK.out _ _ ⟨rfl, hG, fun _ _ _ _ _ _ h => h⟩
    · intro kx xs wx hk hG hD hI Qo Kx hK hQo
      have d33 : (xs 33) = .slice (some ⟨bb, o, none⟩) n c := hD 33 rfl
      have d34 : (xs 34) = .int .i64 ((n - 2 : Nat) : Int) := hD 34 rfl
      clear hD
      clear hI
      simp only [patchS, Nat.reduceAdd, Nat.reduceEqDiff, ↓reduceIte] at hQo ⊢
      generalize xs 33 = y33 at *
      generalize xs 34 = y34 at *
      subst d33
      subst d34
      go_wp2
      exact hK.out _ _ ⟨rfl, hG, fun _ _ _ _ _ _ h => h⟩
    · intro kx xs wx hk hG hD hI Qo Kx hK hQo
      have d32 : ∃ (q : Nat), (xs 32) = .slice (some ⟨q, 0, none⟩) 0 0 ∧ wx.ownsRow wA.heap.size 5 1 (.slice (some ⟨q, 0, none⟩) 0 0) 0 [] := hD 32 rfl
      have d35 : (xs 35) = .slice (some ⟨bb, o + 7, none⟩) (n - 9) (c - 7) := hD 35 rfl
      clear hD
      clear hI
      simp only [patchS, Nat.reduceAdd, Nat.reduceEqDiff, ↓reduceIte] at hQo ⊢
      generalize xs 32 = y32 at *
      generalize xs 35 = y35 at *
      obtain ⟨q32, rfl, o32⟩ := d32
      subst d35
      have hcl := (rM.ext (EA.trans hG)).cellsOf _ (by omega)
      refine wpList_appk _ rfl o32 hG.size _ _ _ rfl (.int .u8 0) 1 Try.underlying22 info_uint8 rfl (by decide) rfl ⟨bb, o + 7, none⟩ (n - 9) (c - 7) _ rfl (by rw [List.length_map, HD7.out]; omega) hcl (by intro u hu; simp at hu; obtain ⟨z, -, rfl⟩ := hu; rfl) (by omega) (by omega) ?_
      intro v14 w14 own14 gr14 keep14
      rw [Nat.zero_add, List.nil_append] at own14
      obtain ⟨a14, c14, rfl⟩ := owns_form own14
      have hst : ∀ (wy : World), (∀ b' n' own xs', n' ≤ 0 → wx.ownsRow b' 5 1 own n' xs' → wy.ownsRow b' 5 1 own n' xs') ∧ (∀ (q : Nat) (ar : Array Value), 27 ≠ 5 → wx.heap[q]? = some (.cells ar 27 (0, 0)) → wy.heap[q]? = some (.cells ar 27 (0, 0))) → ∀ (ii : Nat), ii < 40 → ii ≠ 36 → ([[], [0], [0, 1], [0, 1, 2], [0, 1, 2, 3], [], [5], [5, 6], [5, 6, 7], [0, 1, 2, 3, 4, 5, 6, 7, 8], [], [10], [10, 11], [10, 11, 12], [10, 11, 12, 13], [], [15], [15, 16], [15, 16, 17], [10, 11, 12, 13, 14, 15, 16, 17, 18], [], [20], [20, 21], [20, 21, 22], [], [24], [24, 25], [24, 25, 26], [], [28], [28, 29], [28, 29, 30], [], [], [], [33, 34], [32, 33, 34, 35], [0, 1, 2, 3, 4, 5, 6, 7, 8, 9, 10, 11, 12, 13, 14, 15, 16, 17, 18, 19, 20, 21, 22, 23, 24, 25, 26, 27, 28, 29, 30, 31, 32, 33, 34, 35, 36], [], [0, 1, 2, 3, 4, 5, 6, 7, 8, 9, 10, 11, 12, 13, 14, 15, 16, 17, 18, 19, 20, 21, 22, 23, 24, 25, 26, 27, 28, 29, 30, 31, 32, 33, 34, 35, 36, 37, 38]].getD ii []).contains 36 = false → ∀ (own : Value) (ys : Nat → Value), (match ii with | 0 => own = .slice (some ⟨bb, o, none⟩) n c | 1 => own = .pointer (some ⟨bb, o, none⟩) | 2 => own = .int .u8 z0 | 3 => own = .int .i64 z0 | 4 => own = .int .i64 (z0 * 256) | 5 => own = .slice (some ⟨bb, o, none⟩) n c | 6 => own = .pointer (some ⟨bb, o + 1, none⟩) | 7 => own = .int .u8 z1 | 8 => own = .int .i64 z1 | 9 => own = .int .i64 num | 10 => own = .slice (some ⟨bb, o, none⟩) n c | 11 => own = .pointer (some ⟨bb, o + 2, none⟩) | 12 => own = .int .u8 z2 | 13 => own = .int .i64 z2 | 14 => own = .int .i64 (z2 * 256) | 15 => own = .slice (some ⟨bb, o, none⟩) n c | 16 => own = .pointer (some ⟨bb, o + 3, none⟩) | 17 => own = .int .u8 z3 | 18 => own = .int .i64 z3 | 19 => own = .int .i64 fr | 20 => own = .slice (some ⟨bb, o, none⟩) n c | 21 => own = .pointer (some ⟨bb, o + 4, none⟩) | 22 => own = .int .u8 row | 23 => own = .int .i64 row | 24 => own = .slice (some ⟨bb, o, none⟩) n c | 25 => own = .pointer (some ⟨bb, o + 5, none⟩) | 26 => own = .int .u8 part | 27 => own = .int .i64 part | 28 => own = .slice (some ⟨bb, o, none⟩) n c | 29 => own = .pointer (some ⟨bb, o + 6, none⟩) | 30 => own = .int .u8 s6 | 31 => own = .bool (s6 == 1) | 32 => ∃ (q : Nat), own = .slice (some ⟨q, 0, none⟩) 0 0 ∧ wx.ownsRow wA.heap.size 5 1 (.slice (some ⟨q, 0, none⟩) 0 0) 0 [] | 33 => own = .slice (some ⟨bb, o, none⟩) n c | 34 => own = .int .i64 ((n - 2 : Nat) : Int) | 35 => own = .slice (some ⟨bb, o + 7, none⟩) (n - 9) (c - 7) | 36 => ∃ (ax : Option Addr) (cx : Nat), own = .slice ax (n - 9) cx ∧ wx.ownsRow wA.heap.size 5 1 (.slice ax (n - 9) cx) (n - 9) (zs.map (Value.int .u8)) | 37 => ∃ (ax : Option Addr) (cx : Nat), own = .agg #[.int .i64 num, .int .i64 fr, .int .i64 row, .int .i64 part, .bool (s6 == 1), .slice ax (n - 9) cx] ∧ wx.ownsRow wA.heap.size 5 1 (.slice ax (n - 9) cx) (n - 9) (zs.map (Value.int .u8)) | 38 => ∃ (q : Nat) (x0 x1 x2 x3 x4 x5 : Value), own = .pointer (some ⟨q, 0, none⟩) ∧ wA.heap.size ≤ q ∧ wx.heap[q]? = some (.cells #[x0, x1, x2, x3, x4, x5] 27 (0, 0)) | 39 => ∃ (q : Nat) (ax : Option Addr) (cx : Nat), ys 38 = .pointer (some ⟨q, 0, none⟩) ∧ wA.heap.size ≤ q ∧ wx.heap[q]? = some (.cells #[.int .i64 num, .int .i64 fr, .int .i64 row, .int .i64 part, .bool (s6 == 1), .slice ax (n - 9) cx] 27 (0, 0)) ∧ wx.ownsRow wA.heap.size 5 1 (.slice ax (n - 9) cx) (n - 9) (zs.map (Value.int .u8)) | _ => True) → (match ii with | 0 => own = .slice (some ⟨bb, o, none⟩) n c | 1 => own = .pointer (some ⟨bb, o, none⟩) | 2 => own = .int .u8 z0 | 3 => own = .int .i64 z0 | 4 => own = .int .i64 (z0 * 256) | 5 => own = .slice (some ⟨bb, o, none⟩) n c | 6 => own = .pointer (some ⟨bb, o + 1, none⟩) | 7 => own = .int .u8 z1 | 8 => own = .int .i64 z1 | 9 => own = .int .i64 num | 10 => own = .slice (some ⟨bb, o, none⟩) n c | 11 => own = .pointer (some ⟨bb, o + 2, none⟩) | 12 => own = .int .u8 z2 | 13 => own = .int .i64 z2 | 14 => own = .int .i64 (z2 * 256) | 15 => own = .slice (some ⟨bb, o, none⟩) n c | 16 => own = .pointer (some ⟨bb, o + 3, none⟩) | 17 => own = .int .u8 z3 | 18 => own = .int .i64 z3 | 19 => own = .int .i64 fr | 20 => own = .slice (some ⟨bb, o, none⟩) n c | 21 => own = .pointer (some ⟨bb, o + 4, none⟩) | 22 => own = .int .u8 row | 23 => own = .int .i64 row | 24 => own = .slice (some ⟨bb, o, none⟩) n c | 25 => own = .pointer (some ⟨bb, o + 5, none⟩) | 26 => own = .int .u8 part | 27 => own = .int .i64 part | 28 => own = .slice (some ⟨bb, o, none⟩) n c | 29 => own = .pointer (some ⟨bb, o + 6, none⟩) | 30 => own = .int .u8 s6 | 31 => own = .bool (s6 == 1) | 32 => ∃ (q : Nat), own = .slice (some ⟨q, 0, none⟩) 0 0 ∧ wy.ownsRow wA.heap.size 5 1 (.slice (some ⟨q, 0, none⟩) 0 0) 0 [] | 33 => own = .slice (some ⟨bb, o, none⟩) n c | 34 => own = .int .i64 ((n - 2 : Nat) : Int) | 35 => own = .slice (some ⟨bb, o + 7, none⟩) (n - 9) (c - 7) | 36 => ∃ (ax : Option Addr) (cx : Nat), own = .slice ax (n - 9) cx ∧ wy.ownsRow wA.heap.size 5 1 (.slice ax (n - 9) cx) (n - 9) (zs.map (Value.int .u8)) | 37 => ∃ (ax : Option Addr) (cx : Nat), own = .agg #[.int .i64 num, .int .i64 fr, .int .i64 row, .int .i64 part, .bool (s6 == 1), .slice ax (n - 9) cx] ∧ wy.ownsRow wA.heap.size 5 1 (.slice ax (n - 9) cx) (n - 9) (zs.map (Value.int .u8)) | 38 => ∃ (q : Nat) (x0 x1 x2 x3 x4 x5 : Value), own = .pointer (some ⟨q, 0, none⟩) ∧ wA.heap.size ≤ q ∧ wy.heap[q]? = some (.cells #[x0, x1, x2, x3, x4, x5] 27 (0, 0)) | 39 => ∃ (q : Nat) (ax : Option Addr) (cx : Nat), ys 38 = .pointer (some ⟨q, 0, none⟩) ∧ wA.heap.size ≤ q ∧ wy.heap[q]? = some (.cells #[.int .i64 num, .int .i64 fr, .int .i64 row, .int .i64 part, .bool (s6 == 1), .slice ax (n - 9) cx] 27 (0, 0)) ∧ wy.ownsRow wA.heap.size 5 1 (.slice ax (n - 9) cx) (n - 9) (zs.map (Value.int .u8)) | _ => True) := by
        intro wy hy ii hii hne hc own ys h
        match ii, h with
        | 0, h => exact h
        | 1, h => exact h
        | 2, h => exact h
        | 3, h => exact h
        | 4, h => exact h
        | 5, h => exact h
        | 6, h => exact h
        | 7, h => exact h
        | 8, h => exact h
        | 9, h => exact h
        | 10, h => exact h
        | 11, h => exact h
        | 12, h => exact h
        | 13, h => exact h
        | 14, h => exact h
        | 15, h => exact h
        | 16, h => exact h
        | 17, h => exact h
        | 18, h => exact h
        | 19, h => exact h
        | 20, h => exact h
        | 21, h => exact h
        | 22, h => exact h
        | 23, h => exact h
        | 24, h => exact h
        | 25, h => exact h
        | 26, h => exact h
        | 27, h => exact h
        | 28, h => exact h
        | 29, h => exact h
        | 30, h => exact h
        | 31, h => exact h
        | 32, h => obtain ⟨q, h1, h2⟩ := h; exact ⟨q, h1, hy.1 _ _ _ _ (by omega) h2⟩
        | 33, h => exact h
        | 34, h => exact h
        | 35, h => exact h
        | 36, h => exact absurd rfl hne
        | 37, h => exact absurd hc (by decide)
        | 38, h => obtain ⟨q, x0, x1, x2, x3, x4, x5, h1, h2, h3⟩ := h; exact ⟨q, x0, x1, x2, x3, x4, x5, h1, h2, hy.2 _ _ (by decide) h3⟩
        | 39, h => exact absurd hc (by decide)
        | _ + 40, _ => trivial
      exact hQo _ _ (hK.out _ _ ⟨⟨_, _, rfl, own14⟩, Ext.grown hG gr14 (owns_ge o32), hst _ ⟨keep14, fun q ar hne hq => by rw [gr14.block q (lt_of_block hq) (fun e => by rcases own_ne_blk o32 hq (Ne.symm hne) with h | h; (rw [h] at e; cases e); exact h e.symm)]; exact hq⟩⟩)
    · intro kx xs wx hk hG hD hI Qo Kx hK hQo
      have d9 : (xs 9) = .int .i64 num := hD 9 rfl
      have d19 : (xs 19) = .int .i64 fr := hD 19 rfl
      have d23 : (xs 23) = .int .i64 row := hD 23 rfl
      have d27 : (xs 27) = .int .i64 part := hD 27 rfl
      have d31 : (xs 31) = .bool (s6 == 1) := hD 31 rfl
      have d36 : ∃ (ax : Option Addr) (cx : Nat), (xs 36) = .slice ax (n - 9) cx ∧ wx.ownsRow wA.heap.size 5 1 (.slice ax (n - 9) cx) (n - 9) (zs.map (Value.int .u8)) := hD 36 rfl
      clear hD
      clear hI
      simp only [patchS, Nat.reduceAdd, Nat.reduceEqDiff, ↓reduceIte] at hQo ⊢
      generalize xs 9 = y9 at *
      generalize xs 19 = y19 at *
      generalize xs 23 = y23 at *
      generalize xs 27 = y27 at *
      generalize xs 31 = y31 at *
      generalize xs 36 = y36 at *
      subst d9
      subst d19
      subst d23
      subst d27
      subst d31
      obtain ⟨a21, c21, rfl, o21⟩ := d36
      go_wp2
      exact hK.out _ _ ⟨⟨_, _, rfl, o21⟩, hG, fun _ _ _ _ _ _ h => h⟩
    · intro kx xs wx hk hG hD hI Qo Kx hK hQo
      clear hD
      clear hI
      simp only [patchS, Nat.reduceAdd, Nat.reduceEqDiff, ↓reduceIte] at hQo ⊢
      have e5' := Ext.alloc wx (.cells #[.int .i64 0, .int .i64 0, .int .i64 0, .int .i64 0, .bool false, .slice none 0 0] 27)
      go_wp2
      exact hK.out _ _ ⟨⟨_, _, _, _, _, _, _, rfl, hG.size, blk_new _ _⟩, hG.trans e5', fun i _ _ _ own ys h => Hext.out i own ys _ _ e5' h⟩
    · intro kx xs wx hk hG hD hI Qo Kx hK hQo
      have d38 : ∃ (q : Nat) (x0 x1 x2 x3 x4 x5 : Value), (xs 38) = .pointer (some ⟨q, 0, none⟩) ∧ wA.heap.size ≤ q ∧ wx.heap[q]? = some (.cells #[x0, x1, x2, x3, x4, x5] 27 (0, 0)) := hD 38 rfl
      have d37 : ∃ (ax : Option Addr) (cx : Nat), (xs 37) = .agg #[.int .i64 num, .int .i64 fr, .int .i64 row, .int .i64 part, .bool (s6 == 1), .slice ax (n - 9) cx] ∧ wx.ownsRow wA.heap.size 5 1 (.slice ax (n - 9) cx) (n - 9) (zs.map (Value.int .u8)) := hD 37 rfl
      clear hD
      clear hI
      simp only [patchS, Nat.reduceAdd, Nat.reduceEqDiff, ↓reduceIte] at hQo ⊢
      generalize hx38 : xs 38 = y38 at *
      have Hx38 := Lib.hid hx38
      clear hx38
      generalize xs 37 = y37 at *
      obtain ⟨q, x0, x1, x2, x3, x4, x5, rfl, hq, hqb⟩ := d38
      obtain ⟨a22, c22, rfl, o22⟩ := d37
      obtain ⟨z, y0, y1, y2, y3, y4, y5⟩ := bx6 hqb
      obtain ⟨f0, f1, f2, f3, f4, f5⟩ := fz6 hqb
      go_wp2
      have hst : ∀ (wy : World), wx.grownBy wy (some q) ∧ (∃ x0 x1 x2 x3 x4 x5, wy.heap[q]? = some (.cells #[x0, x1, x2, x3, x4, x5] 27 (0, 0))) → ∀ (ii : Nat), ii < 40 → ii ≠ 39 → ([[], [0], [0, 1], [0, 1, 2], [0, 1, 2, 3], [], [5], [5, 6], [5, 6, 7], [0, 1, 2, 3, 4, 5, 6, 7, 8], [], [10], [10, 11], [10, 11, 12], [10, 11, 12, 13], [], [15], [15, 16], [15, 16, 17], [10, 11, 12, 13, 14, 15, 16, 17, 18], [], [20], [20, 21], [20, 21, 22], [], [24], [24, 25], [24, 25, 26], [], [28], [28, 29], [28, 29, 30], [], [], [], [33, 34], [32, 33, 34, 35], [0, 1, 2, 3, 4, 5, 6, 7, 8, 9, 10, 11, 12, 13, 14, 15, 16, 17, 18, 19, 20, 21, 22, 23, 24, 25, 26, 27, 28, 29, 30, 31, 32, 33, 34, 35, 36], [], [0, 1, 2, 3, 4, 5, 6, 7, 8, 9, 10, 11, 12, 13, 14, 15, 16, 17, 18, 19, 20, 21, 22, 23, 24, 25, 26, 27, 28, 29, 30, 31, 32, 33, 34, 35, 36, 37, 38]].getD ii []).contains 39 = false → ∀ (own : Value) (ys : Nat → Value), (match ii with | 0 => own = .slice (some ⟨bb, o, none⟩) n c | 1 => own = .pointer (some ⟨bb, o, none⟩) | 2 => own = .int .u8 z0 | 3 => own = .int .i64 z0 | 4 => own = .int .i64 (z0 * 256) | 5 => own = .slice (some ⟨bb, o, none⟩) n c | 6 => own = .pointer (some ⟨bb, o + 1, none⟩) | 7 => own = .int .u8 z1 | 8 => own = .int .i64 z1 | 9 => own = .int .i64 num | 10 => own = .slice (some ⟨bb, o, none⟩) n c | 11 => own = .pointer (some ⟨bb, o + 2, none⟩) | 12 => own = .int .u8 z2 | 13 => own = .int .i64 z2 | 14 => own = .int .i64 (z2 * 256) | 15 => own = .slice (some ⟨bb, o, none⟩) n c | 16 => own = .pointer (some ⟨bb, o + 3, none⟩) | 17 => own = .int .u8 z3 | 18 => own = .int .i64 z3 | 19 => own = .int .i64 fr | 20 => own = .slice (some ⟨bb, o, none⟩) n c | 21 => own = .pointer (some ⟨bb, o + 4, none⟩) | 22 => own = .int .u8 row | 23 => own = .int .i64 row | 24 => own = .slice (some ⟨bb, o, none⟩) n c | 25 => own = .pointer (some ⟨bb, o + 5, none⟩) | 26 => own = .int .u8 part | 27 => own = .int .i64 part | 28 => own = .slice (some ⟨bb, o, none⟩) n c | 29 => own = .pointer (some ⟨bb, o + 6, none⟩) | 30 => own = .int .u8 s6 | 31 => own = .bool (s6 == 1) | 32 => ∃ (q : Nat), own = .slice (some ⟨q, 0, none⟩) 0 0 ∧ wx.ownsRow wA.heap.size 5 1 (.slice (some ⟨q, 0, none⟩) 0 0) 0 [] | 33 => own = .slice (some ⟨bb, o, none⟩) n c | 34 => own = .int .i64 ((n - 2 : Nat) : Int) | 35 => own = .slice (some ⟨bb, o + 7, none⟩) (n - 9) (c - 7) | 36 => ∃ (ax : Option Addr) (cx : Nat), own = .slice ax (n - 9) cx ∧ wx.ownsRow wA.heap.size 5 1 (.slice ax (n - 9) cx) (n - 9) (zs.map (Value.int .u8)) | 37 => ∃ (ax : Option Addr) (cx : Nat), own = .agg #[.int .i64 num, .int .i64 fr, .int .i64 row, .int .i64 part, .bool (s6 == 1), .slice ax (n - 9) cx] ∧ wx.ownsRow wA.heap.size 5 1 (.slice ax (n - 9) cx) (n - 9) (zs.map (Value.int .u8)) | 38 => ∃ (q : Nat) (x0 x1 x2 x3 x4 x5 : Value), own = .pointer (some ⟨q, 0, none⟩) ∧ wA.heap.size ≤ q ∧ wx.heap[q]? = some (.cells #[x0, x1, x2, x3, x4, x5] 27 (0, 0)) | 39 => ∃ (q : Nat) (ax : Option Addr) (cx : Nat), ys 38 = .pointer (some ⟨q, 0, none⟩) ∧ wA.heap.size ≤ q ∧ wx.heap[q]? = some (.cells #[.int .i64 num, .int .i64 fr, .int .i64 row, .int .i64 part, .bool (s6 == 1), .slice ax (n - 9) cx] 27 (0, 0)) ∧ wx.ownsRow wA.heap.size 5 1 (.slice ax (n - 9) cx) (n - 9) (zs.map (Value.int .u8)) | _ => True) → (match ii with | 0 => own = .slice (some ⟨bb, o, none⟩) n c | 1 => own = .pointer (some ⟨bb, o, none⟩) | 2 => own = .int .u8 z0 | 3 => own = .int .i64 z0 | 4 => own = .int .i64 (z0 * 256) | 5 => own = .slice (some ⟨bb, o, none⟩) n c | 6 => own = .pointer (some ⟨bb, o + 1, none⟩) | 7 => own = .int .u8 z1 | 8 => own = .int .i64 z1 | 9 => own = .int .i64 num | 10 => own = .slice (some ⟨bb, o, none⟩) n c | 11 => own = .pointer (some ⟨bb, o + 2, none⟩) | 12 => own = .int .u8 z2 | 13 => own = .int .i64 z2 | 14 => own = .int .i64 (z2 * 256) | 15 => own = .slice (some ⟨bb, o, none⟩) n c | 16 => own = .pointer (some ⟨bb, o + 3, none⟩) | 17 => own = .int .u8 z3 | 18 => own = .int .i64 z3 | 19 => own = .int .i64 fr | 20 => own = .slice (some ⟨bb, o, none⟩) n c | 21 => own = .pointer (some ⟨bb, o + 4, none⟩) | 22 => own = .int .u8 row | 23 => own = .int .i64 row | 24 => own = .slice (some ⟨bb, o, none⟩) n c | 25 => own = .pointer (some ⟨bb, o + 5, none⟩) | 26 => own = .int .u8 part | 27 => own = .int .i64 part | 28 => own = .slice (some ⟨bb, o, none⟩) n c | 29 => own = .pointer (some ⟨bb, o + 6, none⟩) | 30 => own = .int .u8 s6 | 31 => own = .bool (s6 == 1) | 32 => ∃ (q : Nat), own = .slice (some ⟨q, 0, none⟩) 0 0 ∧ wy.ownsRow wA.heap.size 5 1 (.slice (some ⟨q, 0, none⟩) 0 0) 0 [] | 33 => own = .slice (some ⟨bb, o, none⟩) n c | 34 => own = .int .i64 ((n - 2 : Nat) : Int) | 35 => own = .slice (some ⟨bb, o + 7, none⟩) (n - 9) (c - 7) | 36 => ∃ (ax : Option Addr) (cx : Nat), own = .slice ax (n - 9) cx ∧ wy.ownsRow wA.heap.size 5 1 (.slice ax (n - 9) cx) (n - 9) (zs.map (Value.int .u8)) | 37 => ∃ (ax : Option Addr) (cx : Nat), own = .agg #[.int .i64 num, .int .i64 fr, .int .i64 row, .int .i64 part, .bool (s6 == 1), .slice ax (n - 9) cx] ∧ wy.ownsRow wA.heap.size 5 1 (.slice ax (n - 9) cx) (n - 9) (zs.map (Value.int .u8)) | 38 => ∃ (q : Nat) (x0 x1 x2 x3 x4 x5 : Value), own = .pointer (some ⟨q, 0, none⟩) ∧ wA.heap.size ≤ q ∧ wy.heap[q]? = some (.cells #[x0, x1, x2, x3, x4, x5] 27 (0, 0)) | 39 => ∃ (q : Nat) (ax : Option Addr) (cx : Nat), ys 38 = .pointer (some ⟨q, 0, none⟩) ∧ wA.heap.size ≤ q ∧ wy.heap[q]? = some (.cells #[.int .i64 num, .int .i64 fr, .int .i64 row, .int .i64 part, .bool (s6 == 1), .slice ax (n - 9) cx] 27 (0, 0)) ∧ wy.ownsRow wA.heap.size 5 1 (.slice ax (n - 9) cx) (n - 9) (zs.map (Value.int .u8)) | _ => True) := by
        intro wy hy ii hii hne hc own ys h
        match ii, h with
        | 0, h => exact h
        | 1, h => exact h
        | 2, h => exact h
        | 3, h => exact h
        | 4, h => exact h
        | 5, h => exact h
        | 6, h => exact h
        | 7, h => exact h
        | 8, h => exact h
        | 9, h => exact h
        | 10, h => exact h
        | 11, h => exact h
        | 12, h => exact h
        | 13, h => exact h
        | 14, h => exact h
        | 15, h => exact h
        | 16, h => exact h
        | 17, h => exact h
        | 18, h => exact h
        | 19, h => exact h
        | 20, h => exact h
        | 21, h => exact h
        | 22, h => exact h
        | 23, h => exact h
        | 24, h => exact h
        | 25, h => exact h
        | 26, h => exact h
        | 27, h => exact h
        | 28, h => exact h
        | 29, h => exact h
        | 30, h => exact h
        | 31, h => exact h
        | 32, h => obtain ⟨q3, h1, h2⟩ := h; exact ⟨q3, h1, h2.kept hy.1 (own_ne_blk h2 hqb (by decide))⟩
        | 33, h => exact h
        | 34, h => exact h
        | 35, h => exact h
        | 36, h => obtain ⟨a2, c2, h1, h2⟩ := h; exact ⟨a2, c2, h1, h2.kept hy.1 (own_ne_blk h2 hqb (by decide))⟩
        | 37, h => obtain ⟨a2, c2, h1, h2⟩ := h; exact ⟨a2, c2, h1, h2.kept hy.1 (own_ne_blk h2 hqb (by decide))⟩
        | 38, h => obtain ⟨q', x0', x1', x2', x3', x4', x5', h1, h2, h3⟩ := h; by_cases hqq : q' = q; (subst hqq; obtain ⟨u0, u1, u2, u3, u4, u5, u6⟩ := hy.2; exact ⟨_, _, _, _, _, _, _, h1, h2, u6⟩); exact ⟨q', x0', x1', x2', x3', x4', x5', h1, h2, by rw [hy.1.block q' (lt_of_block h3) (fun e => hqq (by simpa using e))]; exact h3⟩
        | 39, h => exact absurd rfl hne
        | _ + 40, _ => trivial
      refine hQo undef _ (hK.out _ _ ⟨⟨q, a22, c22, Hx38.out, hq, blk_set6 hqb, o22.kept (grown_set6 _ q _ _ _ _ _ _) (own_ne_blk o22 hqb (by decide))⟩, Ext.grown hG (grown_set6 _ q _ _ _ _ _ _) (fun k hk => by cases hk; exact hq), hst _ ⟨grown_set6 _ q _ _ _ _ _ _, _, _, _, _, _, _, blk_set6 hqb⟩⟩)
  clear Hext
  intro xs wx hV hG
  have d0 : (xs 0) = .slice (some ⟨bb, o, none⟩) n c := hV 0 (by decide)
  have d1 : (xs 1) = .pointer (some ⟨bb, o, none⟩) := hV 1 (by decide)
  have d2 : (xs 2) = .int .u8 z0 := hV 2 (by decide)
  have d3 : (xs 3) = .int .i64 z0 := hV 3 (by decide)
  have d4 : (xs 4) = .int .i64 (z0 * 256) := hV 4 (by decide)
  have d5 : (xs 5) = .slice (some ⟨bb, o, none⟩) n c := hV 5 (by decide)
  have d6 : (xs 6) = .pointer (some ⟨bb, o + 1, none⟩) := hV 6 (by decide)
  have d7 : (xs 7) = .int .u8 z1 := hV 7 (by decide)
  have d8 : (xs 8) = .int .i64 z1 := hV 8 (by decide)
  have d9 : (xs 9) = .int .i64 num := hV 9 (by decide)
  have d10 : (xs 10) = .slice (some ⟨bb, o, none⟩) n c := hV 10 (by decide)
  have d11 : (xs 11) = .pointer (some ⟨bb, o + 2, none⟩) := hV 11 (by decide)
  have d12 : (xs 12) = .int .u8 z2 := hV 12 (by decide)
  have d13 : (xs 13) = .int .i64 z2 := hV 13 (by decide)
  have d14 : (xs 14) = .int .i64 (z2 * 256) := hV 14 (by decide)
  have d15 : (xs 15) = .slice (some ⟨bb, o, none⟩) n c := hV 15 (by decide)
  have d16 : (xs 16) = .pointer (some ⟨bb, o + 3, none⟩) := hV 16 (by decide)
  have d17 : (xs 17) = .int .u8 z3 := hV 17 (by decide)
  have d18 : (xs 18) = .int .i64 z3 := hV 18 (by decide)
  have d19 : (xs 19) = .int .i64 fr := hV 19 (by decide)
  have d20 : (xs 20) = .slice (some ⟨bb, o, none⟩) n c := hV 20 (by decide)
  have d21 : (xs 21) = .pointer (some ⟨bb, o + 4, none⟩) := hV 21 (by decide)
  have d22 : (xs 22) = .int .u8 row := hV 22 (by decide)
  have d23 : (xs 23) = .int .i64 row := hV 23 (by decide)
  have d24 : (xs 24) = .slice (some ⟨bb, o, none⟩) n c := hV 24 (by decide)
  have d25 : (xs 25) = .pointer (some ⟨bb, o + 5, none⟩) := hV 25 (by decide)
  have d26 : (xs 26) = .int .u8 part := hV 26 (by decide)
  have d27 : (xs 27) = .int .i64 part := hV 27 (by decide)
  have d28 : (xs 28) = .slice (some ⟨bb, o, none⟩) n c := hV 28 (by decide)
  have d29 : (xs 29) = .pointer (some ⟨bb, o + 6, none⟩) := hV 29 (by decide)
  have d30 : (xs 30) = .int .u8 s6 := hV 30 (by decide)
  have d31 : (xs 31) = .bool (s6 == 1) := hV 31 (by decide)
  have d32 : ∃ (q : Nat), (xs 32) = .slice (some ⟨q, 0, none⟩) 0 0 ∧ wx.ownsRow wA.heap.size 5 1 (.slice (some ⟨q, 0, none⟩) 0 0) 0 [] := hV 32 (by decide)
  have d33 : (xs 33) = .slice (some ⟨bb, o, none⟩) n c := hV 33 (by decide)
  have d34 : (xs 34) = .int .i64 ((n - 2 : Nat) : Int) := hV 34 (by decide)
  have d35 : (xs 35) = .slice (some ⟨bb, o + 7, none⟩) (n - 9) (c - 7) := hV 35 (by decide)
  have d36 : ∃ (ax : Option Addr) (cx : Nat), (xs 36) = .slice ax (n - 9) cx ∧ wx.ownsRow wA.heap.size 5 1 (.slice ax (n - 9) cx) (n - 9) (zs.map (Value.int .u8)) := hV 36 (by decide)
  have d37 : ∃ (ax : Option Addr) (cx : Nat), (xs 37) = .agg #[.int .i64 num, .int .i64 fr, .int .i64 row, .int .i64 part, .bool (s6 == 1), .slice ax (n - 9) cx] ∧ wx.ownsRow wA.heap.size 5 1 (.slice ax (n - 9) cx) (n - 9) (zs.map (Value.int .u8)) := hV 37 (by decide)
  have d38 : ∃ (q : Nat) (x0 x1 x2 x3 x4 x5 : Value), (xs 38) = .pointer (some ⟨q, 0, none⟩) ∧ wA.heap.size ≤ q ∧ wx.heap[q]? = some (.cells #[x0, x1, x2, x3, x4, x5] 27 (0, 0)) := hV 38 (by decide)
  have d39 : ∃ (q : Nat) (ax : Option Addr) (cx : Nat), (xs 38) = .pointer (some ⟨q, 0, none⟩) ∧ wA.heap.size ≤ q ∧ wx.heap[q]? = some (.cells #[.int .i64 num, .int .i64 fr, .int .i64 row, .int .i64 part, .bool (s6 == 1), .slice ax (n - 9) cx] 27 (0, 0)) ∧ wx.ownsRow wA.heap.size 5 1 (.slice ax (n - 9) cx) (n - 9) (zs.map (Value.int .u8)) := hV 39 (by decide)
  clear hV
  simp only [patchS, Nat.reduceAdd, Nat.reduceEqDiff, ↓reduceIte]
  generalize xs 0 = y0 at *
  generalize xs 1 = y1 at *
  generalize xs 2 = y2 at *
  generalize xs 3 = y3 at *
  generalize xs 4 = y4 at *
  generalize xs 5 = y5 at *
  generalize xs 6 = y6 at *
  generalize xs 7 = y7 at *
  generalize xs 8 = y8 at *
  generalize xs 9 = y9 at *
  generalize xs 10 = y10 at *
  generalize xs 11 = y11 at *
  generalize xs 12 = y12 at *
  generalize xs 13 = y13 at *
  generalize xs 14 = y14 at *
  generalize xs 15 = y15 at *
  generalize xs 16 = y16 at *
  generalize xs 17 = y17 at *
  generalize xs 18 = y18 at *
  generalize xs 19 = y19 at *
  generalize xs 20 = y20 at *
  generalize xs 21 = y21 at *
  generalize xs 22 = y22 at *
  generalize xs 23 = y23 at *
  generalize xs 24 = y24 at *
  generalize xs 25 = y25 at *
  generalize xs 26 = y26 at *
  generalize xs 27 = y27 at *
  generalize xs 28 = y28 at *
  generalize xs 29 = y29 at *
  generalize xs 30 = y30 at *
  generalize xs 31 = y31 at *
  generalize xs 32 = y32 at *
  generalize xs 33 = y33 at *
  generalize xs 34 = y34 at *
  generalize xs 35 = y35 at *
  generalize xs 36 = y36 at *
  generalize xs 37 = y37 at *
  generalize xs 38 = y38 at *
  generalize xs 39 = y39 at *
  replace hG : Ext wA wx := hG
  clear d0 d1 d2 d3 d4 d5 d6 d7 d8 d9 d10 d11 d12 d13 d14 d15 d16 d17 d18 d19 d20 d21 d22 d23 d24 d25 d26 d27 d28 d29 d30 d31 d32 d33 d34 d35 d36 d37
  obtain ⟨q, x0, x1, x2, x3, x4, x5, rfl, hq, hqb⟩ := d38
  obtain ⟨q2, a24, c24, hq2, hq3, hq4, o24⟩ := d39
  simp only [Value.pointer.injEq, Option.some.injEq, Addr.mk.injEq, and_true] at hq2
  subst hq2
  have EB : Ext w wx := EA.trans hG
  have pB := hG.blk pA
  have hsz : w.heap.size < wA.heap.size := lt_of_block pA
  have hpe : parse l = ⟨num, fr, row, part, s6 == 1, zs⟩ := by
    rw [← Hp.out]
    simp only [Pkt.mk.injEq, true_and, and_true]
    rw [HD5.out]; rfl
  have HE := Lib.hid hpe
  clear hG pA hqb EA hq3 x0 x1 x2 x3 x4 x5 g0 g1 g2 g3 g4 g5 g6 g6A rM v4 v5 b0 b1 b2 b3 b4 b5 b6 hs61 hpe
  generalize wx = w1 at *
  have HQ := Lib.hid hq
  obtain ⟨z, m0, m1, m2, m3, m4, m5⟩ := bx6 hq4
  have rB := r.ext EB
  have hcells : ∀ i, i < n → w1.cell? ⟨bb, o + i, none⟩ = some (.int .u8 (nth l i)) := fun i hi => by
    obtain ⟨b', off', h1, h2⟩ := rB.int hi
    simp only [Option.some.injEq, Addr.mk.injEq, and_true] at h1
    obtain ⟨rfl, rfl⟩ := h1
    exact h2
  have c0 := hcells (n - 2) (by omega)
  have c1 := hcells (n - 1) (by omega)
  have rT := Sl.mid (i := 0) (m := n - 2) rB (by omega)
  rw [Nat.add_zero, List.drop_zero] at rT
  have bT : bys (l.take (n - 2)) := fun z hz => Hb.out z (List.mem_of_mem_take hz)
  have y0 := Hb.out (nth l (n - 2)) (by rw [nth_eq _ _ (by rw [Hl.out]; omega)]; exact List.getElem_mem _)
  have y1 := Hb.out (nth l (n - 1)) (by rw [nth_eq _ _ (by rw [Hl.out]; omega)]; exact List.getElem_mem _)
  obtain ⟨u0, hu0⟩ : ∃ s, s = nth l (n - 2) := ⟨_, rfl⟩
  obtain ⟨u1, hu1⟩ : ∃ s, s = nth l (n - 1) := ⟨_, rfl⟩
  obtain ⟨T, hT⟩ : ∃ s, s = l.take (n - 2) := ⟨_, rfl⟩
  rw [← hu0] at c0 y0
  rw [← hu1] at c1 y1
  rw [← hT] at rT bT
  have hok : rdOk l ↔ pval num fr row part (n - 9) ∧ ((crc T : Nat) : Int) = u0 * 256 + u1 := by
    unfold rdOk Pkt.ok
    rw [HE.out, hT, hu0, hu1, Hl.out]
    simp only [HD7.out]
    constructor
    · rintro ⟨-, -, -, h1, h2⟩; exact ⟨h1, h2⟩
    · rintro ⟨h1, h2⟩; exact ⟨hs2, h209, h6, h1, h2⟩
  have HOK := Lib.hid hok
  have BT := Lib.hid bT
  have hi1 : ((n - 2 : Nat) : Int) + 1 = ((n - 1 : Nat) : Int) := by omega
  have hT1 : n - 2 < 2^45 := by omega
  have P4 := Lib.hid hq4
  have O4 := Lib.hid o24
  have PB := Lib.hid pB
  clear hcells hu0 hu1 hT hok bT rB hq4 o24 pB h6
  by_cases hv : pval num fr row part (n - 9)
  · have hcV := fun (wz : World) (e : Ext w1 wz) => spec_PacketValid_yes num fr row part (s6 == 1) a24 (n - 9) c24 wz hv
    have HcV := Lib.hid hcV
    have hcC := fun (wz : World) (e : Ext w1 wz) => spec_Checksum_any (some ⟨bb, o, none⟩) c (n - 2) T wz hT1 (rT.ext e) BT.out
    have hcl := crc_lt BT.out
    obtain ⟨C, hC⟩ : ∃ C, C = crc T := ⟨_, rfl⟩
    rw [← hC] at hcC hcl
    have HcC := Lib.hid hcC
    have HC := Lib.hid hC
    clear hcV hcC hC
    go_wp2_with fail
    have hext : ∀ (i : Nat) (own : Value) (ys : Nat → Value) (wa wb : World), Ext wa wb → (match i with | 0 => own = .agg #[.int .i64 num, .int .i64 fr, .int .i64 row, .int .i64 part, .bool (s6 == 1), .slice a24 (n - 9) c24] | 1 => own = .bool true | 2 => own = .bool false | 3 => own = .bool false | 4 => own = .slice (some ⟨bb, o, none⟩) n c | 5 => own = .int .i64 ((n - 2 : Nat) : Int) | 6 => own = .slice (some ⟨bb, o, none⟩) (n - 2) c | 7 => own = .int .i64 C | 8 => own = .slice (some ⟨bb, o, none⟩) n c | 9 => own = .int .i64 ((n - 2 : Nat) : Int) | 10 => own = .pointer (some ⟨bb, o + (n - 2), none⟩) | 11 => own = .int .u8 u0 | 12 => own = .int .i64 u0 | 13 => own = .int .i64 (u0 * 256) | 14 => own = .slice (some ⟨bb, o, none⟩) n c | 15 => own = .int .i64 ((n - 2 : Nat) : Int) | 16 => own = .int .i64 ((n - 1 : Nat) : Int) | 17 => own = .pointer (some ⟨bb, o + (n - 1), none⟩) | 18 => own = .int .u8 u1 | 19 => own = .int .i64 u1 | 20 => own = .int .i64 (u0 * 256 + u1) | 21 => own = .bool ((C : Int) != u0 * 256 + u1) | 22 => own = .bool ((C : Int) != u0 * 256 + u1) | _ => True) → (match i with | 0 => own = .agg #[.int .i64 num, .int .i64 fr, .int .i64 row, .int .i64 part, .bool (s6 == 1), .slice a24 (n - 9) c24] | 1 => own = .bool true | 2 => own = .bool false | 3 => own = .bool false | 4 => own = .slice (some ⟨bb, o, none⟩) n c | 5 => own = .int .i64 ((n - 2 : Nat) : Int) | 6 => own = .slice (some ⟨bb, o, none⟩) (n - 2) c | 7 => own = .int .i64 C | 8 => own = .slice (some ⟨bb, o, none⟩) n c | 9 => own = .int .i64 ((n - 2 : Nat) : Int) | 10 => own = .pointer (some ⟨bb, o + (n - 2), none⟩) | 11 => own = .int .u8 u0 | 12 => own = .int .i64 u0 | 13 => own = .int .i64 (u0 * 256) | 14 => own = .slice (some ⟨bb, o, none⟩) n c | 15 => own = .int .i64 ((n - 2 : Nat) : Int) | 16 => own = .int .i64 ((n - 1 : Nat) : Int) | 17 => own = .pointer (some ⟨bb, o + (n - 1), none⟩) | 18 => own = .int .u8 u1 | 19 => own = .int .i64 u1 | 20 => own = .int .i64 (u0 * 256 + u1) | 21 => own = .bool ((C : Int) != u0 * 256 + u1) | 22 => own = .bool ((C : Int) != u0 * 256 + u1) | _ => True) := by
      intro i own ys wa wb e h
      match i, h with
      | 0, h => exact h
      | 1, h => exact h
      | 2, h => exact h
      | 3, h => exact h
      | 4, h => exact h
      | 5, h => exact h
      | 6, h => exact h
      | 7, h => exact h
      | 8, h => exact h
      | 9, h => exact h
      | 10, h => exact h
      | 11, h => exact h
      | 12, h => exact h
      | 13, h => exact h
      | 14, h => exact h
      | 15, h => exact h
      | 16, h => exact h
      | 17, h => exact h
      | 18, h => exact h
      | 19, h => exact h
      | 20, h => exact h
      | 21, h => exact h
      | 22, h => exact h
      | _ + 23, _ => trivial
    have Hext := Lib.hid hext
    clear hext
    refine wp_region_inv2 (by kernel_rfl) [(58, 0), (59, 1), (60, 2), (61, 3), (62, 4), (63, 5), (64, 6), (65, 7), (66, 8), (67, 9), (68, 10), (69, 11), (70, 12), (71, 13), (72, 14), (73, 15), (74, 16), (75, 17), (76, 18), (77, 19), (78, 20), (79, 21), (80, 22)] [[], [0], [0, 1], [0, 1, 2], [0, 1, 2, 3], [0, 1, 2, 3], [0, 1, 2, 3, 4, 5], [0, 1, 2, 3, 4, 5, 6], [0, 1, 2, 3], [0, 1, 2, 3], [0, 1, 2, 3, 8, 9], [0, 1, 2, 3, 8, 9, 10], [0, 1, 2, 3, 8, 9, 10, 11], [0, 1, 2, 3, 8, 9, 10, 11, 12], [0, 1, 2, 3], [0, 1, 2, 3], [0, 1, 2, 3, 15], [0, 1, 2, 3, 14, 15, 16], [0, 1, 2, 3, 14, 15, 16, 17], [0, 1, 2, 3, 14, 15, 16, 17, 18], [0, 1, 2, 3, 8, 9, 10, 11, 12, 13, 14, 15, 16, 17, 18, 19], [0, 1, 2, 3, 4, 5, 6, 7, 8, 9, 10, 11, 12, 13, 14, 15, 16, 17, 18, 19, 20], [0, 1, 2, 3, 4, 5, 6, 7, 8, 9, 10, 11, 12, 13, 14, 15, 16, 17, 18, 19, 20, 21]] (fun i own ys wx => match i with | 0 => own = .agg #[.int .i64 num, .int .i64 fr, .int .i64 row, .int .i64 part, .bool (s6 == 1), .slice a24 (n - 9) c24] | 1 => own = .bool true | 2 => own = .bool false | 3 => own = .bool false | 4 => own = .slice (some ⟨bb, o, none⟩) n c | 5 => own = .int .i64 ((n - 2 : Nat) : Int) | 6 => own = .slice (some ⟨bb, o, none⟩) (n - 2) c | 7 => own = .int .i64 C | 8 => own = .slice (some ⟨bb, o, none⟩) n c | 9 => own = .int .i64 ((n - 2 : Nat) : Int) | 10 => own = .pointer (some ⟨bb, o + (n - 2), none⟩) | 11 => own = .int .u8 u0 | 12 => own = .int .i64 u0 | 13 => own = .int .i64 (u0 * 256) | 14 => own = .slice (some ⟨bb, o, none⟩) n c | 15 => own = .int .i64 ((n - 2 : Nat) : Int) | 16 => own = .int .i64 ((n - 1 : Nat) : Int) | 17 => own = .pointer (some ⟨bb, o + (n - 1), none⟩) | 18 => own = .int .u8 u1 | 19 => own = .int .i64 u1 | 20 => own = .int .i64 (u0 * 256 + u1) | 21 => own = .bool ((C : Int) != u0 * 256 + u1) | 22 => own = .bool ((C : Int) != u0 * 256 + u1) | _ => True) (fun kx wx => Ext w1 wx) (by kernel_rfl) (by kernel_rfl) (by kernel_rfl) ?g0_r2 ?gop_r2 ?gend_r2
    case g0_r2 => exact Ext.drewN _ 1
    case gop_r2 =>
      refine ⟨?_, ?_, ?_, ?_, ?_, ?_, ?_, ?_, ?_, ?_, ?_, ?_, ?_, ?_, ?_, ?_, ?_, ?_, ?_, ?_, ?_, ?_, ?_, trivial⟩
      · intro kx xs wx hk hG hD hI Qo Kx hK hQo
        clear hD
        clear hI
        simp only [patchS, Nat.reduceAdd, Nat.reduceEqDiff, ↓reduceIte] at hQo ⊢
        have k0 := cell_ext hG m0
        have k1 := cell_ext hG m1
        have k2 := cell_ext hG m2
        have k3 := cell_ext hG m3
        have k4 := cell_ext hG m4
        have k5 := cell_ext hG m5
        go_wp2
        exact hK.out _ _ ⟨rfl, hG, fun _ _ _ _ _ _ h => h⟩
      · intro kx xs wx hk hG hD hI Qo Kx hK hQo
        have d0 : (xs 0) = .agg #[.int .i64 num, .int .i64 fr, .int .i64 row, .int .i64 part, .bool (s6 == 1), .slice a24 (n - 9) c24] := hD 0 rfl
        clear hD
        clear hI
        simp only [patchS, Nat.reduceAdd, Nat.reduceEqDiff, ↓reduceIte] at hQo ⊢
        generalize xs 0 = y0 at *
        subst d0
        go_wp2_with fail
        refine (HcV.out _ hG).mono ?_
        rintro e w8 ⟨rfl, e8⟩
        go_wp2
        exact hK.out _ _ ⟨rfl, hG.trans e8, fun i _ _ _ own ys h => Hext.out i own ys _ _ e8 h⟩
      · intro kx xs wx hk hG hD hI Qo Kx hK hQo
        have d1 : (xs 1) = .bool true := hD 1 rfl
        clear hD
        clear hI
        simp only [patchS, Nat.reduceAdd, Nat.reduceEqDiff, ↓reduceIte] at hQo ⊢
        generalize xs 1 = y1 at *
        subst d1
        go_wp2
        exact hK.out _ _ ⟨rfl, hG, fun _ _ _ _ _ _ h => h⟩
      · intro kx xs wx hk hG hD hI Qo Kx hK hQo
        have d2 : (xs 2) = .bool false := hD 2 rfl
        clear hD
        clear hI
        simp only [patchS, Nat.reduceAdd, Nat.reduceEqDiff, ↓reduceIte] at hQo ⊢
        generalize xs 2 = y2 at *
        subst d2
        go_wp2
        exact hK.out _ _ ⟨rfl, hG, fun _ _ _ _ _ _ h => h⟩
      · intro kx xs wx hk hG hD hI Qo Kx hK hQo
        have d3 : (xs 3) = .bool false := hD 3 rfl
        clear hD
        clear hI
        simp only [patchS, Nat.reduceAdd, Nat.reduceEqDiff, ↓reduceIte] at hQo ⊢
        generalize xs 3 = y3 at *
        subst d3
        go_wp2
        exact hK.out _ _ ⟨rfl, hG, fun _ _ _ _ _ _ h => h⟩
      · intro kx xs wx hk hG hD hI Qo Kx hK hQo
        have d3 : (xs 3) = .bool false := hD 3 rfl
        clear hD
        clear hI
        simp only [patchS, Nat.reduceAdd, Nat.reduceEqDiff, ↓reduceIte] at hQo ⊢
        generalize xs 3 = y3 at *
        subst d3
        go_wp2
        exact hK.out _ _ ⟨rfl, hG, fun _ _ _ _ _ _ h => h⟩
      · intro kx xs wx hk hG hD hI Qo Kx hK hQo
        have d4 : (xs 4) = .slice (some ⟨bb, o, none⟩) n c := hD 4 rfl
        have d5 : (xs 5) = .int .i64 ((n - 2 : Nat) : Int) := hD 5 rfl
        have d3 : (xs 3) = .bool false := hD 3 rfl
        clear hD
        clear hI
        simp only [patchS, Nat.reduceAdd, Nat.reduceEqDiff, ↓reduceIte] at hQo ⊢
        generalize xs 4 = y4 at *
        generalize xs 5 = y5 at *
        generalize xs 3 = y3 at *
        subst d4
        subst d5
        subst d3
        go_wp2
        exact hK.out _ _ ⟨rfl, hG, fun _ _ _ _ _ _ h => h⟩
      · intro kx xs wx hk hG hD hI Qo Kx hK hQo
        have d6 : (xs 6) = .slice (some ⟨bb, o, none⟩) (n - 2) c := hD 6 rfl
        have d3 : (xs 3) = .bool false := hD 3 rfl
        clear hD
        clear hI
        simp only [patchS, Nat.reduceAdd, Nat.reduceEqDiff, ↓reduceIte] at hQo ⊢
        generalize xs 6 = y6 at *
        generalize xs 3 = y3 at *
        subst d6
        subst d3
        go_wp2_with fail
        refine (HcC.out _ hG).mono ?_
        rintro e w8 ⟨rfl, rfl⟩
        go_wp2
        exact hK.out _ _ ⟨rfl, hG, fun _ _ _ _ _ _ h => h⟩
      · intro kx xs wx hk hG hD hI Qo Kx hK hQo
        have d3 : (xs 3) = .bool false := hD 3 rfl
        clear hD
        clear hI
        simp only [patchS, Nat.reduceAdd, Nat.reduceEqDiff, ↓reduceIte] at hQo ⊢
        generalize xs 3 = y3 at *
        subst d3
        go_wp2
        exact hK.out _ _ ⟨rfl, hG, fun _ _ _ _ _ _ h => h⟩
      · intro kx xs wx hk hG hD hI Qo Kx hK hQo
        have d3 : (xs 3) = .bool false := hD 3 rfl
        clear hD
        clear hI
        simp only [patchS, Nat.reduceAdd, Nat.reduceEqDiff, ↓reduceIte] at hQo ⊢
        generalize xs 3 = y3 at *
        subst d3
        go_wp2
        exact hK.out _ _ ⟨rfl, hG, fun _ _ _ _ _ _ h => h⟩
      · intro kx xs wx hk hG hD hI Qo Kx hK hQo
        have d8 : (xs 8) = .slice (some ⟨bb, o, none⟩) n c := hD 8 rfl
        have d9 : (xs 9) = .int .i64 ((n - 2 : Nat) : Int) := hD 9 rfl
        have d3 : (xs 3) = .bool false := hD 3 rfl
        clear hD
        clear hI
        simp only [patchS, Nat.reduceAdd, Nat.reduceEqDiff, ↓reduceIte] at hQo ⊢
        generalize xs 8 = y8 at *
        generalize xs 9 = y9 at *
        generalize xs 3 = y3 at *
        subst d8
        subst d9
        subst d3
        go_wp2
        exact hK.out _ _ ⟨rfl, hG, fun _ _ _ _ _ _ h => h⟩
      · intro kx xs wx hk hG hD hI Qo Kx hK hQo
        have d10 : (xs 10) = .pointer (some ⟨bb, o + (n - 2), none⟩) := hD 10 rfl
        have d3 : (xs 3) = .bool false := hD 3 rfl
        clear hD
        clear hI
        simp only [patchS, Nat.reduceAdd, Nat.reduceEqDiff, ↓reduceIte] at hQo ⊢
        generalize xs 10 = y10 at *
        generalize xs 3 = y3 at *
        subst d10
        subst d3
        have k0 := cell_ext hG c0
        go_wp2
        exact hK.out _ _ ⟨rfl, hG, fun _ _ _ _ _ _ h => h⟩
      · intro kx xs wx hk hG hD hI Qo Kx hK hQo
        have d11 : (xs 11) = .int .u8 u0 := hD 11 rfl
        have d3 : (xs 3) = .bool false := hD 3 rfl
        clear hD
        clear hI
        simp only [patchS, Nat.reduceAdd, Nat.reduceEqDiff, ↓reduceIte] at hQo ⊢
        generalize xs 11 = y11 at *
        generalize xs 3 = y3 at *
        subst d11
        subst d3
        go_wp2
        exact hK.out _ _ ⟨rfl, hG, fun _ _ _ _ _ _ h => h⟩
      · intro kx xs wx hk hG hD hI Qo Kx hK hQo
        have d12 : (xs 12) = .int .i64 u0 := hD 12 rfl
        have d3 : (xs 3) = .bool false := hD 3 rfl
        clear hD
        clear hI
        simp only [patchS, Nat.reduceAdd, Nat.reduceEqDiff, ↓reduceIte] at hQo ⊢
        generalize xs 12 = y12 at *
        generalize xs 3 = y3 at *
        subst d12
        subst d3
        go_wp2
        exact hK.out _ _ ⟨rfl, hG, fun _ _ _ _ _ _ h => h⟩
      · intro kx xs wx hk hG hD hI Qo Kx hK hQo
        have d3 : (xs 3) = .bool false := hD 3 rfl
        clear hD
        clear hI
        simp only [patchS, Nat.reduceAdd, Nat.reduceEqDiff, ↓reduceIte] at hQo ⊢
        generalize xs 3 = y3 at *
        subst d3
        go_wp2
        exact hK.out _ _ ⟨rfl, hG, fun _ _ _ _ _ _ h => h⟩
      · intro kx xs wx hk hG hD hI Qo Kx hK hQo
        have d3 : (xs 3) = .bool false := hD 3 rfl
        clear hD
        clear hI
        simp only [patchS, Nat.reduceAdd, Nat.reduceEqDiff, ↓reduceIte] at hQo ⊢
        generalize xs 3 = y3 at *
        subst d3
        go_wp2
        exact hK.out _ _ ⟨rfl, hG, fun _ _ _ _ _ _ h => h⟩
      · intro kx xs wx hk hG hD hI Qo Kx hK hQo
        have d15 : (xs 15) = .int .i64 ((n - 2 : Nat) : Int) := hD 15 rfl
        have d3 : (xs 3) = .bool false := hD 3 rfl
        clear hD
        clear hI
        simp only [patchS, Nat.reduceAdd, Nat.reduceEqDiff, ↓reduceIte] at hQo ⊢
        generalize xs 15 = y15 at *
        generalize xs 3 = y3 at *
        subst d15
        subst d3
        go_wp2
        exact hK.out _ _ ⟨rfl, hG, fun _ _ _ _ _ _ h => h⟩
      · intro kx xs wx hk hG hD hI Qo Kx hK hQo
        have d14 : (xs 14) = .slice (some ⟨bb, o, none⟩) n c := hD 14 rfl
        have d16 : (xs 16) = .int .i64 ((n - 1 : Nat) : Int) := hD 16 rfl
        have d3 : (xs 3) = .bool false := hD 3 rfl
        clear hD
        clear hI
        simp only [patchS, Nat.reduceAdd, Nat.reduceEqDiff, ↓reduceIte] at hQo ⊢
        generalize xs 14 = y14 at *
        generalize xs 16 = y16 at *
        generalize xs 3 = y3 at *
        subst d14
        subst d16
        subst d3
        go_wp2
        exact hK.out _ _ ⟨rfl, hG, fun _ _ _ _ _ _ h => h⟩
      · intro kx xs wx hk hG hD hI Qo Kx hK hQo
        have d17 : (xs 17) = .pointer (some ⟨bb, o + (n - 1), none⟩) := hD 17 rfl
        have d3 : (xs 3) = .bool false := hD 3 rfl
        clear hD
        clear hI
        simp only [patchS, Nat.reduceAdd, Nat.reduceEqDiff, ↓reduceIte] at hQo ⊢
        generalize xs 17 = y17 at *
        generalize xs 3 = y3 at *
        subst d17
        subst d3
        have k0 := cell_ext hG c1
        go_wp2
        exact hK.out _ _ ⟨rfl, hG, fun _ _ _ _ _ _ h => h⟩
      · intro kx xs wx hk hG hD hI Qo Kx hK hQo
        have d18 : (xs 18) = .int .u8 u1 := hD 18 rfl
        have d3 : (xs 3) = .bool false := hD 3 rfl
        clear hD
        clear hI
        simp only [patchS, Nat.reduceAdd, Nat.reduceEqDiff, ↓reduceIte] at hQo ⊢
        generalize xs 18 = y18 at *
        generalize xs 3 = y3 at *
        subst d18
        subst d3
        go_wp2
        exact hK.out _ _ ⟨rfl, hG, fun _ _ _ _ _ _ h => h⟩
      · intro kx xs wx hk hG hD hI Qo Kx hK hQo
        have d13 : (xs 13) = .int .i64 (u0 * 256) := hD 13 rfl
        have d19 : (xs 19) = .int .i64 u1 := hD 19 rfl
        have d3 : (xs 3) = .bool false := hD 3 rfl
        clear hD
        clear hI
        simp only [patchS, Nat.reduceAdd, Nat.reduceEqDiff, ↓reduceIte] at hQo ⊢
        generalize xs 13 = y13 at *
        generalize xs 19 = y19 at *
        generalize xs 3 = y3 at *
        subst d13
        subst d19
        subst d3
        go_wp2
        exact hK.out _ _ ⟨rfl, hG, fun _ _ _ _ _ _ h => h⟩
      · intro kx xs wx hk hG hD hI Qo Kx hK hQo
        have d7 : (xs 7) = .int .i64 C := hD 7 rfl
        have d20 : (xs 20) = .int .i64 (u0 * 256 + u1) := hD 20 rfl
        have d3 : (xs 3) = .bool false := hD 3 rfl
        clear hD
        clear hI
        simp only [patchS, Nat.reduceAdd, Nat.reduceEqDiff, ↓reduceIte] at hQo ⊢
        generalize xs 7 = y7 at *
        generalize xs 20 = y20 at *
        generalize xs 3 = y3 at *
        subst d7
        subst d20
        subst d3
        go_wp2
        exact hK.out _ _ ⟨rfl, hG, fun _ _ _ _ _ _ h => h⟩
      · intro kx xs wx hk hG hD hI Qo Kx hK hQo
        have d3 : (xs 3) = .bool false := hD 3 rfl
        have d21 : (xs 21) = .bool ((C : Int) != u0 * 256 + u1) := hD 21 rfl
        clear hD
        clear hI
        simp only [patchS, Nat.reduceAdd, Nat.reduceEqDiff, ↓reduceIte] at hQo ⊢
        generalize xs 3 = y3 at *
        generalize xs 21 = y21 at *
        subst d3
        subst d21
        go_wp2
        exact hK.out _ _ ⟨rfl, hG, fun _ _ _ _ _ _ h => h⟩
    clear Hext
    intro xs wx hV hG
    have d0 : (xs 0) = .agg #[.int .i64 num, .int .i64 fr, .int .i64 row, .int .i64 part, .bool (s6 == 1), .slice a24 (n - 9) c24] := hV 0 (by decide)
    have d1 : (xs 1) = .bool true := hV 1 (by decide)
    have d2 : (xs 2) = .bool false := hV 2 (by decide)
    have d3 : (xs 3) = .bool false := hV 3 (by decide)
    have d4 : (xs 4) = .slice (some ⟨bb, o, none⟩) n c := hV 4 (by decide)
    have d5 : (xs 5) = .int .i64 ((n - 2 : Nat) : Int) := hV 5 (by decide)
    have d6 : (xs 6) = .slice (some ⟨bb, o, none⟩) (n - 2) c := hV 6 (by decide)
    have d7 : (xs 7) = .int .i64 C := hV 7 (by decide)
    have d8 : (xs 8) = .slice (some ⟨bb, o, none⟩) n c := hV 8 (by decide)
    have d9 : (xs 9) = .int .i64 ((n - 2 : Nat) : Int) := hV 9 (by decide)
    have d10 : (xs 10) = .pointer (some ⟨bb, o + (n - 2), none⟩) := hV 10 (by decide)
    have d11 : (xs 11) = .int .u8 u0 := hV 11 (by decide)
    have d12 : (xs 12) = .int .i64 u0 := hV 12 (by decide)
    have d13 : (xs 13) = .int .i64 (u0 * 256) := hV 13 (by decide)
    have d14 : (xs 14) = .slice (some ⟨bb, o, none⟩) n c := hV 14 (by decide)
    have d15 : (xs 15) = .int .i64 ((n - 2 : Nat) : Int) := hV 15 (by decide)
    have d16 : (xs 16) = .int .i64 ((n - 1 : Nat) : Int) := hV 16 (by decide)
    have d17 : (xs 17) = .pointer (some ⟨bb, o + (n - 1), none⟩) := hV 17 (by decide)
    have d18 : (xs 18) = .int .u8 u1 := hV 18 (by decide)
    have d19 : (xs 19) = .int .i64 u1 := hV 19 (by decide)
    have d20 : (xs 20) = .int .i64 (u0 * 256 + u1) := hV 20 (by decide)
    have d21 : (xs 21) = .bool ((C : Int) != u0 * 256 + u1) := hV 21 (by decide)
    have d22 : (xs 22) = .bool ((C : Int) != u0 * 256 + u1) := hV 22 (by decide)
    clear hV
    simp only [patchS, Nat.reduceAdd, Nat.reduceEqDiff, ↓reduceIte]
    generalize xs 0 = y0 at *
    generalize xs 1 = y1 at *
    generalize xs 2 = y2 at *
    generalize xs 3 = y3 at *
    generalize xs 4 = y4 at *
    generalize xs 5 = y5 at *
    generalize xs 6 = y6 at *
    generalize xs 7 = y7 at *
    generalize xs 8 = y8 at *
    generalize xs 9 = y9 at *
    generalize xs 10 = y10 at *
    generalize xs 11 = y11 at *
    generalize xs 12 = y12 at *
    generalize xs 13 = y13 at *
    generalize xs 14 = y14 at *
    generalize xs 15 = y15 at *
    generalize xs 16 = y16 at *
    generalize xs 17 = y17 at *
    generalize xs 18 = y18 at *
    generalize xs 19 = y19 at *
    generalize xs 20 = y20 at *
    generalize xs 21 = y21 at *
    generalize xs 22 = y22 at *
    replace hG : Ext w1 wx := hG
    clear d0 d1 d2 d3 d4 d5 d6 d7 d8 d9 d10 d11 d12 d13 d14 d15 d16 d17 d18 d19 d20 d21
    subst d22
    by_cases hcq : (C : Int) = u0 * 256 + u1
    · have hcb : ((C : Int) != u0 * 256 + u1) = false := by simp [hcq]
      have hrd : rdOk l := HOK.out.2 ⟨hv, by rw [← HC.out]; exact hcq⟩
      have HR := Lib.hid hrd
      obtain ⟨y', k0, k1, k2, k3, k4, k5⟩ := bx6 (hG.blk PB.out)
      obtain ⟨f0, f1, f2, f3, f4, f5⟩ := fz6 (hG.blk PB.out)
      obtain ⟨y'', j0, j1, j2, j3, j4, j5⟩ := bx6 (hG.blk P4.out)
      have P2 := Lib.hid (hG.blk PB.out)
      have O2 := Lib.hid (owns_ext O4.out hG)
      have E2 := EB.trans hG
      clear hrd hcq hG m0 m1 m2 m3 m4 m5 z c0 c1 EB
      go_wp2_with fail
      refine bodyPost_ret (results_ct_row rfl _ _ w.heap.size 27 #[.int .i64 num, .int .i64 fr, .int .i64 row, .int .i64 part, .bool (s6 == 1), .slice a24 (n - 9) c24] (0, 0) _ rfl (blk_set6 P2.out) Try.underlying27 rfl size_Packet) rfl ?_
      unfold RdR
      rw [rdP_yes HR.out, decide_eq_true HR.out, HE.out]
      simp only [HD7.out]
      have gS := grown_set6 wx w.heap.size (.int .i64 num) (.int .i64 fr) (.int .i64 row) (.int .i64 part) (.bool (s6 == 1)) (.slice a24 (n - 9) c24)
      refine ⟨a24, c24, rfl, owns_mono (O2.out.kept gS ?_) (Nat.le_of_lt hsz), Ext.grown E2 gS (fun k hk => by cases hk; exact Nat.le_refl _)⟩
      cases hv : (Value.slice a24 (n - 9) c24).ownBlock with
      | none => exact .inl rfl
      | some k => right; intro e; cases e; have := owns_ge O2.out _ hv; omega
    · have hcb : ((C : Int) != u0 * 256 + u1) = true := by simpa using hcq
      have hrd : ¬ rdOk l := fun h => hcq (by have := (HOK.out.1 h).2; rw [← HC.out] at this; exact this)
      have HR := Lib.hid hrd
      obtain ⟨y', k0, k1, k2, k3, k4, k5⟩ := bx6 (hG.blk PB.out)
      obtain ⟨f0, f1, f2, f3, f4, f5⟩ := fz6 (hG.blk PB.out)
      have P2 := Lib.hid (hG.blk PB.out)
      have E2 := EB.trans hG
      clear hrd hG m0 m1 m2 m3 m4 m5 z c0 c1 EB
      go_wp2_with fail
      refine bodyPost_ret (results_ct_row rfl _ _ w.heap.size 27 #[.int .i64 0, .int .i64 0, .int .i64 0, .int .i64 0, .bool false, .slice none 0 0] (0, 0) _ rfl (blk_set6 P2.out) Try.underlying27 rfl size_Packet) rfl ?_
      unfold RdR
      rw [rdP_no HR.out, decide_eq_false HR.out]
      exact ⟨none, 0, rfl, World.ownsRow_nil _ _ _ _, Ext.grown E2 (grown_set6 wx w.heap.size _ _ _ _ _ _) (fun k hk => by cases hk; exact Nat.le_refl _)⟩
  · have hrd : ¬ rdOk l := fun h => hv (HOK.out.1 h).1
    have HRD := Lib.hid hrd
    have hcV := fun (wz : World) (e : Ext w1 wz) => spec_PacketValid_no num fr row part (s6 == 1) a24 (n - 9) c24 wz (by omega) hv
    have HcV := Lib.hid hcV
    clear hcV hrd
    go_wp2_with fail
    have hext : ∀ (i : Nat) (own : Value) (ys : Nat → Value) (wa wb : World), Ext wa wb → (match i with | 0 => own = .agg #[.int .i64 num, .int .i64 fr, .int .i64 row, .int .i64 part, .bool (s6 == 1), .slice a24 (n - 9) c24] | 1 => own = .bool false | 2 => own = .bool true | 3 => own = .bool true | 4 => True | 5 => True | 6 => True | 7 => True | 8 => True | 9 => True | 10 => True | 11 => True | 12 => True | 13 => True | 14 => True | 15 => True | 16 => True | 17 => True | 18 => True | 19 => True | 20 => True | 21 => True | 22 => own = .bool true | _ => True) → (match i with | 0 => own = .agg #[.int .i64 num, .int .i64 fr, .int .i64 row, .int .i64 part, .bool (s6 == 1), .slice a24 (n - 9) c24] | 1 => own = .bool false | 2 => own = .bool true | 3 => own = .bool true | 4 => True | 5 => True | 6 => True | 7 => True | 8 => True | 9 => True | 10 => True | 11 => True | 12 => True | 13 => True | 14 => True | 15 => True | 16 => True | 17 => True | 18 => True | 19 => True | 20 => True | 21 => True | 22 => own = .bool true | _ => True) := by
      intro i own ys wa wb e h
      match i, h with
      | 0, h => exact h
      | 1, h => exact h
      | 2, h => exact h
      | 3, h => exact h
      | 4, h => exact h
      | 5, h => exact h
      | 6, h => exact h
      | 7, h => exact h
      | 8, h => exact h
      | 9, h => exact h
      | 10, h => exact h
      | 11, h => exact h
      | 12, h => exact h
      | 13, h => exact h
      | 14, h => exact h
      | 15, h => exact h
      | 16, h => exact h
      | 17, h => exact h
      | 18, h => exact h
      | 19, h => exact h
      | 20, h => exact h
      | 21, h => exact h
      | 22, h => exact h
      | _ + 23, _ => trivial
    have Hext := Lib.hid hext
    clear hext
    refine wp_region_inv2 (by kernel_rfl) [(58, 0), (59, 1), (60, 2), (61, 3), (62, 4), (63, 5), (64, 6), (65, 7), (66, 8), (67, 9), (68, 10), (69, 11), (70, 12), (71, 13), (72, 14), (73, 15), (74, 16), (75, 17), (76, 18), (77, 19), (78, 20), (79, 21), (80, 22)] [[], [0], [0, 1], [0, 1, 2], [0, 1, 2, 3], [0, 1, 2, 3], [0, 1, 2, 3, 4, 5], [0, 1, 2, 3, 4, 5, 6], [0, 1, 2, 3], [0, 1, 2, 3], [0, 1, 2, 3, 8, 9], [0, 1, 2, 3, 8, 9, 10], [0, 1, 2, 3, 8, 9, 10, 11], [0, 1, 2, 3, 8, 9, 10, 11, 12], [0, 1, 2, 3], [0, 1, 2, 3], [0, 1, 2, 3, 15], [0, 1, 2, 3, 14, 15, 16], [0, 1, 2, 3, 14, 15, 16, 17], [0, 1, 2, 3, 14, 15, 16, 17, 18], [0, 1, 2, 3, 8, 9, 10, 11, 12, 13, 14, 15, 16, 17, 18, 19], [0, 1, 2, 3, 4, 5, 6, 7, 8, 9, 10, 11, 12, 13, 14, 15, 16, 17, 18, 19, 20], [0, 1, 2, 3, 4, 5, 6, 7, 8, 9, 10, 11, 12, 13, 14, 15, 16, 17, 18, 19, 20, 21]] (fun i own ys wx => match i with | 0 => own = .agg #[.int .i64 num, .int .i64 fr, .int .i64 row, .int .i64 part, .bool (s6 == 1), .slice a24 (n - 9) c24] | 1 => own = .bool false | 2 => own = .bool true | 3 => own = .bool true | 4 => True | 5 => True | 6 => True | 7 => True | 8 => True | 9 => True | 10 => True | 11 => True | 12 => True | 13 => True | 14 => True | 15 => True | 16 => True | 17 => True | 18 => True | 19 => True | 20 => True | 21 => True | 22 => own = .bool true | _ => True) (fun kx wx => Ext w1 wx) (by kernel_rfl) (by kernel_rfl) (by kernel_rfl) ?g0_r3 ?gop_r3 ?gend_r3
    case g0_r3 => exact Ext.drewN _ 1
    case gop_r3 =>
      refine ⟨?_, ?_, ?_, ?_, ?_, ?_, ?_, ?_, ?_, ?_, ?_, ?_, ?_, ?_, ?_, ?_, ?_, ?_, ?_, ?_, ?_, ?_, ?_, trivial⟩
      · intro kx xs wx hk hG hD hI Qo Kx hK hQo
        clear hD
        clear hI
        simp only [patchS, Nat.reduceAdd, Nat.reduceEqDiff, ↓reduceIte] at hQo ⊢
        have k0 := cell_ext hG m0
        have k1 := cell_ext hG m1
        have k2 := cell_ext hG m2
        have k3 := cell_ext hG m3
        have k4 := cell_ext hG m4
        have k5 := cell_ext hG m5
        go_wp2
        exact hK.out _ _ ⟨by first | rfl | trivial, hG, fun _ _ _ _ _ _ h => h⟩
      · intro kx xs wx hk hG hD hI Qo Kx hK hQo
        have d0 : (xs 0) = .agg #[.int .i64 num, .int .i64 fr, .int .i64 row, .int .i64 part, .bool (s6 == 1), .slice a24 (n - 9) c24] := hD 0 rfl
        clear hD
        clear hI
        simp only [patchS, Nat.reduceAdd, Nat.reduceEqDiff, ↓reduceIte] at hQo ⊢
        generalize xs 0 = y0 at *
        subst d0
        go_wp2_with fail
        refine (HcV.out _ hG).mono ?_
        rintro e w8 ⟨rfl, e8⟩
        go_wp2
        exact hK.out _ _ ⟨rfl, hG.trans e8, fun i _ _ _ own ys h => Hext.out i own ys _ _ e8 h⟩
      · intro kx xs wx hk hG hD hI Qo Kx hK hQo
        have d1 : (xs 1) = .bool false := hD 1 rfl
        clear hD
        clear hI
        simp only [patchS, Nat.reduceAdd, Nat.reduceEqDiff, ↓reduceIte] at hQo ⊢
        generalize xs 1 = y1 at *
        subst d1
        go_wp2
        exact hK.out _ _ ⟨by first | rfl | trivial, hG, fun _ _ _ _ _ _ h => h⟩
      · intro kx xs wx hk hG hD hI Qo Kx hK hQo
        have d2 : (xs 2) = .bool true := hD 2 rfl
        clear hD
        clear hI
        simp only [patchS, Nat.reduceAdd, Nat.reduceEqDiff, ↓reduceIte] at hQo ⊢
        generalize xs 2 = y2 at *
        subst d2
        go_wp2
        exact hK.out _ _ ⟨by first | rfl | trivial, hG, fun _ _ _ _ _ _ h => h⟩
      · intro kx xs wx hk hG hD hI Qo Kx hK hQo
        have d3 : (xs 3) = .bool true := hD 3 rfl
        clear hD
        clear hI
        simp only [patchS, Nat.reduceAdd, Nat.reduceEqDiff, ↓reduceIte] at hQo ⊢
        generalize xs 3 = y3 at *
        subst d3
        go_wp2
        exact hK.out _ _ ⟨by first | rfl | trivial, hG, fun _ _ _ _ _ _ h => h⟩
      · intro kx xs wx hk hG hD hI Qo Kx hK hQo
        have d3 : (xs 3) = .bool true := hD 3 rfl
        clear hD
        clear hI
        simp only [patchS, Nat.reduceAdd, Nat.reduceEqDiff, ↓reduceIte] at hQo ⊢
        generalize xs 3 = y3 at *
        subst d3
        go_wp2
        exact hK.out _ _ ⟨by first | rfl | trivial, hG, fun _ _ _ _ _ _ h => h⟩
      · intro kx xs wx hk hG hD hI Qo Kx hK hQo
        have d4 : True := hD 4 rfl
        have d5 : True := hD 5 rfl
        have d3 : (xs 3) = .bool true := hD 3 rfl
        clear hD
        clear hI
        simp only [patchS, Nat.reduceAdd, Nat.reduceEqDiff, ↓reduceIte] at hQo ⊢
        generalize xs 4 = y4 at *
        generalize xs 5 = y5 at *
        generalize xs 3 = y3 at *
        subst d3
        go_wp2
        exact hK.out _ _ ⟨by first | rfl | trivial, hG, fun _ _ _ _ _ _ h => h⟩
      · intro kx xs wx hk hG hD hI Qo Kx hK hQo
        have d6 : True := hD 6 rfl
        have d3 : (xs 3) = .bool true := hD 3 rfl
        clear hD
        clear hI
        simp only [patchS, Nat.reduceAdd, Nat.reduceEqDiff, ↓reduceIte] at hQo ⊢
        generalize xs 6 = y6 at *
        generalize xs 3 = y3 at *
        subst d3
        go_wp2
        exact hK.out _ _ ⟨by first | rfl | trivial, hG, fun _ _ _ _ _ _ h => h⟩
      · intro kx xs wx hk hG hD hI Qo Kx hK hQo
        have d3 : (xs 3) = .bool true := hD 3 rfl
        clear hD
        clear hI
        simp only [patchS, Nat.reduceAdd, Nat.reduceEqDiff, ↓reduceIte] at hQo ⊢
        generalize xs 3 = y3 at *
        subst d3
        go_wp2
        exact hK.out _ _ ⟨by first | rfl | trivial, hG, fun _ _ _ _ _ _ h => h⟩
      · intro kx xs wx hk hG hD hI Qo Kx hK hQo
        have d3 : (xs 3) = .bool true := hD 3 rfl
        clear hD
        clear hI
        simp only [patchS, Nat.reduceAdd, Nat.reduceEqDiff, ↓reduceIte] at hQo ⊢
        generalize xs 3 = y3 at *
        subst d3
        go_wp2
        exact hK.out _ _ ⟨by first | rfl | trivial, hG, fun _ _ _ _ _ _ h => h⟩
      · intro kx xs wx hk hG hD hI Qo Kx hK hQo
        have d8 : True := hD 8 rfl
        have d9 : True := hD 9 rfl
        have d3 : (xs 3) = .bool true := hD 3 rfl
        clear hD
        clear hI
        simp only [patchS, Nat.reduceAdd, Nat.reduceEqDiff, ↓reduceIte] at hQo ⊢
        generalize xs 8 = y8 at *
        generalize xs 9 = y9 at *
        generalize xs 3 = y3 at *
        subst d3
        go_wp2
        exact hK.out _ _ ⟨by first | rfl | trivial, hG, fun _ _ _ _ _ _ h => h⟩
      · intro kx xs wx hk hG hD hI Qo Kx hK hQo
        have d10 : True := hD 10 rfl
        have d3 : (xs 3) = .bool true := hD 3 rfl
        clear hD
        clear hI
        simp only [patchS, Nat.reduceAdd, Nat.reduceEqDiff, ↓reduceIte] at hQo ⊢
        generalize xs 10 = y10 at *
        generalize xs 3 = y3 at *
        subst d3
        go_wp2
        exact hK.out _ _ ⟨by first | rfl | trivial, hG, fun _ _ _ _ _ _ h => h⟩
      · intro kx xs wx hk hG hD hI Qo Kx hK hQo
        have d11 : True := hD 11 rfl
        have d3 : (xs 3) = .bool true := hD 3 rfl
        clear hD
        clear hI
        simp only [patchS, Nat.reduceAdd, Nat.reduceEqDiff, ↓reduceIte] at hQo ⊢
        generalize xs 11 = y11 at *
        generalize xs 3 = y3 at *
        subst d3
        go_wp2
        exact hK.out _ _ ⟨by first | rfl | trivial, hG, fun _ _ _ _ _ _ h => h⟩
      · intro kx xs wx hk hG hD hI Qo Kx hK hQo
        have d12 : True := hD 12 rfl
        have d3 : (xs 3) = .bool true := hD 3 rfl
        clear hD
        clear hI
        simp only [patchS, Nat.reduceAdd, Nat.reduceEqDiff, ↓reduceIte] at hQo ⊢
        generalize xs 12 = y12 at *
        generalize xs 3 = y3 at *
        subst d3
        go_wp2
        exact hK.out _ _ ⟨by first | rfl | trivial, hG, fun _ _ _ _ _ _ h => h⟩
      · intro kx xs wx hk hG hD hI Qo Kx hK hQo
        have d3 : (xs 3) = .bool true := hD 3 rfl
        clear hD
        clear hI
        simp only [patchS, Nat.reduceAdd, Nat.reduceEqDiff, ↓reduceIte] at hQo ⊢
        generalize xs 3 = y3 at *
        subst d3
        go_wp2
        exact hK.out _ _ ⟨by first | rfl | trivial, hG, fun _ _ _ _ _ _ h => h⟩
      · intro kx xs wx hk hG hD hI Qo Kx hK hQo
        have d3 : (xs 3) = .bool true := hD 3 rfl
        clear hD
        clear hI
        simp only [patchS, Nat.reduceAdd, Nat.reduceEqDiff, ↓reduceIte] at hQo ⊢
        generalize xs 3 = y3 at *
        subst d3
        go_wp2
        exact hK.out _ _ ⟨by first | rfl | trivial, hG, fun _ _ _ _ _ _ h => h⟩
      · intro kx xs wx hk hG hD hI Qo Kx hK hQo
        have d15 : True := hD 15 rfl
        have d3 : (xs 3) = .bool true := hD 3 rfl
        clear hD
        clear hI
        simp only [patchS, Nat.reduceAdd, Nat.reduceEqDiff, ↓reduceIte] at hQo ⊢
        generalize xs 15 = y15 at *
        generalize xs 3 = y3 at *
        subst d3
        go_wp2
        exact hK.out _ _ ⟨by first | rfl | trivial, hG, fun _ _ _ _ _ _ h => h⟩
      · intro kx xs wx hk hG hD hI Qo Kx hK hQo
        have d14 : True := hD 14 rfl
        have d16 : True := hD 16 rfl
        have d3 : (xs 3) = .bool true := hD 3 rfl
        clear hD
        clear hI
        simp only [patchS, Nat.reduceAdd, Nat.reduceEqDiff, ↓reduceIte] at hQo ⊢
        generalize xs 14 = y14 at *
        generalize xs 16 = y16 at *
        generalize xs 3 = y3 at *
        subst d3
        go_wp2
        exact hK.out _ _ ⟨by first | rfl | trivial, hG, fun _ _ _ _ _ _ h => h⟩
      · intro kx xs wx hk hG hD hI Qo Kx hK hQo
        have d17 : True := hD 17 rfl
        have d3 : (xs 3) = .bool true := hD 3 rfl
        clear hD
        clear hI
        simp only [patchS, Nat.reduceAdd, Nat.reduceEqDiff, ↓reduceIte] at hQo ⊢
        generalize xs 17 = y17 at *
        generalize xs 3 = y3 at *
        subst d3
        go_wp2
        exact hK.out _ _ ⟨by first | rfl | trivial, hG, fun _ _ _ _ _ _ h => h⟩
      · intro kx xs wx hk hG hD hI Qo Kx hK hQo
        have d18 : True := hD 18 rfl
        have d3 : (xs 3) = .bool true := hD 3 rfl
        clear hD
        clear hI
        simp only [patchS, Nat.reduceAdd, Nat.reduceEqDiff, ↓reduceIte] at hQo ⊢
        generalize xs 18 = y18 at *
        generalize xs 3 = y3 at *
        subst d3
        go_wp2
        exact hK.out _ _ ⟨by first | rfl | trivial, hG, fun _ _ _ _ _ _ h => h⟩
      · intro kx xs wx hk hG hD hI Qo Kx hK hQo
        have d13 : True := hD 13 rfl
        have d19 : True := hD 19 rfl
        have d3 : (xs 3) = .bool true := hD 3 rfl
        clear hD
        clear hI
        simp only [patchS, Nat.reduceAdd, Nat.reduceEqDiff, ↓reduceIte] at hQo ⊢
        generalize xs 13 = y13 at *
        generalize xs 19 = y19 at *
        generalize xs 3 = y3 at *
        subst d3
        go_wp2
        exact hK.out _ _ ⟨by first | rfl | trivial, hG, fun _ _ _ _ _ _ h => h⟩
      · intro kx xs wx hk hG hD hI Qo Kx hK hQo
        have d7 : True := hD 7 rfl
        have d20 : True := hD 20 rfl
        have d3 : (xs 3) = .bool true := hD 3 rfl
        clear hD
        clear hI
        simp only [patchS, Nat.reduceAdd, Nat.reduceEqDiff, ↓reduceIte] at hQo ⊢
        generalize xs 7 = y7 at *
        generalize xs 20 = y20 at *
        generalize xs 3 = y3 at *
        subst d3
        go_wp2
        exact hK.out _ _ ⟨by first | rfl | trivial, hG, fun _ _ _ _ _ _ h => h⟩
      · intro kx xs wx hk hG hD hI Qo Kx hK hQo
        have d3 : (xs 3) = .bool true := hD 3 rfl
        have d21 : True := hD 21 rfl
        clear hD
        clear hI
        simp only [patchS, Nat.reduceAdd, Nat.reduceEqDiff, ↓reduceIte] at hQo ⊢
        generalize xs 3 = y3 at *
        generalize xs 21 = y21 at *
        subst d3
        go_wp2
        exact hK.out _ _ ⟨by first | rfl | trivial, hG, fun _ _ _ _ _ _ h => h⟩
    clear Hext
    intro xs wx hV hG
    have d0 : (xs 0) = .agg #[.int .i64 num, .int .i64 fr, .int .i64 row, .int .i64 part, .bool (s6 == 1), .slice a24 (n - 9) c24] := hV 0 (by decide)
    have d1 : (xs 1) = .bool false := hV 1 (by decide)
    have d2 : (xs 2) = .bool true := hV 2 (by decide)
    have d3 : (xs 3) = .bool true := hV 3 (by decide)
    have d22 : (xs 22) = .bool true := hV 22 (by decide)
    clear hV
    simp only [patchS, Nat.reduceAdd, Nat.reduceEqDiff, ↓reduceIte]
    generalize xs 0 = y0 at *
    generalize xs 1 = y1 at *
    generalize xs 2 = y2 at *
    generalize xs 3 = y3 at *
    generalize xs 4 = y4 at *
    generalize xs 5 = y5 at *
    generalize xs 6 = y6 at *
    generalize xs 7 = y7 at *
    generalize xs 8 = y8 at *
    generalize xs 9 = y9 at *
    generalize xs 10 = y10 at *
    generalize xs 11 = y11 at *
    generalize xs 12 = y12 at *
    generalize xs 13 = y13 at *
    generalize xs 14 = y14 at *
    generalize xs 15 = y15 at *
    generalize xs 16 = y16 at *
    generalize xs 17 = y17 at *
    generalize xs 18 = y18 at *
    generalize xs 19 = y19 at *
    generalize xs 20 = y20 at *
    generalize xs 21 = y21 at *
    generalize xs 22 = y22 at *
    replace hG : Ext w1 wx := hG
    clear d0 d1 d2 d3
    subst d22
    have hrd := HRD.out
    have HR := Lib.hid hrd
    obtain ⟨y', k0, k1, k2, k3, k4, k5⟩ := bx6 (hG.blk PB.out)
    obtain ⟨f0, f1, f2, f3, f4, f5⟩ := fz6 (hG.blk PB.out)
    have P2 := Lib.hid (hG.blk PB.out)
    have E2 := EB.trans hG
    clear hrd hG m0 m1 m2 m3 m4 m5 z c0 c1 EB
    go_wp2_with fail
    refine bodyPost_ret (results_ct_row rfl _ _ w.heap.size 27 #[.int .i64 0, .int .i64 0, .int .i64 0, .int .i64 0, .bool false, .slice none 0 0] (0, 0) _ rfl (blk_set6 P2.out) Try.underlying27 rfl size_Packet) rfl ?_
    unfold RdR
    rw [rdP_no HR.out, decide_eq_false HR.out]
    exact ⟨none, 0, rfl, World.ownsRow_nil _ _ _ _, Ext.grown E2 (grown_set6 wx w.heap.size _ _ _ _ _ _) (fun k hk => by cases hk; exact Nat.le_refl _)⟩
theorem spec_ReadPacket_any (a : Option Addr) (c n : Nat) (l : List Int) (w : World) (hn : n ≤ c ∧ c ≤ 9223372036854775807) (hn2 : n < 2^45) (r : Sl w a n (l.map (Value.int .u8))) (hb : bys l) :
    Calls Try.prog 21 #[.slice a n c] w (RdR w l) := by
  by_cases h : n < 10 ∨ 209 < n
  · exact spec_ReadPacket_short a c n l w h r
  · by_cases h6 : nth l 6 ≤ 1
    · exact spec_ReadPacket_long a c n l w (by omega) (by omega) h6 hn hn2 r hb
    · exact spec_ReadPacket_flag a c n l w (by omega) (by omega) (by omega) r
end Go.Proofs.Ytpjjadmjdafkeaa
