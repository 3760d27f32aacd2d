/- Packets: contract of the program's ReadPacket. -/
import Derived.Test.YtpjjadmjdafkeaaK6
import Derived.Test.YtpjjadmjdafkeaaK5
namespace Go.Proofs.Ytpjjadmjdafkeaa
open Go.RowKit
set_option maxHeartbeats 1000000
theorem rdP_no {l : List Int} (h : ¬ rdOk l) : rdP l = pkt0 := if_neg h
theorem rdP_yes {l : List Int} (h : rdOk l) : rdP l = parse l := if_pos h
theorem rdOk_short {l : List Int} (h : l.length < 10) : ¬ rdOk l := fun h2 => by have := h2.1; omega
theorem Sl.mid {w : World} {b o n : Nat} {xs : List Int} (s : Sl w (some ⟨b, o, none⟩) n (xs.map (Value.int .u8))) {i m : Nat} (h : i + m ≤ n) : Sl w (some ⟨b, o + i, none⟩) m (((xs.drop i).take m).map (Value.int .u8)) := by
  have hl := s.int_len
  refine ⟨by simp; omega, fun j hj => ?_⟩
  obtain ⟨b', off', h1, h2⟩ := s.int (show i + j < n by omega)
  simp only [Option.some.injEq, Addr.mk.injEq, and_true] at h1
  obtain ⟨rfl, rfl⟩ := h1
  refine ⟨_, _, rfl, ?_⟩
  rw [Nat.add_assoc, h2, getD_map_int _ _ _ (by simp; omega)]
  simp only [nth, List.getD_eq_getElem?_getD, List.getElem?_take, hj, ↓reduceIte, List.getElem?_drop]
theorem grown_set1 (w : World) (b j : Nat) (v : Value) : w.grownBy (w.setCell ⟨b, j, none⟩ v) (some b) :=
  ⟨rfl, rfl, rfl, by simp, fun k _ hk => heap_setCell_other w ⟨b, j, none⟩ k v (fun e => hk (by simp [e]))⟩
theorem grown_set6 (w : World) (b : Nat) (y0 y1 y2 y3 y4 y5 : Value) : w.grownBy ((((((w.setCell ⟨b, 0, none⟩ y0).setCell ⟨b, 1, none⟩ y1).setCell ⟨b, 2, none⟩ y2).setCell ⟨b, 3, none⟩ y3).setCell ⟨b, 4, none⟩ y4).setCell ⟨b, 5, none⟩ y5) (some b) :=
  grownBy_trans (grownBy_trans (grownBy_trans (grownBy_trans (grownBy_trans (grown_set1 w b 0 y0) (grown_set1 _ b 1 y1)) (grown_set1 _ b 2 y2)) (grown_set1 _ b 3 y3)) (grown_set1 _ b 4 y4)) (grown_set1 _ b 5 y5)
theorem results_ct_row {P : Program} {fn : Func} {p u : Tmp} {ty : TypeId} (h : fn.results = #[.cell p ty, .tmp u]) (tmps : Array Value) (w : World) (g : Nat) (t : TypeId) (cs : Array Value) (fr : Nat × Nat) (d : TypeDesc)
    (hp : tmps.getD p undef = .pointer (some ⟨g, 0, none⟩)) (hg : w.heap[g]? = some (.cells cs t fr))
    (hu : P.underlying ty = some d) (hd : (match d with | .struct _ | .array _ _ => true | _ => false) = true) (hi : (P.info? ty).map (·.size) = some cs.size) :
    (results fn tmps).run P w = .ok (.tuple #[.agg cs, tmps.getD u undef]) w := by
  rw [results_cell_tmp h, hp]
  simp [asAddr, Result.andThen, run_loadVar_row w g t ty cs fr d hg hu hd hi]
/-- What ReadPacket returns. -/
def RdR (w : World) (l : List Int) (e : Ending) (w' : World) : Prop :=
  ∃ a' c', e = .returned (.tuple #[.agg #[.int .i64 (rdP l).num, .int .i64 (rdP l).fr, .int .i64 (rdP l).row, .int .i64 (rdP l).part, .bool (rdP l).last, .slice a' (rdP l).data.length c'], .bool (decide (rdOk l))]) ∧ w'.ownsRow w.heap.size 5 1 (.slice a' (rdP l).data.length c') (rdP l).data.length ((rdP l).data.map (Value.int .u8)) ∧ Ext w w'
set_option maxRecDepth 100000 in
theorem impl_ReadPacket_short (a : Option Addr) (c n : Nat) (l : List Int) (w : World) (hs : n < 10) (r : Sl w a n (l.map (Value.int .u8))) :
    Calls Try.prog 23 #[.slice a n c] w (RdR w l) := by
  have hl := r.int_len
  have hno := rdOk_short (l := l) (by omega)
  have HN := Lib.hid hno
  clear hno r hl
  go_enter Try.func23, Try.ntmps23
  go_wp2
  refine bodyPost_ret (v := .tuple #[.agg #[.int .i64 0, .int .i64 0, .int .i64 0, .int .i64 0, .bool false, .slice none 0 0], .bool false]) (by simp [results, Try.results23, go_sem]) rfl ?_
  unfold RdR
  rw [rdP_no HN.out, decide_eq_false HN.out]
  exact ⟨none, 0, rfl, World.ownsRow_nil _ _ _ _, Ext.alloc _ _⟩
set_option maxRecDepth 100000 in
theorem impl_ReadPacket_long (a : Option Addr) (c n : Nat) (l : List Int) (w : World) (hs2 : 10 ≤ n) (hn : n ≤ c ∧ c ≤ 9223372036854775807) (hn2 : n < 2^45) (r : Sl w a n (l.map (Value.int .u8))) (hb : bys l) :
    Calls Try.prog 23 #[.slice a n c] w (RdR w l) := by
  have hl := r.int_len
  have Hb := Lib.hid hb
  have Hl := Lib.hid hl
  obtain ⟨bb, o, rfl, -⟩ := r.int (i := 0) (by omega)
  have hcell : ∀ i, i < n → w.cell? ⟨bb, o + i, none⟩ = some (.int .u8 (nth l i)) := fun i hi => by
    obtain ⟨b', off', h1, h2⟩ := r.int hi
    simp only [Option.some.injEq, Addr.mk.injEq, and_true] at h1
    obtain ⟨rfl, rfl⟩ := h1
    exact h2
  have g4 := hcell 4 (by omega)
  have g5 := hcell 5 (by omega)
  have g6 := hcell 6 (by omega)
  have d1 : (parse l).num = nth l 0 * 256 + nth l 1 := rfl
  have d2 : (parse l).fr = nth l 2 * 256 + nth l 3 := rfl
  have d3 : (parse l).row = nth l 4 := rfl
  have d4 : (parse l).part = nth l 5 := rfl
  have d5 : (parse l).last = decide (nth l 6 = 1) := rfl
  have d6 : (parse l).data = (l.drop 7).take (n - 9) := by rw [← hl]; rfl
  have d7 : (parse l).data.length = n - 9 := by rw [d6]; simp; omega
  have hP1 := fun (w' : World) (e : Ext w w') => pairAt_any (some ⟨bb, o, none⟩) c n l 0 w' hn (r.ext e) Hb.out (by omega)
  have hP2 := fun (w' : World) (e : Ext w w') => pairAt_any (some ⟨bb, o, none⟩) c n l 2 w' hn (r.ext e) Hb.out (by omega)
  rw [← d1] at hP1
  rw [← d2] at hP2
  rw [← d3] at g4
  rw [← d4] at g5
  have b4 := Hb.out (nth l 4) (by rw [nth_eq _ _ (by omega)]; exact List.getElem_mem _)
  have b5 := Hb.out (nth l 5) (by rw [nth_eq _ _ (by omega)]; exact List.getElem_mem _)
  rw [← d3] at b4
  rw [← d4] at b5
  have rM := r.mid (i := 7) (m := n - 9) (by omega)
  rw [← d6] at rM
  obtain ⟨p, hp⟩ : ∃ p, p = parse l := ⟨_, rfl⟩
  rw [← hp] at hP1 hP2 g4 g5 rM d5 d6 d7 b4 b5
  obtain ⟨num, fr, row, part, last, zs⟩ := p
  obtain ⟨s6, hs6⟩ : ∃ s, s = nth l 6 := ⟨_, rfl⟩
  rw [← hs6] at g6 d5
  simp only at hP1 hP2 g4 g5 rM d5 d6 d7 b4 b5
  have v4 : wrap64 row = row := by unfold wrap64; omega
  have v5 : wrap64 part = part := by unfold wrap64; omega
  have HP1 := Lib.hid hP1
  have HP2 := Lib.hid hP2
  have Hp := Lib.hid hp
  have HD5 := Lib.hid d5
  have HD7 := Lib.hid d7
  have hzb : bys zs := by rw [d6]; exact fun z hz => Hb.out z (List.mem_of_mem_drop (List.mem_of_mem_take hz))
  have Hzb := Lib.hid hzb
  clear hcell d1 d2 d3 d4 d5 d6 d7 hP1 hP2 hp hs6 hb hl hzb
  have hnI : ((n : Int) - 2) = ((n - 2 : Nat) : Int) := by omega
  go_enter Try.func23, Try.ntmps23
  go_wp2_with fail
  have pA := blk_new w (.cells #[.int .i64 0, .int .i64 0, .int .i64 0, .int .i64 0, .bool false, .slice none 0 0] 27)
  have EA := Ext.alloc w (.cells #[.int .i64 0, .int .i64 0, .int .i64 0, .int .i64 0, .bool false, .slice none 0 0] 27)
  generalize w.alloc (.cells #[.int .i64 0, .int .i64 0, .int .i64 0, .int .i64 0, .bool false, .slice none 0 0] 27) = wA at *
  have hext : ∀ (i : Nat) (own : Value) (ys : Nat → Value) (wa wb : World), Ext wa wb → (match i with | 0 => own = .slice (some ⟨bb, o, none⟩) n c | 1 => own = .int .i64 num | 2 => own = .slice (some ⟨bb, o, none⟩) n c | 3 => own = .int .i64 fr | 4 => own = .slice (some ⟨bb, o, none⟩) n c | 5 => own = .pointer (some ⟨bb, o + 4, none⟩) | 6 => own = .int .u8 row | 7 => own = .int .i64 row | 8 => own = .slice (some ⟨bb, o, none⟩) n c | 9 => own = .pointer (some ⟨bb, o + 5, none⟩) | 10 => own = .int .u8 part | 11 => own = .int .i64 part | 12 => own = .slice (some ⟨bb, o, none⟩) n c | 13 => own = .pointer (some ⟨bb, o + 6, none⟩) | 14 => own = .int .u8 s6 | 15 => own = .bool (s6 == 1) | 16 => own = .slice (some ⟨bb, o, none⟩) n c | 17 => own = .slice (some ⟨bb, o, none⟩) n c | 18 => own = .int .i64 n | 19 => own = .int .i64 ((n - 2 : Nat) : Int) | 20 => own = .slice (some ⟨bb, o + 7, none⟩) (n - 9) (c - 7) | 21 => ∃ (ax : Option Addr) (cx : Nat), own = .slice ax (n - 9) cx ∧ wa.ownsRow wA.heap.size 5 1 (.slice ax (n - 9) cx) (n - 9) (zs.map (Value.int .u8)) | 22 => ∃ (ax : Option Addr) (cx : Nat), own = .agg #[.int .i64 num, .int .i64 fr, .int .i64 row, .int .i64 part, .bool (s6 == 1), .slice ax (n - 9) cx] ∧ wa.ownsRow wA.heap.size 5 1 (.slice ax (n - 9) cx) (n - 9) (zs.map (Value.int .u8)) | 23 => ∃ (q : Nat) (x0 x1 x2 x3 x4 x5 : Value), own = .pointer (some ⟨q, 0, none⟩) ∧ wA.heap.size ≤ q ∧ wa.heap[q]? = some (.cells #[x0, x1, x2, x3, x4, x5] 27 (0, 0)) | 24 => ∃ (q : Nat) (ax : Option Addr) (cx : Nat), ys 23 = .pointer (some ⟨q, 0, none⟩) ∧ wA.heap.size ≤ q ∧ wa.heap[q]? = some (.cells #[.int .i64 num, .int .i64 fr, .int .i64 row, .int .i64 part, .bool (s6 == 1), .slice ax (n - 9) cx] 27 (0, 0)) ∧ wa.ownsRow wA.heap.size 5 1 (.slice ax (n - 9) cx) (n - 9) (zs.map (Value.int .u8)) | _ => True) → (match i with | 0 => own = .slice (some ⟨bb, o, none⟩) n c | 1 => own = .int .i64 num | 2 => own = .slice (some ⟨bb, o, none⟩) n c | 3 => own = .int .i64 fr | 4 => own = .slice (some ⟨bb, o, none⟩) n c | 5 => own = .pointer (some ⟨bb, o + 4, none⟩) | 6 => own = .int .u8 row | 7 => own = .int .i64 row | 8 => own = .slice (some ⟨bb, o, none⟩) n c | 9 => own = .pointer (some ⟨bb, o + 5, none⟩) | 10 => own = .int .u8 part | 11 => own = .int .i64 part | 12 => own = .slice (some ⟨bb, o, none⟩) n c | 13 => own = .pointer (some ⟨bb, o + 6, none⟩) | 14 => own = .int .u8 s6 | 15 => own = .bool (s6 == 1) | 16 => own = .slice (some ⟨bb, o, none⟩) n c | 17 => own = .slice (some ⟨bb, o, none⟩) n c | 18 => own = .int .i64 n | 19 => own = .int .i64 ((n - 2 : Nat) : Int) | 20 => own = .slice (some ⟨bb, o + 7, none⟩) (n - 9) (c - 7) | 21 => ∃ (ax : Option Addr) (cx : Nat), own = .slice ax (n - 9) cx ∧ wb.ownsRow wA.heap.size 5 1 (.slice ax (n - 9) cx) (n - 9) (zs.map (Value.int .u8)) | 22 => ∃ (ax : Option Addr) (cx : Nat), own = .agg #[.int .i64 num, .int .i64 fr, .int .i64 row, .int .i64 part, .bool (s6 == 1), .slice ax (n - 9) cx] ∧ wb.ownsRow wA.heap.size 5 1 (.slice ax (n - 9) cx) (n - 9) (zs.map (Value.int .u8)) | 23 => ∃ (q : Nat) (x0 x1 x2 x3 x4 x5 : Value), own = .pointer (some ⟨q, 0, none⟩) ∧ wA.heap.size ≤ q ∧ wb.heap[q]? = some (.cells #[x0, x1, x2, x3, x4, x5] 27 (0, 0)) | 24 => ∃ (q : Nat) (ax : Option Addr) (cx : Nat), ys 23 = .pointer (some ⟨q, 0, none⟩) ∧ wA.heap.size ≤ q ∧ wb.heap[q]? = some (.cells #[.int .i64 num, .int .i64 fr, .int .i64 row, .int .i64 part, .bool (s6 == 1), .slice ax (n - 9) cx] 27 (0, 0)) ∧ wb.ownsRow wA.heap.size 5 1 (.slice ax (n - 9) cx) (n - 9) (zs.map (Value.int .u8)) | _ => True) := by
    intro i own ys wa wb e h
    match i, h with
    | 0, h => exact h
    | 1, h => exact h
    | 2, h => exact h
    | 3, h => exact h
    | 4, h => exact h
    | 5, h => exact h
    | 6, h => exact h
    | 7, h => exact h
    | 8, h => exact h
    | 9, h => exact h
    | 10, h => exact h
    | 11, h => exact h
    | 12, h => exact h
    | 13, h => exact h
    | 14, h => exact h
    | 15, h => exact h
    | 16, h => exact h
    | 17, h => exact h
    | 18, h => exact h
    | 19, h => exact h
    | 20, h => exact h
    | 21, h => obtain ⟨a2, c2, h1, h2⟩ := h; exact ⟨a2, c2, h1, owns_ext h2 e⟩
    | 22, h => obtain ⟨a2, c2, h1, h2⟩ := h; exact ⟨a2, c2, h1, owns_ext h2 e⟩
    | 23, h => obtain ⟨q, x0, x1, x2, x3, x4, x5, h1, h2, h3⟩ := h; exact ⟨q, x0, x1, x2, x3, x4, x5, h1, h2, e.blk h3⟩
    | 24, h => obtain ⟨q, a2, c2, h1, h2, h3, h4⟩ := h; exact ⟨q, a2, c2, h1, h2, e.blk h3, owns_ext h4 e⟩
    | _ + 25, _ => trivial
  have Hext := Lib.hid hext
  clear hext
  refine wp_region_inv2 (by kernel_rfl) [(4, 23), (9, 0), (10, 1), (11, 2), (12, 3), (13, 4), (14, 5), (15, 6), (16, 7), (17, 8), (18, 9), (19, 10), (20, 11), (21, 12), (22, 13), (23, 14), (24, 15), (25, 16), (26, 17), (27, 18), (28, 19), (29, 20), (30, 21), (31, 22)] [[], [0], [], [0, 1, 2], [], [4], [4, 5], [4, 5, 6], [], [8], [8, 9], [8, 9, 10], [], [12], [12, 13], [12, 13, 14], [], [], [17], [17, 18], [16, 17, 18, 19], [0, 1, 2, 3, 16, 17, 18, 19, 20], [0, 1, 2, 3, 4, 5, 6, 7, 8, 9, 10, 11, 12, 13, 14, 15, 16, 17, 18, 19, 20, 21], [], [0, 1, 2, 3, 4, 5, 6, 7, 8, 9, 10, 11, 12, 13, 14, 15, 16, 17, 18, 19, 20, 21, 22, 23]] (fun i own ys wx => match i with | 0 => own = .slice (some ⟨bb, o, none⟩) n c | 1 => own = .int .i64 num | 2 => own = .slice (some ⟨bb, o, none⟩) n c | 3 => own = .int .i64 fr | 4 => own = .slice (some ⟨bb, o, none⟩) n c | 5 => own = .pointer (some ⟨bb, o + 4, none⟩) | 6 => own = .int .u8 row | 7 => own = .int .i64 row | 8 => own = .slice (some ⟨bb, o, none⟩) n c | 9 => own = .pointer (some ⟨bb, o + 5, none⟩) | 10 => own = .int .u8 part | 11 => own = .int .i64 part | 12 => own = .slice (some ⟨bb, o, none⟩) n c | 13 => own = .pointer (some ⟨bb, o + 6, none⟩) | 14 => own = .int .u8 s6 | 15 => own = .bool (s6 == 1) | 16 => own = .slice (some ⟨bb, o, none⟩) n c | 17 => own = .slice (some ⟨bb, o, none⟩) n c | 18 => own = .int .i64 n | 19 => own = .int .i64 ((n - 2 : Nat) : Int) | 20 => own = .slice (some ⟨bb, o + 7, none⟩) (n - 9) (c - 7) | 21 => ∃ (ax : Option Addr) (cx : Nat), own = .slice ax (n - 9) cx ∧ wx.ownsRow wA.heap.size 5 1 (.slice ax (n - 9) cx) (n - 9) (zs.map (Value.int .u8)) | 22 => ∃ (ax : Option Addr) (cx : Nat), own = .agg #[.int .i64 num, .int .i64 fr, .int .i64 row, .int .i64 part, .bool (s6 == 1), .slice ax (n - 9) cx] ∧ wx.ownsRow wA.heap.size 5 1 (.slice ax (n - 9) cx) (n - 9) (zs.map (Value.int .u8)) | 23 => ∃ (q : Nat) (x0 x1 x2 x3 x4 x5 : Value), own = .pointer (some ⟨q, 0, none⟩) ∧ wA.heap.size ≤ q ∧ wx.heap[q]? = some (.cells #[x0, x1, x2, x3, x4, x5] 27 (0, 0)) | 24 => ∃ (q : Nat) (ax : Option Addr) (cx : Nat), ys 23 = .pointer (some ⟨q, 0, none⟩) ∧ wA.heap.size ≤ q ∧ wx.heap[q]? = some (.cells #[.int .i64 num, .int .i64 fr, .int .i64 row, .int .i64 part, .bool (s6 == 1), .slice ax (n - 9) cx] 27 (0, 0)) ∧ wx.ownsRow wA.heap.size 5 1 (.slice ax (n - 9) cx) (n - 9) (zs.map (Value.int .u8)) | _ => True) (fun kx wx => Ext wA wx) (by kernel_rfl) (by kernel_rfl) (by kernel_rfl) ?g0_r1 ?gop_r1 ?gend_r1
  case g0_r1 => exact Ext.drewN _ 1
  case gop_r1 =>
    refine ⟨?_, ?_, ?_, ?_, ?_, ?_, ?_, ?_, ?_, ?_, ?_, ?_, ?_, ?_, ?_, ?_, ?_, ?_, ?_, ?_, ?_, ?_, ?_, ?_, ?_, trivial⟩
    · intro kx xs wx hk hG hD hI Qo Kx hK hQo
      clear hD
      clear hI
      simp only [patchS, Nat.reduceAdd, Nat.reduceEqDiff, ↓reduceIte] at hQo ⊢
      go_wp2
      exact hK.out _ _ ⟨rfl, hG, fun _ _ _ _ _ _ h => h⟩
    · intro kx xs wx hk hG hD hI Qo Kx hK hQo
      have d0 : (xs 0) = .slice (some ⟨bb, o, none⟩) n c := hD 0 rfl
      clear hD
      clear hI
      simp only [patchS, Nat.reduceAdd, Nat.reduceEqDiff, ↓reduceIte] at hQo ⊢
      generalize xs 0 = y0 at *
      subst d0
      go_wp2_with fail
      refine (HP1.out _ (EA.trans hG)).mono ?_
      rintro e w8 ⟨rfl, d8, rfl⟩
      have e8 := Ext.drewN wx d8
      go_wp2
      exact hK.out _ _ ⟨rfl, hG.trans e8, fun i _ _ _ own ys h => Hext.out i own ys _ _ e8 h⟩
    · intro kx xs wx hk hG hD hI Qo Kx hK hQo
      clear hD
      clear hI
      simp only [patchS, Nat.reduceAdd, Nat.reduceEqDiff, ↓reduceIte] at hQo ⊢
      go_wp2
      exact hK.out _ _ ⟨rfl, hG, fun _ _ _ _ _ _ h => h⟩
    · intro kx xs wx hk hG hD hI Qo Kx hK hQo
      have d2 : (xs 2) = .slice (some ⟨bb, o, none⟩) n c := hD 2 rfl
      clear hD
      clear hI
      simp only [patchS, Nat.reduceAdd, Nat.reduceEqDiff, ↓reduceIte] at hQo ⊢
      generalize xs 2 = y2 at *
      subst d2
      go_wp2_with fail
      refine (HP2.out _ (EA.trans hG)).mono ?_
      rintro e w8 ⟨rfl, d8, rfl⟩
      have e8 := Ext.drewN wx d8
      go_wp2
      exact hK.out _ _ ⟨rfl, hG.trans e8, fun i _ _ _ own ys h => Hext.out i own ys _ _ e8 h⟩
    · intro kx xs wx hk hG hD hI Qo Kx hK hQo
      clear hD
      clear hI
      simp only [patchS, Nat.reduceAdd, Nat.reduceEqDiff, ↓reduceIte] at hQo ⊢
      go_wp2
      exact hK.out _ _ ⟨rfl, hG, fun _ _ _ _ _ _ h => h⟩
    · intro kx xs wx hk hG hD hI Qo Kx hK hQo
      have d4 : (xs 4) = .slice (some ⟨bb, o, none⟩) n c := hD 4 rfl
      clear hD
      clear hI
      simp only [patchS, Nat.reduceAdd, Nat.reduceEqDiff, ↓reduceIte] at hQo ⊢
      generalize xs 4 = y4 at *
      subst d4
      go_wp2
      exact hK.out _ _ ⟨rfl, hG, fun _ _ _ _ _ _ h => h⟩
    · intro kx xs wx hk hG hD hI Qo Kx hK hQo
      have d5 : (xs 5) = .pointer (some ⟨bb, o + 4, none⟩) := hD 5 rfl
      clear hD
      clear hI
      simp only [patchS, Nat.reduceAdd, Nat.reduceEqDiff, ↓reduceIte] at hQo ⊢
      generalize xs 5 = y5 at *
      subst d5
      have k0 := cell_ext (EA.trans hG) g4
      go_wp2
      exact hK.out _ _ ⟨rfl, hG, fun _ _ _ _ _ _ h => h⟩
    · intro kx xs wx hk hG hD hI Qo Kx hK hQo
      have d6 : (xs 6) = .int .u8 row := hD 6 rfl
      clear hD
      clear hI
      simp only [patchS, Nat.reduceAdd, Nat.reduceEqDiff, ↓reduceIte] at hQo ⊢
      generalize xs 6 = y6 at *
      subst d6
      go_wp2
      exact hK.out _ _ ⟨rfl, hG, fun _ _ _ _ _ _ h => h⟩
    · intro kx xs wx hk hG hD hI Qo Kx hK hQo
      clear hD
      clear hI
      simp only [patchS, Nat.reduceAdd, Nat.reduceEqDiff, ↓reduceIte] at hQo ⊢
      go_wp2
      exact hK.out _ _ ⟨rfl, hG, fun _ _ _ _ _ _ h => h⟩
    · intro kx xs wx hk hG hD hI Qo Kx hK hQo
      have d8 : (xs 8) = .slice (some ⟨bb, o, none⟩) n c := hD 8 rfl
      clear hD
      clear hI
      simp only [patchS, Nat.reduceAdd, Nat.reduceEqDiff, ↓reduceIte] at hQo ⊢
      generalize xs 8 = y8 at *
      subst d8
      go_wp2
      exact hK.out _ _ ⟨rfl, hG, fun _ _ _ _ _ _ h => h⟩
    · intro kx xs wx hk hG hD hI Qo Kx hK hQo
      have d9 : (xs 9) = .pointer (some ⟨bb, o + 5, none⟩) := hD 9 rfl
      clear hD
      clear hI
      simp only [patchS, Nat.reduceAdd, Nat.reduceEqDiff, ↓reduceIte] at hQo ⊢
      generalize xs 9 = y9 at *
      subst d9
      have k0 := cell_ext (EA.trans hG) g5
      go_wp2
      exact hK.out _ _ ⟨rfl, hG, fun _ _ _ _ _ _ h => h⟩
    · intro kx xs wx hk hG hD hI Qo Kx hK hQo
      have d10 : (xs 10) = .int .u8 part := hD 10 rfl
      clear hD
      clear hI
      simp only [patchS, Nat.reduceAdd, Nat.reduceEqDiff, ↓reduceIte] at hQo ⊢
      generalize xs 10 = y10 at *
      subst d10
      go_wp2
      exact hK.out _ _ ⟨rfl, hG, fun _ _ _ _ _ _ h => h⟩
    · intro kx xs wx hk hG hD hI Qo Kx hK hQo
      clear hD
      clear hI
      simp only [patchS, Nat.reduceAdd, Nat.reduceEqDiff, ↓reduceIte] at hQo ⊢
      go_wp2
      exact hK.out _ _ ⟨rfl, hG, fun _ _ _ _ _ _ h => h⟩
    · intro kx xs wx hk hG hD hI Qo Kx hK hQo
      have d12 : (xs 12) = .slice (some ⟨bb, o, none⟩) n c := hD 12 rfl
      clear hD
      clear hI
      simp only [patchS, Nat.reduceAdd, Nat.reduceEqDiff, ↓reduceIte] at hQo ⊢
      generalize xs 12 = y12 at *
      subst d12
      go_wp2
      exact hK.out _ _ ⟨rfl, hG, fun _ _ _ _ _ _ h => h⟩
    · intro kx xs wx hk hG hD hI Qo Kx hK hQo
      have d13 : (xs 13) = .pointer (some ⟨bb, o + 6, none⟩) := hD 13 rfl
      clear hD
      clear hI
      simp only [patchS, Nat.reduceAdd, Nat.reduceEqDiff, ↓reduceIte] at hQo ⊢
      generalize xs 13 = y13 at *
      subst d13
      have k0 := cell_ext (EA.trans hG) g6
      go_wp2
      exact hK.out _ _ ⟨rfl, hG, fun _ _ _ _ _ _ h => h⟩
    · intro kx xs wx hk hG hD hI Qo Kx hK hQo
      have d14 : (xs 14) = .int .u8 s6 := hD 14 rfl
      clear hD
      clear hI
      simp only [patchS, Nat.reduceAdd, Nat.reduceEqDiff, ↓reduceIte] at hQo ⊢
      generalize xs 14 = y14 at *
      subst d14
      go_wp2
      exact hK.out _ _ ⟨rfl, hG, fun _ _ _ _ _ _ h => h⟩
    · intro kx xs wx hk hG hD hI Qo Kx hK hQo
      clear hD
      clear hI
      simp only [patchS, Nat.reduceAdd, Nat.reduceEqDiff, ↓reduceIte] at hQo ⊢
      go_wp2
      exact hK.out _ _ ⟨rfl, hG, fun _ _ _ _ _ _ h => h⟩
    · intro kx xs wx hk hG hD hI Qo Kx hK hQo
      clear hD
      clear hI
      simp only [patchS, Nat.reduceAdd, Nat.reduceEqDiff, ↓reduceIte] at hQo ⊢
      go_wp2
      exact hK.out _ _ ⟨rfl, hG, fun _ _ _ _ _ _ h => h⟩
    · intro kx xs wx hk hG hD hI Qo Kx hK hQo
      have d17 : (xs 17) = .slice (some ⟨bb, o, none⟩) n c := hD 17 rfl
      clear hD
      clear hI
      simp only [patchS, Nat.reduceAdd, Nat.reduceEqDiff, ↓reduceIte] at hQo ⊢
      generalize xs 17 = y17 at *
      subst d17
      go_wp2
      exact hK.out _ _ ⟨rfl, hG, fun _ _ _ _ _ _ h => h⟩
    · intro kx xs wx hk hG hD hI Qo Kx hK hQo
      have d18 : (xs 18) = .int .i64 n := hD 18 rfl
      clear hD
      clear hI
      simp only [patchS, Nat.reduceAdd, Nat.reduceEqDiff, ↓reduceIte] at hQo ⊢
      generalize xs 18 = y18 at *
      subst d18
      go_wp2
      exact hK.out _ _ ⟨rfl, hG, fun _ _ _ _ _ _ h => h⟩
    · intro kx xs wx hk hG hD hI Qo Kx hK hQo
      have d16 : (xs 16) = .slice (some ⟨bb, o, none⟩) n c := hD 16 rfl
      have d19 : (xs 19) = .int .i64 ((n - 2 : Nat) : Int) := hD 19 rfl
      clear hD
      clear hI
      simp only [patchS, Nat.reduceAdd, Nat.reduceEqDiff, ↓reduceIte] at hQo ⊢
      generalize xs 16 = y16 at *
      generalize xs 19 = y19 at *
      subst d16
      subst d19
      go_wp2
      exact hK.out _ _ ⟨rfl, hG, fun _ _ _ _ _ _ h => h⟩
    · intro kx xs wx hk hG hD hI Qo Kx hK hQo
      have d20 : (xs 20) = .slice (some ⟨bb, o + 7, none⟩) (n - 9) (c - 7) := hD 20 rfl
      clear hD
      clear hI
      simp only [patchS, Nat.reduceAdd, Nat.reduceEqDiff, ↓reduceIte] at hQo ⊢
      generalize xs 20 = y20 at *
      subst d20
      refine wpList_apps _ (World.ownsRow_nil _ wA.heap.size _ _) hG.size rfl _ _ 22 rfl (.int .u8 0) 1 Try.underlying22 info_uint8 rfl rfl (some ⟨bb, o + 7, none⟩) (n - 9) (c - 7) _ rfl (rM.ext (EA.trans hG)) (by intro u hu; simp at hu; obtain ⟨z, -, rfl⟩ := hu; rfl) (by omega) (by omega) ?_
      intro v14 w14 own14 gr14
      rw [Nat.zero_add, List.nil_append] at own14
      obtain ⟨a14, c14, rfl⟩ := owns_form own14
      have e8 := ext_none gr14 rfl
      exact hQo _ _ (hK.out _ _ ⟨⟨_, _, rfl, own14⟩, hG.trans e8, fun i _ _ _ own ys h => Hext.out i own ys _ _ e8 h⟩)
    · intro kx xs wx hk hG hD hI Qo Kx hK hQo
      have d1 : (xs 1) = .int .i64 num := hD 1 rfl
      have d3 : (xs 3) = .int .i64 fr := hD 3 rfl
      have d7 : (xs 7) = .int .i64 row := hD 7 rfl
      have d11 : (xs 11) = .int .i64 part := hD 11 rfl
      have d15 : (xs 15) = .bool (s6 == 1) := hD 15 rfl
      have d21 : ∃ (ax : Option Addr) (cx : Nat), (xs 21) = .slice ax (n - 9) cx ∧ wx.ownsRow wA.heap.size 5 1 (.slice ax (n - 9) cx) (n - 9) (zs.map (Value.int .u8)) := hD 21 rfl
      clear hD
      clear hI
      simp only [patchS, Nat.reduceAdd, Nat.reduceEqDiff, ↓reduceIte] at hQo ⊢
      generalize xs 1 = y1 at *
      generalize xs 3 = y3 at *
      generalize xs 7 = y7 at *
      generalize xs 11 = y11 at *
      generalize xs 15 = y15 at *
      generalize xs 21 = y21 at *
      subst d1
      subst d3
      subst d7
      subst d11
      subst d15
      obtain ⟨a21, c21, rfl, o21⟩ := d21
      go_wp2
      exact hK.out _ _ ⟨⟨_, _, rfl, o21⟩, hG, fun _ _ _ _ _ _ h => h⟩
    · intro kx xs wx hk hG hD hI Qo Kx hK hQo
      clear hD
      clear hI
      simp only [patchS, Nat.reduceAdd, Nat.reduceEqDiff, ↓reduceIte] at hQo ⊢
      have e5' := Ext.alloc wx (.cells #[.int .i64 0, .int .i64 0, .int .i64 0, .int .i64 0, .bool false, .slice none 0 0] 27)
      go_wp2
      exact hK.out _ _ ⟨⟨_, _, _, _, _, _, _, rfl, hG.size, blk_new _ _⟩, hG.trans e5', fun i _ _ _ own ys h => Hext.out i own ys _ _ e5' h⟩
    · intro kx xs wx hk hG hD hI Qo Kx hK hQo
      have d23 : ∃ (q : Nat) (x0 x1 x2 x3 x4 x5 : Value), (xs 23) = .pointer (some ⟨q, 0, none⟩) ∧ wA.heap.size ≤ q ∧ wx.heap[q]? = some (.cells #[x0, x1, x2, x3, x4, x5] 27 (0, 0)) := hD 23 rfl
      have d22 : ∃ (ax : Option Addr) (cx : Nat), (xs 22) = .agg #[.int .i64 num, .int .i64 fr, .int .i64 row, .int .i64 part, .bool (s6 == 1), .slice ax (n - 9) cx] ∧ wx.ownsRow wA.heap.size 5 1 (.slice ax (n - 9) cx) (n - 9) (zs.map (Value.int .u8)) := hD 22 rfl
      clear hD
      clear hI
      simp only [patchS, Nat.reduceAdd, Nat.reduceEqDiff, ↓reduceIte] at hQo ⊢
      generalize hx23 : xs 23 = y23 at *
      have Hx23 := Lib.hid hx23
      clear hx23
      generalize xs 22 = y22 at *
      obtain ⟨q, x0, x1, x2, x3, x4, x5, rfl, hq, hqb⟩ := d23
      obtain ⟨a22, c22, rfl, o22⟩ := d22
      obtain ⟨z, z0, z1, z2, z3, z4, z5⟩ := bx6 hqb
      obtain ⟨f0, f1, f2, f3, f4, f5⟩ := fz6 hqb
      go_wp2
      have hst : ∀ (wy : World), wx.grownBy wy (some q) ∧ (∃ x0 x1 x2 x3 x4 x5, wy.heap[q]? = some (.cells #[x0, x1, x2, x3, x4, x5] 27 (0, 0))) → ∀ (ii : Nat), ii < 25 → ii ≠ 24 → ([[], [0], [], [0, 1, 2], [], [4], [4, 5], [4, 5, 6], [], [8], [8, 9], [8, 9, 10], [], [12], [12, 13], [12, 13, 14], [], [], [17], [17, 18], [16, 17, 18, 19], [0, 1, 2, 3, 16, 17, 18, 19, 20], [0, 1, 2, 3, 4, 5, 6, 7, 8, 9, 10, 11, 12, 13, 14, 15, 16, 17, 18, 19, 20, 21], [], [0, 1, 2, 3, 4, 5, 6, 7, 8, 9, 10, 11, 12, 13, 14, 15, 16, 17, 18, 19, 20, 21, 22, 23]].getD ii []).contains 24 = false → ∀ (own : Value) (ys : Nat → Value), (match ii with | 0 => own = .slice (some ⟨bb, o, none⟩) n c | 1 => own = .int .i64 num | 2 => own = .slice (some ⟨bb, o, none⟩) n c | 3 => own = .int .i64 fr | 4 => own = .slice (some ⟨bb, o, none⟩) n c | 5 => own = .pointer (some ⟨bb, o + 4, none⟩) | 6 => own = .int .u8 row | 7 => own = .int .i64 row | 8 => own = .slice (some ⟨bb, o, none⟩) n c | 9 => own = .pointer (some ⟨bb, o + 5, none⟩) | 10 => own = .int .u8 part | 11 => own = .int .i64 part | 12 => own = .slice (some ⟨bb, o, none⟩) n c | 13 => own = .pointer (some ⟨bb, o + 6, none⟩) | 14 => own = .int .u8 s6 | 15 => own = .bool (s6 == 1) | 16 => own = .slice (some ⟨bb, o, none⟩) n c | 17 => own = .slice (some ⟨bb, o, none⟩) n c | 18 => own = .int .i64 n | 19 => own = .int .i64 ((n - 2 : Nat) : Int) | 20 => own = .slice (some ⟨bb, o + 7, none⟩) (n - 9) (c - 7) | 21 => ∃ (ax : Option Addr) (cx : Nat), own = .slice ax (n - 9) cx ∧ wx.ownsRow wA.heap.size 5 1 (.slice ax (n - 9) cx) (n - 9) (zs.map (Value.int .u8)) | 22 => ∃ (ax : Option Addr) (cx : Nat), own = .agg #[.int .i64 num, .int .i64 fr, .int .i64 row, .int .i64 part, .bool (s6 == 1), .slice ax (n - 9) cx] ∧ wx.ownsRow wA.heap.size 5 1 (.slice ax (n - 9) cx) (n - 9) (zs.map (Value.int .u8)) | 23 => ∃ (q : Nat) (x0 x1 x2 x3 x4 x5 : Value), own = .pointer (some ⟨q, 0, none⟩) ∧ wA.heap.size ≤ q ∧ wx.heap[q]? = some (.cells #[x0, x1, x2, x3, x4, x5] 27 (0, 0)) | 24 => ∃ (q : Nat) (ax : Option Addr) (cx : Nat), ys 23 = .pointer (some ⟨q, 0, none⟩) ∧ wA.heap.size ≤ q ∧ wx.heap[q]? = some (.cells #[.int .i64 num, .int .i64 fr, .int .i64 row, .int .i64 part, .bool (s6 == 1), .slice ax (n - 9) cx] 27 (0, 0)) ∧ wx.ownsRow wA.heap.size 5 1 (.slice ax (n - 9) cx) (n - 9) (zs.map (Value.int .u8)) | _ => True) → (match ii with | 0 => own = .slice (some ⟨bb, o, none⟩) n c | 1 => own = .int .i64 num | 2 => own = .slice (some ⟨bb, o, none⟩) n c | 3 => own = .int .i64 fr | 4 => own = .slice (some ⟨bb, o, none⟩) n c | 5 => own = .pointer (some ⟨bb, o + 4, none⟩) | 6 => own = .int .u8 row | 7 => own = .int .i64 row | 8 => own = .slice (some ⟨bb, o, none⟩) n c | 9 => own = .pointer (some ⟨bb, o + 5, none⟩) | 10 => own = .int .u8 part | 11 => own = .int .i64 part | 12 => own = .slice (some ⟨bb, o, none⟩) n c | 13 => own = .pointer (some ⟨bb, o + 6, none⟩) | 14 => own = .int .u8 s6 | 15 => own = .bool (s6 == 1) | 16 => own = .slice (some ⟨bb, o, none⟩) n c | 17 => own = .slice (some ⟨bb, o, none⟩) n c | 18 => own = .int .i64 n | 19 => own = .int .i64 ((n - 2 : Nat) : Int) | 20 => own = .slice (some ⟨bb, o + 7, none⟩) (n - 9) (c - 7) | 21 => ∃ (ax : Option Addr) (cx : Nat), own = .slice ax (n - 9) cx ∧ wy.ownsRow wA.heap.size 5 1 (.slice ax (n - 9) cx) (n - 9) (zs.map (Value.int .u8)) | 22 => ∃ (ax : Option Addr) (cx : Nat), own = .agg #[.int .i64 num, .int .i64 fr, .int .i64 row, .int .i64 part, .bool (s6 == 1), .slice ax (n - 9) cx] ∧ wy.ownsRow wA.heap.size 5 1 (.slice ax (n - 9) cx) (n - 9) (zs.map (Value.int .u8)) | 23 => ∃ (q : Nat) (x0 x1 x2 x3 x4 x5 : Value), own = .pointer (some ⟨q, 0, none⟩) ∧ wA.heap.size ≤ q ∧ wy.heap[q]? = some (.cells #[x0, x1, x2, x3, x4, x5] 27 (0, 0)) | 24 => ∃ (q : Nat) (ax : Option Addr) (cx : Nat), ys 23 = .pointer (some ⟨q, 0, none⟩) ∧ wA.heap.size ≤ q ∧ wy.heap[q]? = some (.cells #[.int .i64 num, .int .i64 fr, .int .i64 row, .int .i64 part, .bool (s6 == 1), .slice ax (n - 9) cx] 27 (0, 0)) ∧ wy.ownsRow wA.heap.size 5 1 (.slice ax (n - 9) cx) (n - 9) (zs.map (Value.int .u8)) | _ => True) := by
        intro wy hy ii hii hne hc own ys h
        match ii, h with
        | 0, h => exact h
        | 1, h => exact h
        | 2, h => exact h
        | 3, h => exact h
        | 4, h => exact h
        | 5, h => exact h
        | 6, h => exact h
        | 7, h => exact h
        | 8, h => exact h
        | 9, h => exact h
        | 10, h => exact h
        | 11, h => exact h
        | 12, h => exact h
        | 13, h => exact h
        | 14, h => exact h
        | 15, h => exact h
        | 16, h => exact h
        | 17, h => exact h
        | 18, h => exact h
        | 19, h => exact h
        | 20, h => exact h
        | 21, h => obtain ⟨a2, c2, h1, h2⟩ := h; exact ⟨a2, c2, h1, h2.kept hy.1 (own_ne_blk h2 hqb (by decide))⟩
        | 22, h => obtain ⟨a2, c2, h1, h2⟩ := h; exact ⟨a2, c2, h1, h2.kept hy.1 (own_ne_blk h2 hqb (by decide))⟩
        | 23, h => obtain ⟨q', x0', x1', x2', x3', x4', x5', h1, h2, h3⟩ := h; by_cases hqq : q' = q; (subst hqq; obtain ⟨u0, u1, u2, u3, u4, u5, u6⟩ := hy.2; exact ⟨_, _, _, _, _, _, _, h1, h2, u6⟩); exact ⟨q', x0', x1', x2', x3', x4', x5', h1, h2, by rw [hy.1.block q' (lt_of_block h3) (fun e => hqq (by simpa using e))]; exact h3⟩
        | 24, h => exact absurd rfl hne
        | _ + 25, _ => trivial
      refine hQo undef _ (hK.out _ _ ⟨⟨q, a22, c22, Hx23.out, hq, blk_set6 hqb, o22.kept (grown_set6 _ q _ _ _ _ _ _) (own_ne_blk o22 hqb (by decide))⟩, Ext.grown hG (grown_set6 _ q _ _ _ _ _ _) (fun k hk => by cases hk; exact hq), hst _ ⟨grown_set6 _ q _ _ _ _ _ _, _, _, _, _, _, _, blk_set6 hqb⟩⟩)
  clear Hext
  intro xs wx hV hG
  have d0 : (xs 0) = .slice (some ⟨bb, o, none⟩) n c := hV 0 (by decide)
  have d1 : (xs 1) = .int .i64 num := hV 1 (by decide)
  have d2 : (xs 2) = .slice (some ⟨bb, o, none⟩) n c := hV 2 (by decide)
  have d3 : (xs 3) = .int .i64 fr := hV 3 (by decide)
  have d4 : (xs 4) = .slice (some ⟨bb, o, none⟩) n c := hV 4 (by decide)
  have d5 : (xs 5) = .pointer (some ⟨bb, o + 4, none⟩) := hV 5 (by decide)
  have d6 : (xs 6) = .int .u8 row := hV 6 (by decide)
  have d7 : (xs 7) = .int .i64 row := hV 7 (by decide)
  have d8 : (xs 8) = .slice (some ⟨bb, o, none⟩) n c := hV 8 (by decide)
  have d9 : (xs 9) = .pointer (some ⟨bb, o + 5, none⟩) := hV 9 (by decide)
  have d10 : (xs 10) = .int .u8 part := hV 10 (by decide)
  have d11 : (xs 11) = .int .i64 part := hV 11 (by decide)
  have d12 : (xs 12) = .slice (some ⟨bb, o, none⟩) n c := hV 12 (by decide)
  have d13 : (xs 13) = .pointer (some ⟨bb, o + 6, none⟩) := hV 13 (by decide)
  have d14 : (xs 14) = .int .u8 s6 := hV 14 (by decide)
  have d15 : (xs 15) = .bool (s6 == 1) := hV 15 (by decide)
  have d16 : (xs 16) = .slice (some ⟨bb, o, none⟩) n c := hV 16 (by decide)
  have d17 : (xs 17) = .slice (some ⟨bb, o, none⟩) n c := hV 17 (by decide)
  have d18 : (xs 18) = .int .i64 n := hV 18 (by decide)
  have d19 : (xs 19) = .int .i64 ((n - 2 : Nat) : Int) := hV 19 (by decide)
  have d20 : (xs 20) = .slice (some ⟨bb, o + 7, none⟩) (n - 9) (c - 7) := hV 20 (by decide)
  have d21 : ∃ (ax : Option Addr) (cx : Nat), (xs 21) = .slice ax (n - 9) cx ∧ wx.ownsRow wA.heap.size 5 1 (.slice ax (n - 9) cx) (n - 9) (zs.map (Value.int .u8)) := hV 21 (by decide)
  have d22 : ∃ (ax : Option Addr) (cx : Nat), (xs 22) = .agg #[.int .i64 num, .int .i64 fr, .int .i64 row, .int .i64 part, .bool (s6 == 1), .slice ax (n - 9) cx] ∧ wx.ownsRow wA.heap.size 5 1 (.slice ax (n - 9) cx) (n - 9) (zs.map (Value.int .u8)) := hV 22 (by decide)
  have d23 : ∃ (q : Nat) (x0 x1 x2 x3 x4 x5 : Value), (xs 23) = .pointer (some ⟨q, 0, none⟩) ∧ wA.heap.size ≤ q ∧ wx.heap[q]? = some (.cells #[x0, x1, x2, x3, x4, x5] 27 (0, 0)) := hV 23 (by decide)
  have d24 : ∃ (q : Nat) (ax : Option Addr) (cx : Nat), (xs 23) = .pointer (some ⟨q, 0, none⟩) ∧ wA.heap.size ≤ q ∧ wx.heap[q]? = some (.cells #[.int .i64 num, .int .i64 fr, .int .i64 row, .int .i64 part, .bool (s6 == 1), .slice ax (n - 9) cx] 27 (0, 0)) ∧ wx.ownsRow wA.heap.size 5 1 (.slice ax (n - 9) cx) (n - 9) (zs.map (Value.int .u8)) := hV 24 (by decide)
  clear hV
  simp only [patchS, Nat.reduceAdd, Nat.reduceEqDiff, ↓reduceIte]
  generalize xs 0 = y0 at *
  generalize xs 1 = y1 at *
  generalize xs 2 = y2 at *
  generalize xs 3 = y3 at *
  generalize xs 4 = y4 at *
  generalize xs 5 = y5 at *
  generalize xs 6 = y6 at *
  generalize xs 7 = y7 at *
  generalize xs 8 = y8 at *
  generalize xs 9 = y9 at *
  generalize xs 10 = y10 at *
  generalize xs 11 = y11 at *
  generalize xs 12 = y12 at *
  generalize xs 13 = y13 at *
  generalize xs 14 = y14 at *
  generalize xs 15 = y15 at *
  generalize xs 16 = y16 at *
  generalize xs 17 = y17 at *
  generalize xs 18 = y18 at *
  generalize xs 19 = y19 at *
  generalize xs 20 = y20 at *
  generalize xs 21 = y21 at *
  generalize xs 22 = y22 at *
  generalize xs 23 = y23 at *
  generalize xs 24 = y24 at *
  replace hG : Ext wA wx := hG
  clear d0 d1 d2 d3 d4 d5 d6 d7 d8 d9 d10 d11 d12 d13 d14 d15 d16 d17 d18 d19 d20 d21 d22
  obtain ⟨q, x0, x1, x2, x3, x4, x5, rfl, hq, hqb⟩ := d23
  obtain ⟨q2, a24, c24, hq2, hq3, hq4, o24⟩ := d24
  simp only [Value.pointer.injEq, Option.some.injEq, Addr.mk.injEq, and_true] at hq2
  subst hq2
  have EB : Ext w wx := EA.trans hG
  have pB := hG.blk pA
  have hsz : w.heap.size < wA.heap.size := lt_of_block pA
  clear hG pA hqb EA hq3 x0 x1 x2 x3 x4 x5 g4 g5 g6 rM v4 v5
  generalize wx = w1 at *
  have HQ := Lib.hid hq
  obtain ⟨z, m0, m1, m2, m3, m4, m5⟩ := bx6 hq4
  have rB := r.ext EB
  go_wp2_with fail
  have hPB := impl_PacketBytes_any ⟨num, fr, row, part, s6 == 1, zs⟩ a24 c24 w1 (by have := Sl.of_owns o24; rw [← HD7.out] at this; exact this) Hzb.out
  simp only [pkV, HD7.out] at hPB
  refine hPB.mono ?_
  rintro e w2 ⟨a2, c2, rfl, own2, e2⟩
  have e2' := EB.trans e2
  have p2 := e2.blk pB
  have q2 := e2.blk hq4
  have o2 := owns_ext o24 e2
  have r2 := rB.ext e2
  clear hPB e2 pB hq4 o24 rB m0 m1 m2 m3 m4 m5 z EB
  obtain ⟨PB, hPB⟩ : ∃ PB, PB = pby ⟨num, fr, row, part, s6 == 1, zs⟩ := ⟨_, rfl⟩
  rw [← hPB] at own2
  rw [← hPB]
  have hcv := conv_own w2 _ a2 _ c2 _ own2
  have hcl := conv_sl w2 _ n c l r2 (by omega)
  have HPB := Lib.hid hPB
  have hbb : bys PB := by rw [hPB]; exact pby_bys Hzb.out
  clear own2 r2 hPB
  go_wp2_with fail
  refine (bytes_Equal_any _ _ PB l w2 hbb Hb.out hcv hcl).mono ?_
  rintro e w3 ⟨rfl, rfl⟩
  have hpe : parse l = ⟨num, fr, row, part, s6 == 1, zs⟩ := by
    rw [← Hp.out]
    simp only [Pkt.mk.injEq, true_and, and_true]
    rw [HD5.out]; rfl
  by_cases hok : PB = l
  · have hrd : rdOk l := (rd_iff Hb.out (by rw [Hl.out]; exact hs2)).1 (by rw [hpe, ← HPB.out]; exact hok)
    have HR := Lib.hid hrd
    have HE := Lib.hid hpe
    rw [decide_eq_true hok]
    obtain ⟨y, n0, n1, n2, n3, n4, n5⟩ := bx6 q2
    obtain ⟨f0, f1, f2, f3, f4, f5⟩ := fz6 p2
    obtain ⟨y', k0, k1, k2, k3, k4, k5⟩ := bx6 p2
    have P2 := Lib.hid p2
    have O2 := Lib.hid o2
    clear hok hrd hpe hcv hcl p2 q2 o2 hbb
    go_wp2_with fail
    refine bodyPost_ret (results_ct_row rfl _ _ w.heap.size 27 #[.int .i64 num, .int .i64 fr, .int .i64 row, .int .i64 part, .bool (s6 == 1), .slice a24 (n - 9) c24] (0, 0) _ rfl (blk_set6 P2.out) Try.underlying27 rfl size_Packet) rfl ?_
    unfold RdR
    rw [rdP_yes HR.out, decide_eq_true HR.out, HE.out]
    simp only [HD7.out]
    have gS := grown_set6 w2 w.heap.size (.int .i64 num) (.int .i64 fr) (.int .i64 row) (.int .i64 part) (.bool (s6 == 1)) (.slice a24 (n - 9) c24)
    refine ⟨a24, c24, rfl, owns_mono (O2.out.kept gS ?_) (Nat.le_of_lt hsz), Ext.grown e2' gS (fun k hk => by cases hk; exact Nat.le_refl _)⟩
    cases hv : (Value.slice a24 (n - 9) c24).ownBlock with
    | none => exact .inl rfl
    | some k => right; intro e; cases e; have := owns_ge O2.out _ hv; omega
  · have hrd : ¬ rdOk l := fun h => hok (by rw [HPB.out, ← hpe]; exact (rd_iff Hb.out h.1).2 h)
    have HR := Lib.hid hrd
    rw [decide_eq_false hok]
    obtain ⟨f0, f1, f2, f3, f4, f5⟩ := fz6 p2
    obtain ⟨y', k0, k1, k2, k3, k4, k5⟩ := bx6 p2
    have P2 := Lib.hid p2
    clear hok hrd hpe hcv hcl p2 q2 o2 hbb
    go_wp2_with fail
    refine bodyPost_ret (results_ct_row rfl _ _ w.heap.size 27 #[.int .i64 0, .int .i64 0, .int .i64 0, .int .i64 0, .bool false, .slice none 0 0] (0, 0) _ rfl (blk_set6 P2.out) Try.underlying27 rfl size_Packet) rfl ?_
    unfold RdR
    rw [rdP_no HR.out, decide_eq_false HR.out]
    exact ⟨none, 0, rfl, World.ownsRow_nil _ _ _ _, Ext.grown e2' (grown_set6 w2 w.heap.size _ _ _ _ _ _) (fun k hk => by cases hk; exact Nat.le_refl _)⟩
theorem impl_ReadPacket_any (a : Option Addr) (c n : Nat) (l : List Int) (w : World) (hn : n ≤ c ∧ c ≤ 9223372036854775807) (hn2 : n < 2^45) (r : Sl w a n (l.map (Value.int .u8))) (hb : bys l) :
    Calls Try.prog 23 #[.slice a n c] w (RdR w l) := by
  by_cases h : n < 10
  · exact impl_ReadPacket_short a c n l w h r
  · exact impl_ReadPacket_long a c n l w (by omega) hn hn2 r hb
end Go.Proofs.Ytpjjadmjdafkeaa
