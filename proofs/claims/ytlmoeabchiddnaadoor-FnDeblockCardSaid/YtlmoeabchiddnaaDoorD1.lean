/- The reader of drawn numbers: l20Open, pick, odd. -/
import Derived.Test.YtlmoeabchiddnaaDoorA2
import Derived.Test.YtlmoeabchiddnaaDoorRegion
import Derived.Test.YtlmoeabchiddnaaDoorBits
namespace Go.Proofs.YtlmoeabchiddnaaDoor
open Go.RowKit
set_option maxHeartbeats 400000

/-- Block b is a reader of some bytes, at position p. -/
def Rd (w : World) (b : Nat) (p : Nat) : Prop :=
  ∃ (a : Option Addr) (m c : Nat) (zs : List Int), w.heap[b]? = some (.cells #[.slice a m c, .int .i64 p] 121 (0, 0)) ∧ m ≤ 2000 ∧ Sl w a m (zs.map (Value.int .u8)) ∧ (m = 0 ∨ ∀ x, a = some x → x.block < b) ∧ ∀ z ∈ zs, 0 ≤ z ∧ z ≤ 255

theorem Rd.ext {w w' : World} {b p : Nat} (h : Rd w b p) (e : Ext w w') : Rd w' b p := by
  obtain ⟨a, m, c, zs, h1, h2, h3, h4⟩ := h
  exact ⟨a, m, c, zs, e.blk h1, h2, h3.ext e, h4⟩
theorem Rd.lt {w : World} {b p : Nat} (h : Rd w b p) : b < w.heap.size := by
  obtain ⟨a, m, c, zs, h1, -⟩ := h
  exact lt_of_block h1
theorem nth_byte {zs : List Int} (h : ∀ z ∈ zs, 0 ≤ z ∧ z ≤ 255) (i : Nat) : 0 ≤ nth zs i ∧ nth zs i ≤ 255 := by
  by_cases hi : i < zs.length
  · rw [nth_eq zs i hi]; exact h _ (List.getElem_mem hi)
  · simp [nth, hi]

theorem open_any (a : Option Addr) (c n : Nat) (zs : List Int) (w : World) (hc : n ≤ c) (hc2 : c ≤ 9223372036854775807) (r : Sl w a n (zs.map (Value.int .u8))) (hz : ∀ z ∈ zs, 0 ≤ z ∧ z ≤ 255) :
    Calls Tryd.prog 61 #[.slice a n c] w fun e w' => ∃ b, e = .returned (.pointer (some ⟨b, 0, none⟩)) ∧ Rd w' b 0 ∧ Ext w w' ∧ w.heap.size ≤ b := by
  have ne : ∀ (k : Nat) (zz : List Value), Sl w a k zz → ∀ x, a = some x → k ≠ 0 → x.block < w.heap.size := by
    intro k zz s x hx hk
    obtain ⟨b1, o1, h1, h2⟩ := s.2 0 (by omega)
    rw [hx] at h1
    simp only [Option.some.injEq] at h1
    subst h1
    have := World.block_lt_of_cell? w _ h2
    simp at this ⊢
    omega
  by_cases h : 2000 < n
  · obtain ⟨b1, o1, rfl, -⟩ := r.2 0 (by omega)
    have NE := Lib.hid ne
    clear ne
    go_enter Tryd.func61, Tryd.ntmps61
    go_wp2
    go_ret
    have rt : Sl w (some ⟨b1, o1, none⟩) 2000 ((zs.take 2000).map (Value.int .u8)) := by
      refine ⟨by have := r.int_len; simp; omega, fun i hi => ?_⟩
      obtain ⟨b2, o2, h2, h3⟩ := r.int (show i < n by omega)
      refine ⟨b2, o2, h2, ?_⟩
      rw [h3, getD_map_int _ _ _ (by have := r.int_len; simp; omega)]
      simp [nth, hi]
    exact ⟨_, rfl, ⟨some ⟨b1, o1, none⟩, 2000, c, zs.take 2000, blk_new _ _, by omega, rt.ext ((Below.refl _ _).alloc (Nat.le_refl _) _), .inr fun x hx => NE.out n _ r x hx (by omega), fun z hz' => hz z (List.mem_of_mem_take hz')⟩, (Below.refl _ _).alloc (Nat.le_refl _) _, Nat.le_refl _⟩
  · have NE := Lib.hid ne
    clear ne
    go_enter Tryd.func61, Tryd.ntmps61
    go_wp2
    go_ret
    exact ⟨_, rfl, ⟨a, n, c, zs, blk_new _ _, by omega, r.ext ((Below.refl _ _).alloc (Nat.le_refl _) _), by
      by_cases h0 : n = 0
      · exact .inl h0
      · exact .inr fun x hx => NE.out n _ r x hx h0, hz⟩, (Below.refl _ _).alloc (Nat.le_refl _) _, Nat.le_refl _⟩

theorem set_reader {w : World} {b p m c : Nat} {a : Option Addr} {zs : List Int} (h1 : w.heap[b]? = some (.cells #[.slice a m c, .int .i64 p] 121 (0, 0))) (h2 : m ≤ 2000) (h3 : Sl w a m (zs.map (Value.int .u8)))
    (h4 : m = 0 ∨ ∀ x, a = some x → x.block < b) (h5 : ∀ z ∈ zs, 0 ≤ z ∧ z ≤ 255) : Rd (w.setCell ⟨b, 1, none⟩ (.int .i64 ((p : Int) + 1))) b (p + 1) ∧ w.grownBy (w.setCell ⟨b, 1, none⟩ (.int .i64 ((p : Int) + 1))) (some b) := by
  have g : w.grownBy (w.setCell ⟨b, 1, none⟩ (.int .i64 ((p : Int) + 1))) (some b) :=
    ⟨rfl, rfl, rfl, by simp, fun k _ hk => heap_setCell_other w ⟨b, 1, none⟩ k _ (fun e => hk (by simp [e]))⟩
  refine ⟨⟨a, m, c, zs, ?_, h2, ?_, h4, h5⟩, g⟩
  · rw [heap_setCell_same w b 1 _ _ _ h1]
    simp
  · rcases h4 with h4 | h4
    · subst h4
      exact ⟨h3.1, fun i hi => by omega⟩
    · exact h3.grown g (fun x hx e => by have := h4 x hx; simp at e; omega)
theorem grown_set {w wx : World} {r : Option Nat} {q j : Nat} {v : Value} (g : w.grownBy wx r) (hq : w.heap.size ≤ q) : w.grownBy (wx.setCell ⟨q, j, none⟩ v) r :=
  ⟨g.os, g.tape, g.output, by simpa using g.size, fun i hi hne => by rw [heap_setCell_other wx ⟨q, j, none⟩ i v (by simp; omega)]; exact g.block i hi hne⟩
theorem Rd.set {w : World} {b p q j : Nat} {v : Value} (h : Rd w b p) (hq : b < q) : Rd (w.setCell ⟨q, j, none⟩ v) b p := by
  obtain ⟨a, m, c, zs, h1, h2, h3, h4, h5⟩ := h
  refine ⟨a, m, c, zs, blk_set_other h1 (by omega), h2, ?_, h4, h5⟩
  rcases h4 with h4 | h4
  · subst h4; exact ⟨h3.1, fun i hi => by omega⟩
  · have g : w.grownBy (w.setCell ⟨q, j, none⟩ v) (some q) := ⟨rfl, rfl, rfl, by simp, fun k _ hk => heap_setCell_other w ⟨q, j, none⟩ k _ (fun e => hk (by simp [e]))⟩
    exact h3.grown g (fun x hx e => by have := h4 x hx; simp at e; omega)
/-- pick: a number below n; the reader is one place further. -/
theorem pick_none (b : Nat) (p : Nat) (n : Int) (w : World) (hp : p < 2^40) (_hn0 : -1000000000 ≤ n) (hn : n < 1) (h : Rd w b p) :
    Calls Tryd.prog 62 #[.pointer (some ⟨b, 0, none⟩), .int .i64 n] w fun e w' => ∃ x : Int, e = .returned (.int .i64 x) ∧ x = 0 ∧ Rd w' b (p + 1) ∧ w.grownBy w' (some b) := by
  obtain ⟨a, m, c, zs, h1, h2, h3, h4, h5⟩ := h
  obtain ⟨g1, g2, g3, g4, g5⟩ := bx2 h1
  go_enter Tryd.func62, Tryd.ntmps62
  go_wp2
  go_ret
  have hr := set_reader h1 h2 h3 h4 h5
  exact ⟨0, rfl, rfl, hr.1, hr.2⟩
set_option maxHeartbeats 4000000 in
theorem pick_some (b : Nat) (p : Nat) (n : Int) (w : World) (hp : p < 2^40) (hn0 : 1 ≤ n) (hn : n ≤ 1000000000) (h : Rd w b p) :
    Calls Tryd.prog 62 #[.pointer (some ⟨b, 0, none⟩), .int .i64 n] w fun e w' => ∃ x : Int, e = .returned (.int .i64 x) ∧ 0 ≤ x ∧ x < n ∧ Rd w' b (p + 1) ∧ w.grownBy w' (some b) := by
  obtain ⟨a, m, c, zs, h1, h2, h3, h4, h5⟩ := h
  obtain ⟨g1, g2, g3, g4, g5⟩ := bx2 h1
  by_cases hm : m = 0
  · have hb : ((m : Int) == 0) = true := by simp; omega
    go_enter Tryd.func62, Tryd.ntmps62
    go_wp2
    go_ret
    have hr := set_reader h1 h2 h3 h4 h5
    exact ⟨0, rfl, by omega, by omega, hr.1, hr.2⟩
  · have hb : ((m : Int) == 0) = false := by simp; omega
    have hr := set_reader h1 h2 h3 h4 h5
    have hbd := fun i => nth_byte h5 i
    by_cases hk : p < m
    · obtain ⟨b1, o1, rfl, c1⟩ := h3.int hk
      have hne : ¬ b1 = b := by
        rcases h4 with h4 | h4
        · omega
        · have := h4 _ rfl; simp at this; omega
      have hB := hbd p
      have HR := Lib.hid hr
      clear hr h4 hbd h5 h3
      go_enter Tryd.func62, Tryd.ntmps62
      go_wp2
      go_ret
      exact ⟨_, rfl, Int.emod_nonneg _ (by omega), Int.emod_lt_of_pos _ (by omega), HR.out.1, HR.out.2⟩
    · have hm1 : 0 < m := by omega
      obtain ⟨q, hq⟩ : ∃ q, q = p % m := ⟨_, rfl⟩
      obtain ⟨r, hr2⟩ : ∃ r, r = (p * 7 + 3) % m := ⟨_, rfl⟩
      have hqm : q < m := by rw [hq]; exact Nat.mod_lt p hm1
      have hrm : r < m := by rw [hr2]; exact Nat.mod_lt _ hm1
      have hqi : (p : Int) % (m : Int) = (q : Int) := by rw [hq]; simp
      have hri : ((p : Int) * 7 + 3) % (m : Int) = (r : Int) := by rw [hr2]; simp
      obtain ⟨d, hdi⟩ : ∃ d, d = (p : Int) / (m : Int) := ⟨_, rfl⟩
      have hd0 : 0 ≤ d := by rw [hdi]; exact Int.ediv_nonneg (by omega) (by omega)
      have hd1 : d ≤ p := by rw [hdi]; exact Int.ediv_le_self _ (by omega)
      obtain ⟨b1, o1, rfl, c1⟩ := h3.int hqm
      obtain ⟨b2, o2, ha2, c2⟩ := h3.int hrm
      simp only [Option.some.injEq, Addr.mk.injEq, and_true] at ha2
      obtain ⟨rfl, rfl⟩ := ha2
      have hne : ¬ b1 = b := by
        rcases h4 with h4 | h4
        · omega
        · have := h4 _ rfl; simp at this; omega
      obtain ⟨hB0, hB1⟩ := hbd q
      obtain ⟨hC0, hC1⟩ := hbd r
      generalize nth zs q = X at c1 hB0 hB1
      generalize nth zs r = Y at c2 hC0 hC1
      have HR := Lib.hid hr
      have Hqi := Lib.hid hqi
      have Hri := Lib.hid hri
      have Hdi := Lib.hid hdi
      clear hr h4 hbd h5 h3 hq hr2 hqi hri hdi
      have K0 := Lib.hid (show (w.setCell ⟨b, 1, none⟩ (.int .i64 ((p : Int) + 1))).cell? ⟨b, 0, none⟩ = some (.slice (some ⟨b1, o1, none⟩) m c) from by rw [World.cell?_setCell_other _ _ _ _ (by intro e; simp at e)]; exact g2)
      have K1 := Lib.hid (show (w.setCell ⟨b, 1, none⟩ (.int .i64 ((p : Int) + 1))).cell? ⟨b1, o1 + q, none⟩ = some (.int .u8 X) from by rw [World.cell?_setCell_other _ _ _ _ (by intro e; simp at e <;> omega)]; exact c1)
      have K2 := Lib.hid (show (w.setCell ⟨b, 1, none⟩ (.int .i64 ((p : Int) + 1))).cell? ⟨b1, o1 + r, none⟩ = some (.int .u8 Y) from by rw [World.cell?_setCell_other _ _ _ _ (by intro e; simp at e <;> omega)]; exact c2)
      go_enter Tryd.func62, Tryd.ntmps62
      go_wp2
      generalize w.setCell ⟨b, 1, none⟩ (.int .i64 ((p : Int) + 1)) = W1 at *
      have k0 := K0.out
      have k1 := K1.out
      have k2 := K2.out
      clear K0 K1 K2 g1 g2 g3 g4 g5 c1 c2
      refine wp_region_inv2 (by kernel_rfl) [(6, 45), (47, 0), (48, 1), (49, 2), (50, 3), (51, 4), (52, 5), (53, 6), (54, 7), (55, 8), (56, 9), (57, 10), (58, 11), (59, 12), (60, 13), (61, 14), (62, 15), (63, 16), (64, 17), (65, 18), (66, 19), (67, 20), (68, 21), (69, 22), (70, 23), (71, 24), (72, 25), (73, 26), (74, 27), (75, 28), (76, 29), (77, 30), (78, 31), (79, 32), (80, 33), (81, 34), (82, 35), (83, 36), (84, 37), (85, 38), (86, 39), (87, 40), (88, 41), (89, 42), (90, 43), (91, 44)] [[], [0], [0, 1], [0, 1, 2], [], [], [5], [5, 6], [5, 6, 7], [5, 6, 7, 8], [4, 5, 6, 7, 8, 9], [0, 1, 2, 3, 4, 5, 6, 7, 8, 9, 10], [0, 1, 2, 3, 4, 5, 6, 7, 8, 9, 10, 11], [0, 1, 2, 3, 4, 5, 6, 7, 8, 9, 10, 11, 12], [0, 1, 2, 3, 4, 5, 6, 7, 8, 9, 10, 11, 12, 13], [], [15], [15, 16], [15, 16, 17], [], [19], [19, 20], [], [22], [22, 23], [22, 23, 24], [22, 23, 24, 25], [19, 20, 21, 22, 23, 24, 25, 26], [15, 16, 17, 18, 19, 20, 21, 22, 23, 24, 25, 26, 27], [15, 16, 17, 18, 19, 20, 21, 22, 23, 24, 25, 26, 27, 28], [15, 16, 17, 18, 19, 20, 21, 22, 23, 24, 25, 26, 27, 28, 29], [15, 16, 17, 18, 19, 20, 21, 22, 23, 24, 25, 26, 27, 28, 29, 30], [0, 1, 2, 3, 4, 5, 6, 7, 8, 9, 10, 11, 12, 13, 14, 15, 16, 17, 18, 19, 20, 21, 22, 23, 24, 25, 26, 27, 28, 29, 30, 31], [], [33], [0, 1, 2, 3, 4, 5, 6, 7, 8, 9, 10, 11, 12, 13, 14, 15, 16, 17, 18, 19, 20, 21, 22, 23, 24, 25, 26, 27, 28, 29, 30, 31, 32, 33, 34], [], [], [37], [37, 38], [37, 38, 39], [37, 38, 39, 40], [36, 37, 38, 39, 40, 41], [36, 37, 38, 39, 40, 41, 42], [0, 1, 2, 3, 4, 5, 6, 7, 8, 9, 10, 11, 12, 13, 14, 15, 16, 17, 18, 19, 20, 21, 22, 23, 24, 25, 26, 27, 28, 29, 30, 31, 32, 33, 34, 35, 36, 37, 38, 39, 40, 41, 42, 43], [0, 1, 2, 3, 4, 5, 6, 7, 8, 9, 10, 11, 12, 13, 14, 15, 16, 17, 18, 19, 20, 21, 22, 23, 24, 25, 26, 27, 28, 29, 30, 31, 32, 33, 34, 35, 36, 37, 38, 39, 40, 41, 42, 43, 44]] (fun i own ys wx => match i with | 0 => own = .pointer (some ⟨b, 0, none⟩) | 1 => own = .pointer (some ⟨b, 0, none⟩) | 2 => own = .pointer (some ⟨b, 0, none⟩) | 3 => own = .slice (some ⟨b1, o1, none⟩) m c | 4 => own = .int .i64 p | 5 => own = .pointer (some ⟨b, 0, none⟩) | 6 => own = .pointer (some ⟨b, 0, none⟩) | 7 => own = .pointer (some ⟨b, 0, none⟩) | 8 => own = .slice (some ⟨b1, o1, none⟩) m c | 9 => own = .int .i64 m | 10 => own = .int .i64 q | 11 => own = .pointer (some ⟨b1, o1 + q, none⟩) | 12 => own = .int .u8 X | 13 => own = .int .i64 X | 14 => own = .int .i64 (X * 131) | 15 => own = .pointer (some ⟨b, 0, none⟩) | 16 => own = .pointer (some ⟨b, 0, none⟩) | 17 => own = .pointer (some ⟨b, 0, none⟩) | 18 => own = .slice (some ⟨b1, o1, none⟩) m c | 19 => own = .int .i64 p | 20 => own = .int .i64 ((p : Int) * 7) | 21 => own = .int .i64 ((p : Int) * 7 + 3) | 22 => own = .pointer (some ⟨b, 0, none⟩) | 23 => own = .pointer (some ⟨b, 0, none⟩) | 24 => own = .pointer (some ⟨b, 0, none⟩) | 25 => own = .slice (some ⟨b1, o1, none⟩) m c | 26 => own = .int .i64 m | 27 => own = .int .i64 r | 28 => own = .pointer (some ⟨b1, o1 + r, none⟩) | 29 => own = .int .u8 Y | 30 => own = .int .i64 Y | 31 => own = .int .i64 (Y * 1117) | 32 => own = .int .i64 (X * 131 + Y * 1117) | 33 => own = .int .i64 p | 34 => own = .int .i64 ((p : Int) * 29) | 35 => own = .int .i64 (X * 131 + Y * 1117 + (p : Int) * 29) | 36 => own = .int .i64 p | 37 => own = .pointer (some ⟨b, 0, none⟩) | 38 => own = .pointer (some ⟨b, 0, none⟩) | 39 => own = .pointer (some ⟨b, 0, none⟩) | 40 => own = .slice (some ⟨b1, o1, none⟩) m c | 41 => own = .int .i64 m | 42 => own = .int .i64 d | 43 => own = .int .i64 (d * 53) | 44 => own = .int .i64 (X * 131 + Y * 1117 + (p : Int) * 29 + d * 53) | 45 => own = .int .i64 (X * 131 + Y * 1117 + (p : Int) * 29 + d * 53) | _ => True) (fun kx wx => Ext W1 wx) (by kernel_rfl) (by kernel_rfl) (by kernel_rfl) ?g0_r1 ?gop_r1 ?gend_r1
      case g0_r1 => exact Ext.drewN _ 1
      case gop_r1 =>
        refine ⟨?_, ?_, ?_, ?_, ?_, ?_, ?_, ?_, ?_, ?_, ?_, ?_, ?_, ?_, ?_, ?_, ?_, ?_, ?_, ?_, ?_, ?_, ?_, ?_, ?_, ?_, ?_, ?_, ?_, ?_, ?_, ?_, ?_, ?_, ?_, ?_, ?_, ?_, ?_, ?_, ?_, ?_, ?_, ?_, ?_, ?_, trivial⟩
        · intro kx xs wx hk hG hD hI Qo Kx hK hQo
          clear hD
          clear hI
          simp only [patchS, Nat.reduceAdd, Nat.reduceEqDiff, ↓reduceIte] at hQo ⊢
          go_wp2
          exact hK.out _ _ ⟨rfl, hG, fun _ _ _ _ _ _ h => h⟩
        · intro kx xs wx hk hG hD hI Qo Kx hK hQo
          have d0 : (xs 0) = .pointer (some ⟨b, 0, none⟩) := hD 0 rfl
          clear hD
          clear hI
          simp only [patchS, Nat.reduceAdd, Nat.reduceEqDiff, ↓reduceIte] at hQo ⊢
          generalize xs 0 = y0 at *
          subst d0
          go_wp2
          exact hK.out _ _ ⟨rfl, hG, fun _ _ _ _ _ _ h => h⟩
        · intro kx xs wx hk hG hD hI Qo Kx hK hQo
          have d1 : (xs 1) = .pointer (some ⟨b, 0, none⟩) := hD 1 rfl
          clear hD
          clear hI
          simp only [patchS, Nat.reduceAdd, Nat.reduceEqDiff, ↓reduceIte] at hQo ⊢
          generalize xs 1 = y1 at *
          subst d1
          go_wp2
          exact hK.out _ _ ⟨rfl, hG, fun _ _ _ _ _ _ h => h⟩
        · intro kx xs wx hk hG hD hI Qo Kx hK hQo
          have d2 : (xs 2) = .pointer (some ⟨b, 0, none⟩) := hD 2 rfl
          clear hD
          clear hI
          simp only [patchS, Nat.reduceAdd, Nat.reduceEqDiff, ↓reduceIte] at hQo ⊢
          generalize xs 2 = y2 at *
          subst d2
          have k0' := cell_ext hG k0
          go_wp2
          exact hK.out _ _ ⟨rfl, hG, fun _ _ _ _ _ _ h => h⟩
        · intro kx xs wx hk hG hD hI Qo Kx hK hQo
          clear hD
          clear hI
          simp only [patchS, Nat.reduceAdd, Nat.reduceEqDiff, ↓reduceIte] at hQo ⊢
          go_wp2
          exact hK.out _ _ ⟨rfl, hG, fun _ _ _ _ _ _ h => h⟩
        · intro kx xs wx hk hG hD hI Qo Kx hK hQo
          clear hD
          clear hI
          simp only [patchS, Nat.reduceAdd, Nat.reduceEqDiff, ↓reduceIte] at hQo ⊢
          go_wp2
          exact hK.out _ _ ⟨rfl, hG, fun _ _ _ _ _ _ h => h⟩
        · intro kx xs wx hk hG hD hI Qo Kx hK hQo
          have d5 : (xs 5) = .pointer (some ⟨b, 0, none⟩) := hD 5 rfl
          clear hD
          clear hI
          simp only [patchS, Nat.reduceAdd, Nat.reduceEqDiff, ↓reduceIte] at hQo ⊢
          generalize xs 5 = y5 at *
          subst d5
          go_wp2
          exact hK.out _ _ ⟨rfl, hG, fun _ _ _ _ _ _ h => h⟩
        · intro kx xs wx hk hG hD hI Qo Kx hK hQo
          have d6 : (xs 6) = .pointer (some ⟨b, 0, none⟩) := hD 6 rfl
          clear hD
          clear hI
          simp only [patchS, Nat.reduceAdd, Nat.reduceEqDiff, ↓reduceIte] at hQo ⊢
          generalize xs 6 = y6 at *
          subst d6
          go_wp2
          exact hK.out _ _ ⟨rfl, hG, fun _ _ _ _ _ _ h => h⟩
        · intro kx xs wx hk hG hD hI Qo Kx hK hQo
          have d7 : (xs 7) = .pointer (some ⟨b, 0, none⟩) := hD 7 rfl
          clear hD
          clear hI
          simp only [patchS, Nat.reduceAdd, Nat.reduceEqDiff, ↓reduceIte] at hQo ⊢
          generalize xs 7 = y7 at *
          subst d7
          have k0' := cell_ext hG k0
          go_wp2
          exact hK.out _ _ ⟨rfl, hG, fun _ _ _ _ _ _ h => h⟩
        · intro kx xs wx hk hG hD hI Qo Kx hK hQo
          have d8 : (xs 8) = .slice (some ⟨b1, o1, none⟩) m c := hD 8 rfl
          clear hD
          clear hI
          simp only [patchS, Nat.reduceAdd, Nat.reduceEqDiff, ↓reduceIte] at hQo ⊢
          generalize xs 8 = y8 at *
          subst d8
          go_wp2
          exact hK.out _ _ ⟨rfl, hG, fun _ _ _ _ _ _ h => h⟩
        · intro kx xs wx hk hG hD hI Qo Kx hK hQo
          have d4 : (xs 4) = .int .i64 p := hD 4 rfl
          have d9 : (xs 9) = .int .i64 m := hD 9 rfl
          clear hD
          clear hI
          simp only [patchS, Nat.reduceAdd, Nat.reduceEqDiff, ↓reduceIte] at hQo ⊢
          generalize xs 4 = y4 at *
          generalize xs 9 = y9 at *
          subst d4
          subst d9
          go_wp2
          exact hK.out _ _ ⟨by rw [Hqi.out], hG, fun _ _ _ _ _ _ h => h⟩
        · intro kx xs wx hk hG hD hI Qo Kx hK hQo
          have d3 : (xs 3) = .slice (some ⟨b1, o1, none⟩) m c := hD 3 rfl
          have d10 : (xs 10) = .int .i64 q := hD 10 rfl
          clear hD
          clear hI
          simp only [patchS, Nat.reduceAdd, Nat.reduceEqDiff, ↓reduceIte] at hQo ⊢
          generalize xs 3 = y3 at *
          generalize xs 10 = y10 at *
          subst d3
          subst d10
          go_wp2
          exact hK.out _ _ ⟨rfl, hG, fun _ _ _ _ _ _ h => h⟩
        · intro kx xs wx hk hG hD hI Qo Kx hK hQo
          have d11 : (xs 11) = .pointer (some ⟨b1, o1 + q, none⟩) := hD 11 rfl
          clear hD
          clear hI
          simp only [patchS, Nat.reduceAdd, Nat.reduceEqDiff, ↓reduceIte] at hQo ⊢
          generalize xs 11 = y11 at *
          subst d11
          have k0' := cell_ext hG k1
          go_wp2
          exact hK.out _ _ ⟨rfl, hG, fun _ _ _ _ _ _ h => h⟩
        · intro kx xs wx hk hG hD hI Qo Kx hK hQo
          have d12 : (xs 12) = .int .u8 X := hD 12 rfl
          clear hD
          clear hI
          simp only [patchS, Nat.reduceAdd, Nat.reduceEqDiff, ↓reduceIte] at hQo ⊢
          generalize xs 12 = y12 at *
          subst d12
          go_wp2
          exact hK.out _ _ ⟨rfl, hG, fun _ _ _ _ _ _ h => h⟩
        · intro kx xs wx hk hG hD hI Qo Kx hK hQo
          have d13 : (xs 13) = .int .i64 X := hD 13 rfl
          clear hD
          clear hI
          simp only [patchS, Nat.reduceAdd, Nat.reduceEqDiff, ↓reduceIte] at hQo ⊢
          generalize xs 13 = y13 at *
          subst d13
          go_wp2
          exact hK.out _ _ ⟨rfl, hG, fun _ _ _ _ _ _ h => h⟩
        · intro kx xs wx hk hG hD hI Qo Kx hK hQo
          clear hD
          clear hI
          simp only [patchS, Nat.reduceAdd, Nat.reduceEqDiff, ↓reduceIte] at hQo ⊢
          go_wp2
          exact hK.out _ _ ⟨rfl, hG, fun _ _ _ _ _ _ h => h⟩
        · intro kx xs wx hk hG hD hI Qo Kx hK hQo
          have d15 : (xs 15) = .pointer (some ⟨b, 0, none⟩) := hD 15 rfl
          clear hD
          clear hI
          simp only [patchS, Nat.reduceAdd, Nat.reduceEqDiff, ↓reduceIte] at hQo ⊢
          generalize xs 15 = y15 at *
          subst d15
          go_wp2
          exact hK.out _ _ ⟨rfl, hG, fun _ _ _ _ _ _ h => h⟩
        · intro kx xs wx hk hG hD hI Qo Kx hK hQo
          have d16 : (xs 16) = .pointer (some ⟨b, 0, none⟩) := hD 16 rfl
          clear hD
          clear hI
          simp only [patchS, Nat.reduceAdd, Nat.reduceEqDiff, ↓reduceIte] at hQo ⊢
          generalize xs 16 = y16 at *
          subst d16
          go_wp2
          exact hK.out _ _ ⟨rfl, hG, fun _ _ _ _ _ _ h => h⟩
        · intro kx xs wx hk hG hD hI Qo Kx hK hQo
          have d17 : (xs 17) = .pointer (some ⟨b, 0, none⟩) := hD 17 rfl
          clear hD
          clear hI
          simp only [patchS, Nat.reduceAdd, Nat.reduceEqDiff, ↓reduceIte] at hQo ⊢
          generalize xs 17 = y17 at *
          subst d17
          have k0' := cell_ext hG k0
          go_wp2
          exact hK.out _ _ ⟨rfl, hG, fun _ _ _ _ _ _ h => h⟩
        · intro kx xs wx hk hG hD hI Qo Kx hK hQo
          clear hD
          clear hI
          simp only [patchS, Nat.reduceAdd, Nat.reduceEqDiff, ↓reduceIte] at hQo ⊢
          go_wp2
          exact hK.out _ _ ⟨rfl, hG, fun _ _ _ _ _ _ h => h⟩
        · intro kx xs wx hk hG hD hI Qo Kx hK hQo
          have d19 : (xs 19) = .int .i64 p := hD 19 rfl
          clear hD
          clear hI
          simp only [patchS, Nat.reduceAdd, Nat.reduceEqDiff, ↓reduceIte] at hQo ⊢
          generalize xs 19 = y19 at *
          subst d19
          go_wp2
          exact hK.out _ _ ⟨rfl, hG, fun _ _ _ _ _ _ h => h⟩
        · intro kx xs wx hk hG hD hI Qo Kx hK hQo
          have d20 : (xs 20) = .int .i64 ((p : Int) * 7) := hD 20 rfl
          clear hD
          clear hI
          simp only [patchS, Nat.reduceAdd, Nat.reduceEqDiff, ↓reduceIte] at hQo ⊢
          generalize xs 20 = y20 at *
          subst d20
          go_wp2
          exact hK.out _ _ ⟨rfl, hG, fun _ _ _ _ _ _ h => h⟩
        · intro kx xs wx hk hG hD hI Qo Kx hK hQo
          clear hD
          clear hI
          simp only [patchS, Nat.reduceAdd, Nat.reduceEqDiff, ↓reduceIte] at hQo ⊢
          go_wp2
          exact hK.out _ _ ⟨rfl, hG, fun _ _ _ _ _ _ h => h⟩
        · intro kx xs wx hk hG hD hI Qo Kx hK hQo
          have d22 : (xs 22) = .pointer (some ⟨b, 0, none⟩) := hD 22 rfl
          clear hD
          clear hI
          simp only [patchS, Nat.reduceAdd, Nat.reduceEqDiff, ↓reduceIte] at hQo ⊢
          generalize xs 22 = y22 at *
          subst d22
          go_wp2
          exact hK.out _ _ ⟨rfl, hG, fun _ _ _ _ _ _ h => h⟩
        · intro kx xs wx hk hG hD hI Qo Kx hK hQo
          have d23 : (xs 23) = .pointer (some ⟨b, 0, none⟩) := hD 23 rfl
          clear hD
          clear hI
          simp only [patchS, Nat.reduceAdd, Nat.reduceEqDiff, ↓reduceIte] at hQo ⊢
          generalize xs 23 = y23 at *
          subst d23
          go_wp2
          exact hK.out _ _ ⟨rfl, hG, fun _ _ _ _ _ _ h => h⟩
        · intro kx xs wx hk hG hD hI Qo Kx hK hQo
          have d24 : (xs 24) = .pointer (some ⟨b, 0, none⟩) := hD 24 rfl
          clear hD
          clear hI
          simp only [patchS, Nat.reduceAdd, Nat.reduceEqDiff, ↓reduceIte] at hQo ⊢
          generalize xs 24 = y24 at *
          subst d24
          have k0' := cell_ext hG k0
          go_wp2
          exact hK.out _ _ ⟨rfl, hG, fun _ _ _ _ _ _ h => h⟩
        · intro kx xs wx hk hG hD hI Qo Kx hK hQo
          have d25 : (xs 25) = .slice (some ⟨b1, o1, none⟩) m c := hD 25 rfl
          clear hD
          clear hI
          simp only [patchS, Nat.reduceAdd, Nat.reduceEqDiff, ↓reduceIte] at hQo ⊢
          generalize xs 25 = y25 at *
          subst d25
          go_wp2
          exact hK.out _ _ ⟨rfl, hG, fun _ _ _ _ _ _ h => h⟩
        · intro kx xs wx hk hG hD hI Qo Kx hK hQo
          have d21 : (xs 21) = .int .i64 ((p : Int) * 7 + 3) := hD 21 rfl
          have d26 : (xs 26) = .int .i64 m := hD 26 rfl
          clear hD
          clear hI
          simp only [patchS, Nat.reduceAdd, Nat.reduceEqDiff, ↓reduceIte] at hQo ⊢
          generalize xs 21 = y21 at *
          generalize xs 26 = y26 at *
          subst d21
          subst d26
          go_wp2
          exact hK.out _ _ ⟨by rw [Hri.out], hG, fun _ _ _ _ _ _ h => h⟩
        · intro kx xs wx hk hG hD hI Qo Kx hK hQo
          have d18 : (xs 18) = .slice (some ⟨b1, o1, none⟩) m c := hD 18 rfl
          have d27 : (xs 27) = .int .i64 r := hD 27 rfl
          clear hD
          clear hI
          simp only [patchS, Nat.reduceAdd, Nat.reduceEqDiff, ↓reduceIte] at hQo ⊢
          generalize xs 18 = y18 at *
          generalize xs 27 = y27 at *
          subst d18
          subst d27
          go_wp2
          exact hK.out _ _ ⟨rfl, hG, fun _ _ _ _ _ _ h => h⟩
        · intro kx xs wx hk hG hD hI Qo Kx hK hQo
          have d28 : (xs 28) = .pointer (some ⟨b1, o1 + r, none⟩) := hD 28 rfl
          clear hD
          clear hI
          simp only [patchS, Nat.reduceAdd, Nat.reduceEqDiff, ↓reduceIte] at hQo ⊢
          generalize xs 28 = y28 at *
          subst d28
          have k0' := cell_ext hG k2
          go_wp2
          exact hK.out _ _ ⟨rfl, hG, fun _ _ _ _ _ _ h => h⟩
        · intro kx xs wx hk hG hD hI Qo Kx hK hQo
          have d29 : (xs 29) = .int .u8 Y := hD 29 rfl
          clear hD
          clear hI
          simp only [patchS, Nat.reduceAdd, Nat.reduceEqDiff, ↓reduceIte] at hQo ⊢
          generalize xs 29 = y29 at *
          subst d29
          go_wp2
          exact hK.out _ _ ⟨rfl, hG, fun _ _ _ _ _ _ h => h⟩
        · intro kx xs wx hk hG hD hI Qo Kx hK hQo
          have d30 : (xs 30) = .int .i64 Y := hD 30 rfl
          clear hD
          clear hI
          simp only [patchS, Nat.reduceAdd, Nat.reduceEqDiff, ↓reduceIte] at hQo ⊢
          generalize xs 30 = y30 at *
          subst d30
          go_wp2
          exact hK.out _ _ ⟨rfl, hG, fun _ _ _ _ _ _ h => h⟩
        · intro kx xs wx hk hG hD hI Qo Kx hK hQo
          have d14 : (xs 14) = .int .i64 (X * 131) := hD 14 rfl
          have d31 : (xs 31) = .int .i64 (Y * 1117) := hD 31 rfl
          clear hD
          clear hI
          simp only [patchS, Nat.reduceAdd, Nat.reduceEqDiff, ↓reduceIte] at hQo ⊢
          generalize xs 14 = y14 at *
          generalize xs 31 = y31 at *
          subst d14
          subst d31
          go_wp2
          exact hK.out _ _ ⟨rfl, hG, fun _ _ _ _ _ _ h => h⟩
        · intro kx xs wx hk hG hD hI Qo Kx hK hQo
          clear hD
          clear hI
          simp only [patchS, Nat.reduceAdd, Nat.reduceEqDiff, ↓reduceIte] at hQo ⊢
          go_wp2
          exact hK.out _ _ ⟨rfl, hG, fun _ _ _ _ _ _ h => h⟩
        · intro kx xs wx hk hG hD hI Qo Kx hK hQo
          have d33 : (xs 33) = .int .i64 p := hD 33 rfl
          clear hD
          clear hI
          simp only [patchS, Nat.reduceAdd, Nat.reduceEqDiff, ↓reduceIte] at hQo ⊢
          generalize xs 33 = y33 at *
          subst d33
          go_wp2
          exact hK.out _ _ ⟨rfl, hG, fun _ _ _ _ _ _ h => h⟩
        · intro kx xs wx hk hG hD hI Qo Kx hK hQo
          have d32 : (xs 32) = .int .i64 (X * 131 + Y * 1117) := hD 32 rfl
          have d34 : (xs 34) = .int .i64 ((p : Int) * 29) := hD 34 rfl
          clear hD
          clear hI
          simp only [patchS, Nat.reduceAdd, Nat.reduceEqDiff, ↓reduceIte] at hQo ⊢
          generalize xs 32 = y32 at *
          generalize xs 34 = y34 at *
          subst d32
          subst d34
          go_wp2
          exact hK.out _ _ ⟨rfl, hG, fun _ _ _ _ _ _ h => h⟩
        · intro kx xs wx hk hG hD hI Qo Kx hK hQo
          clear hD
          clear hI
          simp only [patchS, Nat.reduceAdd, Nat.reduceEqDiff, ↓reduceIte] at hQo ⊢
          go_wp2
          exact hK.out _ _ ⟨rfl, hG, fun _ _ _ _ _ _ h => h⟩
        · intro kx xs wx hk hG hD hI Qo Kx hK hQo
          clear hD
          clear hI
          simp only [patchS, Nat.reduceAdd, Nat.reduceEqDiff, ↓reduceIte] at hQo ⊢
          go_wp2
          exact hK.out _ _ ⟨rfl, hG, fun _ _ _ _ _ _ h => h⟩
        · intro kx xs wx hk hG hD hI Qo Kx hK hQo
          have d37 : (xs 37) = .pointer (some ⟨b, 0, none⟩) := hD 37 rfl
          clear hD
          clear hI
          simp only [patchS, Nat.reduceAdd, Nat.reduceEqDiff, ↓reduceIte] at hQo ⊢
          generalize xs 37 = y37 at *
          subst d37
          go_wp2
          exact hK.out _ _ ⟨rfl, hG, fun _ _ _ _ _ _ h => h⟩
        · intro kx xs wx hk hG hD hI Qo Kx hK hQo
          have d38 : (xs 38) = .pointer (some ⟨b, 0, none⟩) := hD 38 rfl
          clear hD
          clear hI
          simp only [patchS, Nat.reduceAdd, Nat.reduceEqDiff, ↓reduceIte] at hQo ⊢
          generalize xs 38 = y38 at *
          subst d38
          go_wp2
          exact hK.out _ _ ⟨rfl, hG, fun _ _ _ _ _ _ h => h⟩
        · intro kx xs wx hk hG hD hI Qo Kx hK hQo
          have d39 : (xs 39) = .pointer (some ⟨b, 0, none⟩) := hD 39 rfl
          clear hD
          clear hI
          simp only [patchS, Nat.reduceAdd, Nat.reduceEqDiff, ↓reduceIte] at hQo ⊢
          generalize xs 39 = y39 at *
          subst d39
          have k0' := cell_ext hG k0
          go_wp2
          exact hK.out _ _ ⟨rfl, hG, fun _ _ _ _ _ _ h => h⟩
        · intro kx xs wx hk hG hD hI Qo Kx hK hQo
          have d40 : (xs 40) = .slice (some ⟨b1, o1, none⟩) m c := hD 40 rfl
          clear hD
          clear hI
          simp only [patchS, Nat.reduceAdd, Nat.reduceEqDiff, ↓reduceIte] at hQo ⊢
          generalize xs 40 = y40 at *
          subst d40
          go_wp2
          exact hK.out _ _ ⟨rfl, hG, fun _ _ _ _ _ _ h => h⟩
        · intro kx xs wx hk hG hD hI Qo Kx hK hQo
          have d36 : (xs 36) = .int .i64 p := hD 36 rfl
          have d41 : (xs 41) = .int .i64 m := hD 41 rfl
          clear hD
          clear hI
          simp only [patchS, Nat.reduceAdd, Nat.reduceEqDiff, ↓reduceIte] at hQo ⊢
          generalize xs 36 = y36 at *
          generalize xs 41 = y41 at *
          subst d36
          subst d41
          go_wp2
          exact hK.out _ _ ⟨by rw [← Hdi.out]; first | rfl | (congr 1; exact IntWalk.wrap64_in d (by omega)), hG, fun _ _ _ _ _ _ h => h⟩
        · intro kx xs wx hk hG hD hI Qo Kx hK hQo
          have d42 : (xs 42) = .int .i64 d := hD 42 rfl
          clear hD
          clear hI
          simp only [patchS, Nat.reduceAdd, Nat.reduceEqDiff, ↓reduceIte] at hQo ⊢
          generalize xs 42 = y42 at *
          subst d42
          go_wp2
          exact hK.out _ _ ⟨rfl, hG, fun _ _ _ _ _ _ h => h⟩
        · intro kx xs wx hk hG hD hI Qo Kx hK hQo
          have d35 : (xs 35) = .int .i64 (X * 131 + Y * 1117 + (p : Int) * 29) := hD 35 rfl
          have d43 : (xs 43) = .int .i64 (d * 53) := hD 43 rfl
          clear hD
          clear hI
          simp only [patchS, Nat.reduceAdd, Nat.reduceEqDiff, ↓reduceIte] at hQo ⊢
          generalize xs 35 = y35 at *
          generalize xs 43 = y43 at *
          subst d35
          subst d43
          go_wp2
          exact hK.out _ _ ⟨rfl, hG, fun _ _ _ _ _ _ h => h⟩
        · intro kx xs wx hk hG hD hI Qo Kx hK hQo
          have d44 : (xs 44) = .int .i64 (X * 131 + Y * 1117 + (p : Int) * 29 + d * 53) := hD 44 rfl
          clear hD
          clear hI
          simp only [patchS, Nat.reduceAdd, Nat.reduceEqDiff, ↓reduceIte] at hQo ⊢
          generalize xs 44 = y44 at *
          subst d44
          go_wp2
          exact hK.out _ _ ⟨rfl, hG, fun _ _ _ _ _ _ h => h⟩
      intro xs wx hV hG
      have d0 : (xs 0) = .pointer (some ⟨b, 0, none⟩) := hV 0 (by decide)
      have d1 : (xs 1) = .pointer (some ⟨b, 0, none⟩) := hV 1 (by decide)
      have d2 : (xs 2) = .pointer (some ⟨b, 0, none⟩) := hV 2 (by decide)
      have d3 : (xs 3) = .slice (some ⟨b1, o1, none⟩) m c := hV 3 (by decide)
      have d4 : (xs 4) = .int .i64 p := hV 4 (by decide)
      have d5 : (xs 5) = .pointer (some ⟨b, 0, none⟩) := hV 5 (by decide)
      have d6 : (xs 6) = .pointer (some ⟨b, 0, none⟩) := hV 6 (by decide)
      have d7 : (xs 7) = .pointer (some ⟨b, 0, none⟩) := hV 7 (by decide)
      have d8 : (xs 8) = .slice (some ⟨b1, o1, none⟩) m c := hV 8 (by decide)
      have d9 : (xs 9) = .int .i64 m := hV 9 (by decide)
      have d10 : (xs 10) = .int .i64 q := hV 10 (by decide)
      have d11 : (xs 11) = .pointer (some ⟨b1, o1 + q, none⟩) := hV 11 (by decide)
      have d12 : (xs 12) = .int .u8 X := hV 12 (by decide)
      have d13 : (xs 13) = .int .i64 X := hV 13 (by decide)
      have d14 : (xs 14) = .int .i64 (X * 131) := hV 14 (by decide)
      have d15 : (xs 15) = .pointer (some ⟨b, 0, none⟩) := hV 15 (by decide)
      have d16 : (xs 16) = .pointer (some ⟨b, 0, none⟩) := hV 16 (by decide)
      have d17 : (xs 17) = .pointer (some ⟨b, 0, none⟩) := hV 17 (by decide)
      have d18 : (xs 18) = .slice (some ⟨b1, o1, none⟩) m c := hV 18 (by decide)
      have d19 : (xs 19) = .int .i64 p := hV 19 (by decide)
      have d20 : (xs 20) = .int .i64 ((p : Int) * 7) := hV 20 (by decide)
      have d21 : (xs 21) = .int .i64 ((p : Int) * 7 + 3) := hV 21 (by decide)
      have d22 : (xs 22) = .pointer (some ⟨b, 0, none⟩) := hV 22 (by decide)
      have d23 : (xs 23) = .pointer (some ⟨b, 0, none⟩) := hV 23 (by decide)
      have d24 : (xs 24) = .pointer (some ⟨b, 0, none⟩) := hV 24 (by decide)
      have d25 : (xs 25) = .slice (some ⟨b1, o1, none⟩) m c := hV 25 (by decide)
      have d26 : (xs 26) = .int .i64 m := hV 26 (by decide)
      have d27 : (xs 27) = .int .i64 r := hV 27 (by decide)
      have d28 : (xs 28) = .pointer (some ⟨b1, o1 + r, none⟩) := hV 28 (by decide)
      have d29 : (xs 29) = .int .u8 Y := hV 29 (by decide)
      have d30 : (xs 30) = .int .i64 Y := hV 30 (by decide)
      have d31 : (xs 31) = .int .i64 (Y * 1117) := hV 31 (by decide)
      have d32 : (xs 32) = .int .i64 (X * 131 + Y * 1117) := hV 32 (by decide)
      have d33 : (xs 33) = .int .i64 p := hV 33 (by decide)
      have d34 : (xs 34) = .int .i64 ((p : Int) * 29) := hV 34 (by decide)
      have d35 : (xs 35) = .int .i64 (X * 131 + Y * 1117 + (p : Int) * 29) := hV 35 (by decide)
      have d36 : (xs 36) = .int .i64 p := hV 36 (by decide)
      have d37 : (xs 37) = .pointer (some ⟨b, 0, none⟩) := hV 37 (by decide)
      have d38 : (xs 38) = .pointer (some ⟨b, 0, none⟩) := hV 38 (by decide)
      have d39 : (xs 39) = .pointer (some ⟨b, 0, none⟩) := hV 39 (by decide)
      have d40 : (xs 40) = .slice (some ⟨b1, o1, none⟩) m c := hV 40 (by decide)
      have d41 : (xs 41) = .int .i64 m := hV 41 (by decide)
      have d42 : (xs 42) = .int .i64 d := hV 42 (by decide)
      have d43 : (xs 43) = .int .i64 (d * 53) := hV 43 (by decide)
      have d44 : (xs 44) = .int .i64 (X * 131 + Y * 1117 + (p : Int) * 29 + d * 53) := hV 44 (by decide)
      have d45 : (xs 45) = .int .i64 (X * 131 + Y * 1117 + (p : Int) * 29 + d * 53) := hV 45 (by decide)
      clear hV
      simp only [patchS, Nat.reduceAdd, Nat.reduceEqDiff, ↓reduceIte]
      generalize xs 0 = y0 at *
      generalize xs 1 = y1 at *
      generalize xs 2 = y2 at *
      generalize xs 3 = y3 at *
      generalize xs 4 = y4 at *
      generalize xs 5 = y5 at *
      generalize xs 6 = y6 at *
      generalize xs 7 = y7 at *
      generalize xs 8 = y8 at *
      generalize xs 9 = y9 at *
      generalize xs 10 = y10 at *
      generalize xs 11 = y11 at *
      generalize xs 12 = y12 at *
      generalize xs 13 = y13 at *
      generalize xs 14 = y14 at *
      generalize xs 15 = y15 at *
      generalize xs 16 = y16 at *
      generalize xs 17 = y17 at *
      generalize xs 18 = y18 at *
      generalize xs 19 = y19 at *
      generalize xs 20 = y20 at *
      generalize xs 21 = y21 at *
      generalize xs 22 = y22 at *
      generalize xs 23 = y23 at *
      generalize xs 24 = y24 at *
      generalize xs 25 = y25 at *
      generalize xs 26 = y26 at *
      generalize xs 27 = y27 at *
      generalize xs 28 = y28 at *
      generalize xs 29 = y29 at *
      generalize xs 30 = y30 at *
      generalize xs 31 = y31 at *
      generalize xs 32 = y32 at *
      generalize xs 33 = y33 at *
      generalize xs 34 = y34 at *
      generalize xs 35 = y35 at *
      generalize xs 36 = y36 at *
      generalize xs 37 = y37 at *
      generalize xs 38 = y38 at *
      generalize xs 39 = y39 at *
      generalize xs 40 = y40 at *
      generalize xs 41 = y41 at *
      generalize xs 42 = y42 at *
      generalize xs 43 = y43 at *
      generalize xs 44 = y44 at *
      generalize xs 45 = y45 at *
      replace hG : Ext W1 wx := hG
      subst d0
      subst d1
      subst d2
      subst d3
      subst d4
      subst d5
      subst d6
      subst d7
      subst d8
      subst d9
      subst d10
      subst d11
      subst d12
      subst d13
      subst d14
      subst d15
      subst d16
      subst d17
      subst d18
      subst d19
      subst d20
      subst d21
      subst d22
      subst d23
      subst d24
      subst d25
      subst d26
      subst d27
      subst d28
      subst d29
      subst d30
      subst d31
      subst d32
      subst d33
      subst d34
      subst d35
      subst d36
      subst d37
      subst d38
      subst d39
      subst d40
      subst d41
      subst d42
      subst d43
      subst d44
      subst d45
      have hS : 0 ≤ X * 131 + Y * 1117 + (p : Int) * 29 + d * 53 ∧ X * 131 + Y * 1117 + (p : Int) * 29 + d * 53 < 2^50 := by omega
      generalize X * 131 + Y * 1117 + (p : Int) * 29 + d * 53 = S at hS ⊢
      clear Hqi Hri Hdi hB0 hB1 hC0 hC1 k0 k1 k2 hd0 hd1
      obtain ⟨hS0, hS1⟩ := hS
      go_wp2
      have hx : 0 ≤ bits .xor .i64 S (S / 64) := i64_xor_range _ _ (by omega) (by omega)
      have hr : (bits .xor .i64 S (S / 64)).tmod n = bits .xor .i64 S (S / 64) % n := Int.tmod_eq_emod_of_nonneg hx
      go_ret
      exact ⟨_, rfl, by rw [hr]; exact Int.emod_nonneg _ (by omega), by rw [hr]; exact Int.emod_lt_of_pos _ (by omega), HR.out.1.ext hG, grown_ext HR.out.2 hG⟩
end Go.Proofs.YtlmoeabchiddnaaDoor
