/- Drawing: odd, buffers. -/
import Derived.Test.YtmcdlkbofhdnlaaD2
import Derived.Deep.Cut
namespace Go.Proofs.Ytmcdlkbofhdnlaa
open Go.RowKit
set_option maxHeartbeats 400000

theorem mul_rng {a b A B : Int} (h1 : 0 ≤ a) (h2 : a ≤ A) (h3 : 0 ≤ b) (h4 : b ≤ B) : 0 ≤ a * b ∧ a * b ≤ A * B :=
  ⟨Int.mul_nonneg h1 h3, Int.mul_le_mul h2 h4 h3 (by omega)⟩
theorem mod_rng {a b : Int} (h1 : 0 ≤ a) (h2 : 1 ≤ b) : 0 ≤ a % b ∧ a % b < b ∧ a % b ≤ a :=
  ⟨Int.emod_nonneg _ (by omega), Int.emod_lt_of_pos _ (by omega), by
    have h3 := Int.mul_ediv_add_emod a b
    have h4 := Int.mul_nonneg (show 0 ≤ b by omega) (Int.ediv_nonneg h1 (show 0 ≤ b by omega))
    omega⟩
theorem div_rng {a b : Int} (h1 : 0 ≤ a) (h2 : 1 ≤ b) : 0 ≤ a / b ∧ a / b ≤ a :=
  ⟨Int.ediv_nonneg h1 (by omega), Int.ediv_le_self _ h1⟩

theorem odd_c (b P : Nat) (n : Int) (w : World) (h : RdP w b P) (hp : P < 2^40) (hn0 : 1 ≤ n) (hn : n ≤ 1000000000) :
    Calls Try.prog 67 #[.pointer (some ⟨b, 0, none⟩), .int .i64 n] w fun e w' => ∃ x : Bool, e = .returned (.bool x) ∧ RdP w' b (P + 1) ∧ w.grownBy w' (some b) := by
  go_enter Try.func67, Try.ntmps67
  go_wp2_with fail
  refine (pick_c b P n _ h hp hn0 hn).mono ?_
  rintro e w1 ⟨x, rfl, x0, x1, r, g⟩
  go_wp2
  go_ret
  exact ⟨_, rfl, r, g⟩
theorem odd_0 (b : Nat) (n : Int) (w : World) (hn : n ≤ 0) :
    Calls Try.prog 67 #[.pointer (some ⟨b, 0, none⟩), .int .i64 n] w fun e w' => e = .returned (.bool false) ∧ w = w' := by
  go_enter Try.func67, Try.ntmps67
  go_wp2
  go_ret
  exact ⟨rfl, rfl⟩

theorem gr_blk {w w' : World} {b q : Nat} {o : Obj} (g : w.grownBy w' (some b)) (h : w.heap[q]? = some o) (hne : q ≠ b) : w'.heap[q]? = some o := by
  rw [g.block q (lt_of_block h) (by simp; exact fun e => hne e)]; exact h
/-- Block q is a struct of three numbers in lo..hi. -/
def Buf (lo hi : Int) (wx : World) (q : Nat) : Prop := ∃ s r f : Int, wx.heap[q]? = some (.cells #[.int .i64 s, .int .i64 r, .int .i64 f] 38 (0, 0)) ∧ lo ≤ s ∧ s ≤ hi ∧ lo ≤ r ∧ r ≤ hi ∧ lo ≤ f ∧ f ≤ hi
theorem Buf.gr {lo hi : Int} {w w' : World} {b q : Nat} (h : Buf lo hi w q) (g : w.grownBy w' (some b)) (hne : q ≠ b) : Buf lo hi w' q := by
  obtain ⟨s, r, f, h1, h2⟩ := h; exact ⟨s, r, f, gr_blk g h1 hne, h2⟩
theorem Buf.lt {lo hi : Int} {w : World} {q : Nat} (h : Buf lo hi w q) : q < w.heap.size := by
  obtain ⟨s, r, f, h1, h2⟩ := h; exact lt_of_block h1
theorem Buf.set {lo hi : Int} {w : World} {q p : Nat} {j : Nat} {v : Value} (h : Buf lo hi w q) (hne : q ≠ p) : Buf lo hi (w.setCell ⟨p, j, none⟩ v) q := by
  obtain ⟨s, r, f, h1, h2⟩ := h; exact ⟨s, r, f, blk_set_other h1 hne, h2⟩
theorem Buf.put {lo hi : Int} {w : World} {q : Nat} {s r f : Int} (h : Buf lo hi w q) (h1 : lo ≤ s ∧ s ≤ hi) (h2 : lo ≤ r ∧ r ≤ hi) (h3 : lo ≤ f ∧ f ≤ hi) : Buf lo hi (((w.setCell ⟨q, 0, none⟩ (.int .i64 s)).setCell ⟨q, 1, none⟩ (.int .i64 r)).setCell ⟨q, 2, none⟩ (.int .i64 f)) q := by
  obtain ⟨s', r', f', h4, h5⟩ := h; exact ⟨s, r, f, blk_set3 h4, h1.1, h1.2, h2.1, h2.2, h3.1, h3.2⟩
theorem Buf.put0 {lo hi : Int} {w : World} {q : Nat} {s : Int} (h : Buf lo hi w q) (h1 : lo ≤ s ∧ s ≤ hi) : Buf lo hi (w.setCell ⟨q, 0, none⟩ (.int .i64 s)) q := by
  obtain ⟨s', r', f', h4, a1, a2, a3⟩ := h; exact ⟨s, r', f', by rw [heap_setCell_same w q 0 _ _ _ h4]; simp, h1.1, h1.2, a3⟩
theorem Buf.put1 {lo hi : Int} {w : World} {q : Nat} {s : Int} (h : Buf lo hi w q) (h1 : lo ≤ s ∧ s ≤ hi) : Buf lo hi (w.setCell ⟨q, 1, none⟩ (.int .i64 s)) q := by
  obtain ⟨s', r', f', h4, a1, a2, a3, a4, a5, a6⟩ := h; exact ⟨s', s, f', by rw [heap_setCell_same w q 1 _ _ _ h4]; simp, a1, a2, h1.1, h1.2, a5, a6⟩
theorem Buf.put2 {lo hi : Int} {w : World} {q : Nat} {s : Int} (h : Buf lo hi w q) (h1 : lo ≤ s ∧ s ≤ hi) : Buf lo hi (w.setCell ⟨q, 2, none⟩ (.int .i64 s)) q := by
  obtain ⟨s', r', f', h4, a1, a2, a3, a4, a5, a6⟩ := h; exact ⟨s', r', s, by rw [heap_setCell_same w q 2 _ _ _ h4]; simp, a1, a2, a3, a4, h1.1, h1.2⟩
theorem Buf.new {lo hi : Int} (w : World) (h0 : lo ≤ 0) (h1 : 0 ≤ hi) : Buf lo hi (w.alloc (.cells #[.int .i64 0, .int .i64 0, .int .i64 0] 38)) w.heap.size :=
  ⟨0, 0, 0, blk_new _ _, h0, h1, h0, h1, h0, h1⟩
/-- Buffers by q's number. -/
theorem Buf.puts {lo hi : Int} {w : World} {q p : Nat} {s r f : Int} (h : Buf lo hi w p) (h1 : lo ≤ s ∧ s ≤ hi) (h2 : lo ≤ r ∧ r ≤ hi) (h3 : lo ≤ f ∧ f ≤ hi) : Buf lo hi (((w.setCell ⟨q, 0, none⟩ (.int .i64 s)).setCell ⟨q, 1, none⟩ (.int .i64 r)).setCell ⟨q, 2, none⟩ (.int .i64 f)) p := by
  by_cases e : p = q
  · subst e; exact h.put h1 h2 h3
  · exact ((h.set e).set e).set e
/-- The drawn world with the buffers at g and q. -/
def BG (w : World) (b P k g : Nat) (wx : World) : Prop := DG w b P 1 k wx ∧ Buf (-1) 1000001 wx g ∧ g ≠ b
theorem BG.step {w wx : World} {b P k g : Nat} (h : BG w b P k g wx) : BG w b P (k + 1) g wx := ⟨h.1.step, h.2⟩
theorem BG.more {w wx wy : World} {b P k g : Nat} (h : BG w b P k g wx) (e : wx.grownBy wy (some b)) (r : RdP wy b (P + k * 1 + 1)) (_ : 1 ≤ 1) : BG w b P (k + 1) g wy := ⟨h.1.more e r (Nat.le_refl _), h.2.1.gr e h.2.2, h.2.2⟩
theorem BG.ext {w wx wy : World} {b P k g : Nat} (h : BG w b P k g wx) (e : Ext wx wy) : BG w b P (k + 1) g wy := ⟨h.1.ext e, h.2.1.gr (ext_gr e) h.2.2, h.2.2⟩

theorem BG.drew {w wx : World} {b P k g : Nat} (h : BG w b P k g wx) : BG w b (P + k) 0 g wx.drew := ⟨h.1.drew.reset (by omega) 1, h.2⟩
theorem BG.re {w wx : World} {b P k g P' : Nat} (h : BG w b P k g wx) (hP : P + k ≤ P') : BG w b P' 0 g wx := ⟨h.1.reset (by omega) 1, h.2⟩
theorem BG.puts {w wx : World} {b P k g q : Nat} {s r f : Int} (h : BG w b P k g wx) (hq : w.heap.size ≤ q) (hb : b < q) (h1 : -1 ≤ s ∧ s ≤ 1000001) (h2 : -1 ≤ r ∧ r ≤ 1000001) (h3 : -1 ≤ f ∧ f ≤ 1000001) : BG w b P k g (((wx.setCell ⟨q, 0, none⟩ (.int .i64 s)).setCell ⟨q, 1, none⟩ (.int .i64 r)).setCell ⟨q, 2, none⟩ (.int .i64 f)) :=
  ⟨((h.1.set hq hb).set hq hb).set hq hb, h.2.1.puts h1 h2 h3, h.2.2⟩
def B2 (w : World) (b P k g q : Nat) (wx : World) : Prop := BG w b P k g wx ∧ Buf (-1) 1000001 wx q ∧ q ≠ b
theorem B2.step {w wx : World} {b P k g q : Nat} (h : B2 w b P k g q wx) : B2 w b P (k + 1) g q wx := ⟨h.1.step, h.2⟩
theorem B2.more {w wx wy : World} {b P k g q : Nat} (h : B2 w b P k g q wx) (e : wx.grownBy wy (some b)) (r : RdP wy b (P + k * 1 + 1)) (_ : 1 ≤ 1) : B2 w b P (k + 1) g q wy := ⟨h.1.more e r (Nat.le_refl _), h.2.1.gr e h.2.2, h.2.2⟩
theorem B2.ext {w wx wy : World} {b P k g q : Nat} (h : B2 w b P k g q wx) (e : Ext wx wy) : B2 w b P (k + 1) g q wy := ⟨h.1.ext e, h.2.1.gr (ext_gr e) h.2.2, h.2.2⟩
set_option maxHeartbeats 8000000 in
theorem l20Buffer_c (b P : Nat) (n : Int) (w : World) (h : RdP w b P) (hp : P < 2^38) (hn0 : 1 ≤ n) (hn : n ≤ 1000000000) :
    Calls Try.prog 57 #[.pointer (some ⟨b, 0, none⟩), .int .i64 n] w fun e w' => ∃ s r f : Int, e = .returned (.agg #[.int .i64 s, .int .i64 r, .int .i64 f]) ∧ (-1 ≤ s ∧ s ≤ 1000001) ∧ (-1 ≤ r ∧ r ≤ 1000001) ∧ (-1 ≤ f ∧ f ≤ 1000001) ∧ RdP w' b (P + 100) ∧ w.grownBy w' (some b) := by
  have hblt := h.lt
  go_enter Try.func57, Try.ntmps57
  go_upto_region 1 with fail
  have e0 := Ext.alloc w (.cells #[.int .i64 0, .int .i64 0, .int .i64 0] 38)
  have hrd := h.ext e0
  have hB : BG w b P 0 w.heap.size (w.alloc (.cells #[.int .i64 0, .int .i64 0, .int .i64 0] 38)) := ⟨⟨ext_gr e0, by rw [Nat.zero_mul, Nat.add_zero]; exact hrd⟩, Buf.new w (by omega) (by omega), by omega⟩
  clear hrd e0 h
  generalize w.alloc (.cells #[.int .i64 0, .int .i64 0, .int .i64 0] 38) = w1 at *
  generalize hgg : w.heap.size = g at *
  have hext : ∀ (i : Nat) (own : Value) (ys : Nat → Value) (wa wb : World), wa.grownBy wb (some b) → (match i with | 0 => own = .pointer (some ⟨b, 0, none⟩) | 1 => ∃ x : Int, own = .int .i64 x ∧ 0 ≤ x ∧ x < 256 | 2 => SlR wa (b + 1) own 2 (4) (40) | 3 => own = .pointer (some ⟨b, 0, none⟩) | 4 => ∃ x : Int, own = .int .i64 x ∧ 0 ≤ x ∧ x < 2 | 5 => PtR wa (b + 1) own (4) (40) | 6 => ∃ x : Int, own = .int .i64 x ∧ 4 ≤ x ∧ x ≤ 40 | 7 => ∃ x : Int, own = .int .i64 x ∧ 0 ≤ x ∧ x ≤ 10200 | 8 => ∃ x : Int, own = .int .i64 x ∧ 1 ≤ x ∧ x ≤ 10201 | 9 => ∃ x : Int, own = .int .i64 x ∧ 1 ≤ x ∧ x ≤ 10201 | _ => True) → (match i with | 0 => own = .pointer (some ⟨b, 0, none⟩) | 1 => ∃ x : Int, own = .int .i64 x ∧ 0 ≤ x ∧ x < 256 | 2 => SlR wb (b + 1) own 2 (4) (40) | 3 => own = .pointer (some ⟨b, 0, none⟩) | 4 => ∃ x : Int, own = .int .i64 x ∧ 0 ≤ x ∧ x < 2 | 5 => PtR wb (b + 1) own (4) (40) | 6 => ∃ x : Int, own = .int .i64 x ∧ 4 ≤ x ∧ x ≤ 40 | 7 => ∃ x : Int, own = .int .i64 x ∧ 0 ≤ x ∧ x ≤ 10200 | 8 => ∃ x : Int, own = .int .i64 x ∧ 1 ≤ x ∧ x ≤ 10201 | 9 => ∃ x : Int, own = .int .i64 x ∧ 1 ≤ x ∧ x ≤ 10201 | _ => True) := by
    intro i own ys wa wb e h
    match i, h with
    | 0, h => exact h
    | 1, h => exact h
    | 2, h => exact h.grown e (by omega)
    | 3, h => exact h
    | 4, h => exact h
    | 5, h => exact h.grown e (by omega)
    | 6, h => exact h
    | 7, h => exact h
    | 8, h => exact h
    | 9, h => exact h
    | _ + 10, _ => trivial
  have Hext := Lib.hid hext
  clear hext
  refine wp_region_seq [(5, 9), (7, 0), (8, 1), (9, 2), (10, 3), (11, 4), (12, 5), (13, 6), (14, 7), (15, 8)] [[], [0], [0, 1], [0, 1, 2], [0, 1, 2, 3], [0, 1, 2, 3, 4], [0, 1, 2, 3, 4, 5], [0, 1, 2, 3, 4, 5, 6], [0, 1, 2, 3, 4, 5, 6, 7], [0, 1, 2, 3, 4, 5, 6, 7, 8]] (fun i own ys wx => match i with | 0 => own = .pointer (some ⟨b, 0, none⟩) | 1 => ∃ x : Int, own = .int .i64 x ∧ 0 ≤ x ∧ x < 256 | 2 => SlR wx (b + 1) own 2 (4) (40) | 3 => own = .pointer (some ⟨b, 0, none⟩) | 4 => ∃ x : Int, own = .int .i64 x ∧ 0 ≤ x ∧ x < 2 | 5 => PtR wx (b + 1) own (4) (40) | 6 => ∃ x : Int, own = .int .i64 x ∧ 4 ≤ x ∧ x ≤ 40 | 7 => ∃ x : Int, own = .int .i64 x ∧ 0 ≤ x ∧ x ≤ 10200 | 8 => ∃ x : Int, own = .int .i64 x ∧ 1 ≤ x ∧ x ≤ 10201 | 9 => ∃ x : Int, own = .int .i64 x ∧ 1 ≤ x ∧ x ≤ 10201 | _ => True) (fun kx wx => BG w b P kx g wx) (by kernel_rfl) (by kernel_rfl) ?g0_r1 ?gop_r1 ?gend_r1
  case g0_r1 => exact hB
  case gop_r1 =>
    refine ⟨?_, ?_, ?_, ?_, ?_, ?_, ?_, ?_, ?_, ?_, trivial⟩
    · intro kx xs wx hk hG hD Qo Kx hK hQo
      clear hD
      simp only [patchS, Nat.reduceAdd, Nat.reduceEqDiff, ↓reduceIte] at hQo ⊢
      go_wp2
      exact hK.out _ _ ⟨rfl, hG.step, fun _ _ _ _ _ _ h => h⟩
    · intro kx xs wx hk hG hD Qo Kx hK hQo
      have d0 : (xs 0) = .pointer (some ⟨b, 0, none⟩) := hD 0 rfl
      clear hD
      simp only [patchS, Nat.reduceAdd, Nat.reduceEqDiff, ↓reduceIte] at hQo ⊢
      generalize xs 0 = y0 at *
      subst d0
      go_wp2_with fail
      refine (pick_c _ _ _ _ hG.1.2 (DG.small hk (by decide) (by decide) (by omega)) (by omega) (by omega)).mono ?_
      rintro e w4 ⟨xx, rfl, xa, xb, rd, gr⟩
      go_wp2
      exact hK.out _ _ ⟨⟨xx, rfl, xa, by omega⟩, hG.more gr rd (by decide), fun i _ _ _ own ys h => Hext.out i own ys _ _ gr h⟩
    · intro kx xs wx hk hG hD Qo Kx hK hQo
      clear hD
      simp only [patchS, Nat.reduceAdd, Nat.reduceEqDiff, ↓reduceIte] at hQo ⊢
      have e5 := Ext.alloc wx (.cells #[.int .i64 4, .int .i64 40] 3)
      go_wp2
      exact hK.out _ _ ⟨⟨_, [4, 40], rfl, by have := hG.1.2.lt; omega, Sl_new _ _ _, by simp <;> omega⟩, hG.ext e5, fun i _ _ _ own ys h => Hext.out i own ys _ _ (ext_gr e5) h⟩
    · intro kx xs wx hk hG hD Qo Kx hK hQo
      clear hD
      simp only [patchS, Nat.reduceAdd, Nat.reduceEqDiff, ↓reduceIte] at hQo ⊢
      go_wp2
      exact hK.out _ _ ⟨rfl, hG.step, fun _ _ _ _ _ _ h => h⟩
    · intro kx xs wx hk hG hD Qo Kx hK hQo
      have d3 : (xs 3) = .pointer (some ⟨b, 0, none⟩) := hD 3 rfl
      clear hD
      simp only [patchS, Nat.reduceAdd, Nat.reduceEqDiff, ↓reduceIte] at hQo ⊢
      generalize xs 3 = y3 at *
      subst d3
      go_wp2_with fail
      refine (pick_c _ _ _ _ hG.1.2 (DG.small hk (by decide) (by decide) (by omega)) (by omega) (by omega)).mono ?_
      rintro e w4 ⟨xx, rfl, xa, xb, rd, gr⟩
      go_wp2
      exact hK.out _ _ ⟨⟨xx, rfl, xa, by omega⟩, hG.more gr rd (by decide), fun i _ _ _ own ys h => Hext.out i own ys _ _ gr h⟩
    · intro kx xs wx hk hG hD Qo Kx hK hQo
      have d2 : SlR wx (b + 1) (xs 2) 2 (4) (40) := hD 2 rfl
      have d4 : ∃ x : Int, (xs 4) = .int .i64 x ∧ 0 ≤ x ∧ x < 2 := hD 4 rfl
      clear hD
      simp only [patchS, Nat.reduceAdd, Nat.reduceEqDiff, ↓reduceIte] at hQo ⊢
      generalize xs 2 = y2 at *
      generalize xs 4 = y4 at *
      obtain ⟨g2, l2, rfl, n2, s2, r2⟩ := d2
      obtain ⟨x4, rfl, x4a, x4b⟩ := d4
      go_wp2
      exact hK.out _ _ ⟨SlR.at n2 s2 r2 (by omega), hG.step, fun _ _ _ _ _ _ h => h⟩
    · intro kx xs wx hk hG hD Qo Kx hK hQo
      have d5 : PtR wx (b + 1) (xs 5) (4) (40) := hD 5 rfl
      clear hD
      simp only [patchS, Nat.reduceAdd, Nat.reduceEqDiff, ↓reduceIte] at hQo ⊢
      generalize xs 5 = y5 at *
      obtain ⟨g5, j5, y5, rfl, n5, c5, y5a, y5b⟩ := d5
      go_wp2
      exact hK.out _ _ ⟨⟨_, rfl, by omega, by omega⟩, hG.step, fun _ _ _ _ _ _ h => h⟩
    · intro kx xs wx hk hG hD Qo Kx hK hQo
      have d1 : ∃ x : Int, (xs 1) = .int .i64 x ∧ 0 ≤ x ∧ x < 256 := hD 1 rfl
      have d6 : ∃ x : Int, (xs 6) = .int .i64 x ∧ 4 ≤ x ∧ x ≤ 40 := hD 6 rfl
      clear hD
      simp only [patchS, Nat.reduceAdd, Nat.reduceEqDiff, ↓reduceIte] at hQo ⊢
      generalize xs 1 = y1 at *
      generalize xs 6 = y6 at *
      obtain ⟨x1, rfl, x1a, x1b⟩ := d1
      obtain ⟨x6, rfl, x6a, x6b⟩ := d6
      obtain ⟨hm1, hm2⟩ := mul_rng (a := x1) (b := x6) (A := 255) (B := 40) (by omega) (by omega) (by omega) (by omega)
      go_wp2
      exact hK.out _ _ ⟨⟨_, rfl, by omega, by omega⟩, hG.step, fun _ _ _ _ _ _ h => h⟩
    · intro kx xs wx hk hG hD Qo Kx hK hQo
      have d7 : ∃ x : Int, (xs 7) = .int .i64 x ∧ 0 ≤ x ∧ x ≤ 10200 := hD 7 rfl
      clear hD
      simp only [patchS, Nat.reduceAdd, Nat.reduceEqDiff, ↓reduceIte] at hQo ⊢
      generalize xs 7 = y7 at *
      obtain ⟨x7, rfl, x7a, x7b⟩ := d7
      go_wp2
      exact hK.out _ _ ⟨⟨_, rfl, by omega, by omega⟩, hG.step, fun _ _ _ _ _ _ h => h⟩
    · intro kx xs wx hk hG hD Qo Kx hK hQo
      have d8 : ∃ x : Int, (xs 8) = .int .i64 x ∧ 1 ≤ x ∧ x ≤ 10201 := hD 8 rfl
      clear hD
      simp only [patchS, Nat.reduceAdd, Nat.reduceEqDiff, ↓reduceIte] at hQo ⊢
      generalize xs 8 = y8 at *
      obtain ⟨x8, rfl, x8a, x8b⟩ := d8
      go_wp2
      exact hK.out _ _ ⟨⟨_, rfl, by omega, by omega⟩, hG.step, fun _ _ _ _ _ _ h => h⟩
  clear Hext
  intro xs wx hV hG
  have d0 : (xs 0) = .pointer (some ⟨b, 0, none⟩) := hV 0 (by decide)
  have d1 : ∃ x : Int, (xs 1) = .int .i64 x ∧ 0 ≤ x ∧ x < 256 := hV 1 (by decide)
  have d2 : SlR wx (b + 1) (xs 2) 2 (4) (40) := hV 2 (by decide)
  have d3 : (xs 3) = .pointer (some ⟨b, 0, none⟩) := hV 3 (by decide)
  have d4 : ∃ x : Int, (xs 4) = .int .i64 x ∧ 0 ≤ x ∧ x < 2 := hV 4 (by decide)
  have d5 : PtR wx (b + 1) (xs 5) (4) (40) := hV 5 (by decide)
  have d6 : ∃ x : Int, (xs 6) = .int .i64 x ∧ 4 ≤ x ∧ x ≤ 40 := hV 6 (by decide)
  have d7 : ∃ x : Int, (xs 7) = .int .i64 x ∧ 0 ≤ x ∧ x ≤ 10200 := hV 7 (by decide)
  have d8 : ∃ x : Int, (xs 8) = .int .i64 x ∧ 1 ≤ x ∧ x ≤ 10201 := hV 8 (by decide)
  have d9 : ∃ x : Int, (xs 9) = .int .i64 x ∧ 1 ≤ x ∧ x ≤ 10201 := hV 9 (by decide)
  clear hV
  simp only [patchS, Nat.reduceAdd, Nat.reduceEqDiff, ↓reduceIte]
  generalize xs 0 = y0 at *
  generalize xs 1 = y1 at *
  generalize xs 2 = y2 at *
  generalize xs 3 = y3 at *
  generalize xs 4 = y4 at *
  generalize xs 5 = y5 at *
  generalize xs 6 = y6 at *
  generalize xs 7 = y7 at *
  generalize xs 8 = y8 at *
  generalize xs 9 = y9 at *
  replace hG : BG w b P 10 g wx := hG
  clear d0 d1 d2 d3 d4 d5 d6 d7 d8
  obtain ⟨x9, rfl, x9a, x9b⟩ := d9
  go_wp2_with fail
  clear hB
  have hB := hG
  clear hG
  generalize wx = w1 at *
  have hext : ∀ (i : Nat) (own : Value) (ys : Nat → Value) (wa wb : World), wa.grownBy wb (some b) → (match i with | 0 => own = .int .i64 (x9) | 1 => own = .pointer (some ⟨b, 0, none⟩) | 2 => ∃ x : Int, own = .int .i64 x ∧ 0 ≤ x ∧ x < 256 | 3 => ∃ x : Int, own = .int .i64 x ∧ 0 ≤ x ∧ x ≤ 1020 | 4 => own = .int .i64 (x9) | 5 => ∃ x : Int, own = .int .i64 x ∧ 2 ≤ x ∧ x ≤ 10202 | 6 => ∃ x : Int, own = .int .i64 x ∧ 0 ≤ x ∧ x ≤ 1020 | 7 => own = .pointer (some ⟨b, 0, none⟩) | 8 => ∃ x : Int, own = .int .i64 x ∧ 0 ≤ x ∧ x < 256 | 9 => ∃ x : Int, own = .int .i64 x ∧ 0 ≤ x ∧ x ≤ 10200 | 10 => own = .int .i64 (x9) | 11 => ∃ x : Int, own = .int .i64 x ∧ 2 ≤ x ∧ x ≤ 10202 | 12 => ∃ x : Int, own = .int .i64 x ∧ 0 ≤ x ∧ x ≤ 10200 | 13 => ∃ s r f : Int, own = .agg #[.int .i64 s, .int .i64 r, .int .i64 f] ∧ (-1 ≤ s ∧ s ≤ 1000001) ∧ (-1 ≤ r ∧ r ≤ 1000001) ∧ (-1 ≤ f ∧ f ≤ 1000001) | 14 => ∃ q, own = .pointer (some ⟨q, 0, none⟩) ∧ w.heap.size ≤ q ∧ q ≠ b ∧ q ≠ g ∧ Buf (-1) 1000001 wa q | 15 => True | _ => True) → (match i with | 0 => own = .int .i64 (x9) | 1 => own = .pointer (some ⟨b, 0, none⟩) | 2 => ∃ x : Int, own = .int .i64 x ∧ 0 ≤ x ∧ x < 256 | 3 => ∃ x : Int, own = .int .i64 x ∧ 0 ≤ x ∧ x ≤ 1020 | 4 => own = .int .i64 (x9) | 5 => ∃ x : Int, own = .int .i64 x ∧ 2 ≤ x ∧ x ≤ 10202 | 6 => ∃ x : Int, own = .int .i64 x ∧ 0 ≤ x ∧ x ≤ 1020 | 7 => own = .pointer (some ⟨b, 0, none⟩) | 8 => ∃ x : Int, own = .int .i64 x ∧ 0 ≤ x ∧ x < 256 | 9 => ∃ x : Int, own = .int .i64 x ∧ 0 ≤ x ∧ x ≤ 10200 | 10 => own = .int .i64 (x9) | 11 => ∃ x : Int, own = .int .i64 x ∧ 2 ≤ x ∧ x ≤ 10202 | 12 => ∃ x : Int, own = .int .i64 x ∧ 0 ≤ x ∧ x ≤ 10200 | 13 => ∃ s r f : Int, own = .agg #[.int .i64 s, .int .i64 r, .int .i64 f] ∧ (-1 ≤ s ∧ s ≤ 1000001) ∧ (-1 ≤ r ∧ r ≤ 1000001) ∧ (-1 ≤ f ∧ f ≤ 1000001) | 14 => ∃ q, own = .pointer (some ⟨q, 0, none⟩) ∧ w.heap.size ≤ q ∧ q ≠ b ∧ q ≠ g ∧ Buf (-1) 1000001 wb q | 15 => True | _ => True) := by
    intro i own ys wa wb e h
    match i, h with
    | 0, h => exact h
    | 1, h => exact h
    | 2, h => exact h
    | 3, h => exact h
    | 4, h => exact h
    | 5, h => exact h
    | 6, h => exact h
    | 7, h => exact h
    | 8, h => exact h
    | 9, h => exact h
    | 10, h => exact h
    | 11, h => exact h
    | 12, h => exact h
    | 13, h => exact h
    | 14, h => obtain ⟨q, h1, h2, h3, h4, h5⟩ := h; exact ⟨q, h1, h2, h3, h4, h5.gr e h3⟩
    | 15, h => exact h
    | _ + 16, _ => trivial
  have Hext := Lib.hid hext
  clear hext
  refine wp_region_inv2 (by kernel_rfl) [(6, 14), (16, 0), (17, 1), (18, 2), (19, 3), (20, 4), (21, 5), (22, 6), (23, 7), (24, 8), (25, 9), (26, 10), (27, 11), (28, 12), (29, 13)] [[], [], [1], [1, 2], [], [4], [1, 2, 3, 4, 5], [], [1, 2, 7], [1, 2, 7, 8], [], [10], [1, 2, 7, 8, 9, 10, 11], [0, 1, 2, 3, 4, 5, 6, 7, 8, 9, 10, 11, 12], [], [0, 1, 2, 3, 4, 5, 6, 7, 8, 9, 10, 11, 12, 13, 14]] (fun i own ys wx => match i with | 0 => own = .int .i64 (x9) | 1 => own = .pointer (some ⟨b, 0, none⟩) | 2 => ∃ x : Int, own = .int .i64 x ∧ 0 ≤ x ∧ x < 256 | 3 => ∃ x : Int, own = .int .i64 x ∧ 0 ≤ x ∧ x ≤ 1020 | 4 => own = .int .i64 (x9) | 5 => ∃ x : Int, own = .int .i64 x ∧ 2 ≤ x ∧ x ≤ 10202 | 6 => ∃ x : Int, own = .int .i64 x ∧ 0 ≤ x ∧ x ≤ 1020 | 7 => own = .pointer (some ⟨b, 0, none⟩) | 8 => ∃ x : Int, own = .int .i64 x ∧ 0 ≤ x ∧ x < 256 | 9 => ∃ x : Int, own = .int .i64 x ∧ 0 ≤ x ∧ x ≤ 10200 | 10 => own = .int .i64 (x9) | 11 => ∃ x : Int, own = .int .i64 x ∧ 2 ≤ x ∧ x ≤ 10202 | 12 => ∃ x : Int, own = .int .i64 x ∧ 0 ≤ x ∧ x ≤ 10200 | 13 => ∃ s r f : Int, own = .agg #[.int .i64 s, .int .i64 r, .int .i64 f] ∧ (-1 ≤ s ∧ s ≤ 1000001) ∧ (-1 ≤ r ∧ r ≤ 1000001) ∧ (-1 ≤ f ∧ f ≤ 1000001) | 14 => ∃ q, own = .pointer (some ⟨q, 0, none⟩) ∧ w.heap.size ≤ q ∧ q ≠ b ∧ q ≠ g ∧ Buf (-1) 1000001 wx q | 15 => True | _ => True) (fun kx wx => BG w b (P+10) kx g wx) (by kernel_rfl) (by kernel_rfl) (by kernel_rfl) ?g0_r2 ?gop_r2 ?gend_r2
  case g0_r2 => exact hB.drew
  case gop_r2 =>
    refine ⟨?_, ?_, ?_, ?_, ?_, ?_, ?_, ?_, ?_, ?_, ?_, ?_, ?_, ?_, ?_, ?_, trivial⟩
    · intro kx xs wx hk hG hD Qo Kx hK hQo
      clear hD
      simp only [patchS, Nat.reduceAdd, Nat.reduceEqDiff, ↓reduceIte] at hQo ⊢
      go_wp2
      exact hK.out _ _ ⟨rfl, hG.step, fun _ _ _ _ _ _ h => h⟩
    · intro kx xs wx hk hG hD Qo Kx hK hQo
      clear hD
      simp only [patchS, Nat.reduceAdd, Nat.reduceEqDiff, ↓reduceIte] at hQo ⊢
      go_wp2
      exact hK.out _ _ ⟨rfl, hG.step, fun _ _ _ _ _ _ h => h⟩
    · intro kx xs wx hk hG hD Qo Kx hK hQo
      have d1 : (xs 1) = .pointer (some ⟨b, 0, none⟩) := hD 1 rfl
      clear hD
      simp only [patchS, Nat.reduceAdd, Nat.reduceEqDiff, ↓reduceIte] at hQo ⊢
      generalize xs 1 = y1 at *
      subst d1
      go_wp2_with fail
      refine (pick_c _ _ _ _ hG.1.2 (DG.small hk (by decide) (by decide) (by omega)) (by omega) (by omega)).mono ?_
      rintro e w4 ⟨xx, rfl, xa, xb, rd, gr⟩
      go_wp2
      exact hK.out _ _ ⟨⟨xx, rfl, xa, by omega⟩, hG.more gr rd (by decide), fun i _ _ _ own ys h => Hext.out i own ys _ _ gr h⟩
    · intro kx xs wx hk hG hD Qo Kx hK hQo
      have d2 : ∃ x : Int, (xs 2) = .int .i64 x ∧ 0 ≤ x ∧ x < 256 := hD 2 rfl
      clear hD
      simp only [patchS, Nat.reduceAdd, Nat.reduceEqDiff, ↓reduceIte] at hQo ⊢
      generalize xs 2 = y2 at *
      obtain ⟨x2, rfl, x2a, x2b⟩ := d2
      go_wp2
      exact hK.out _ _ ⟨⟨_, rfl, by omega, by omega⟩, hG.step, fun _ _ _ _ _ _ h => h⟩
    · intro kx xs wx hk hG hD Qo Kx hK hQo
      clear hD
      simp only [patchS, Nat.reduceAdd, Nat.reduceEqDiff, ↓reduceIte] at hQo ⊢
      go_wp2
      exact hK.out _ _ ⟨rfl, hG.step, fun _ _ _ _ _ _ h => h⟩
    · intro kx xs wx hk hG hD Qo Kx hK hQo
      have d4 : (xs 4) = .int .i64 (x9) := hD 4 rfl
      clear hD
      simp only [patchS, Nat.reduceAdd, Nat.reduceEqDiff, ↓reduceIte] at hQo ⊢
      generalize xs 4 = y4 at *
      subst d4
      go_wp2
      exact hK.out _ _ ⟨⟨_, rfl, by omega, by omega⟩, hG.step, fun _ _ _ _ _ _ h => h⟩
    · intro kx xs wx hk hG hD Qo Kx hK hQo
      have d3 : ∃ x : Int, (xs 3) = .int .i64 x ∧ 0 ≤ x ∧ x ≤ 1020 := hD 3 rfl
      have d5 : ∃ x : Int, (xs 5) = .int .i64 x ∧ 2 ≤ x ∧ x ≤ 10202 := hD 5 rfl
      clear hD
      simp only [patchS, Nat.reduceAdd, Nat.reduceEqDiff, ↓reduceIte] at hQo ⊢
      generalize xs 3 = y3 at *
      generalize xs 5 = y5 at *
      obtain ⟨x3, rfl, x3a, x3b⟩ := d3
      obtain ⟨x5, rfl, x5a, x5b⟩ := d5
      obtain ⟨hm1, hm2, hm3⟩ := mod_rng (a := x3) (b := x5) (by omega) (by omega)
      go_wp2
      exact hK.out _ _ ⟨⟨_, rfl, by omega, by omega⟩, hG.step, fun _ _ _ _ _ _ h => h⟩
    · intro kx xs wx hk hG hD Qo Kx hK hQo
      clear hD
      simp only [patchS, Nat.reduceAdd, Nat.reduceEqDiff, ↓reduceIte] at hQo ⊢
      go_wp2
      exact hK.out _ _ ⟨rfl, hG.step, fun _ _ _ _ _ _ h => h⟩
    · intro kx xs wx hk hG hD Qo Kx hK hQo
      have d7 : (xs 7) = .pointer (some ⟨b, 0, none⟩) := hD 7 rfl
      clear hD
      simp only [patchS, Nat.reduceAdd, Nat.reduceEqDiff, ↓reduceIte] at hQo ⊢
      generalize xs 7 = y7 at *
      subst d7
      go_wp2_with fail
      refine (pick_c _ _ _ _ hG.1.2 (DG.small hk (by decide) (by decide) (by omega)) (by omega) (by omega)).mono ?_
      rintro e w4 ⟨xx, rfl, xa, xb, rd, gr⟩
      go_wp2
      exact hK.out _ _ ⟨⟨xx, rfl, xa, by omega⟩, hG.more gr rd (by decide), fun i _ _ _ own ys h => Hext.out i own ys _ _ gr h⟩
    · intro kx xs wx hk hG hD Qo Kx hK hQo
      have d8 : ∃ x : Int, (xs 8) = .int .i64 x ∧ 0 ≤ x ∧ x < 256 := hD 8 rfl
      clear hD
      simp only [patchS, Nat.reduceAdd, Nat.reduceEqDiff, ↓reduceIte] at hQo ⊢
      generalize xs 8 = y8 at *
      obtain ⟨x8, rfl, x8a, x8b⟩ := d8
      go_wp2
      exact hK.out _ _ ⟨⟨_, rfl, by omega, by omega⟩, hG.step, fun _ _ _ _ _ _ h => h⟩
    · intro kx xs wx hk hG hD Qo Kx hK hQo
      clear hD
      simp only [patchS, Nat.reduceAdd, Nat.reduceEqDiff, ↓reduceIte] at hQo ⊢
      go_wp2
      exact hK.out _ _ ⟨rfl, hG.step, fun _ _ _ _ _ _ h => h⟩
    · intro kx xs wx hk hG hD Qo Kx hK hQo
      have d10 : (xs 10) = .int .i64 (x9) := hD 10 rfl
      clear hD
      simp only [patchS, Nat.reduceAdd, Nat.reduceEqDiff, ↓reduceIte] at hQo ⊢
      generalize xs 10 = y10 at *
      subst d10
      go_wp2
      exact hK.out _ _ ⟨⟨_, rfl, by omega, by omega⟩, hG.step, fun _ _ _ _ _ _ h => h⟩
    · intro kx xs wx hk hG hD Qo Kx hK hQo
      have d9 : ∃ x : Int, (xs 9) = .int .i64 x ∧ 0 ≤ x ∧ x ≤ 10200 := hD 9 rfl
      have d11 : ∃ x : Int, (xs 11) = .int .i64 x ∧ 2 ≤ x ∧ x ≤ 10202 := hD 11 rfl
      clear hD
      simp only [patchS, Nat.reduceAdd, Nat.reduceEqDiff, ↓reduceIte] at hQo ⊢
      generalize xs 9 = y9 at *
      generalize xs 11 = y11 at *
      obtain ⟨x9, rfl, x9a, x9b⟩ := d9
      obtain ⟨x11, rfl, x11a, x11b⟩ := d11
      obtain ⟨hm1, hm2, hm3⟩ := mod_rng (a := x9) (b := x11) (by omega) (by omega)
      go_wp2
      exact hK.out _ _ ⟨⟨_, rfl, by omega, by omega⟩, hG.step, fun _ _ _ _ _ _ h => h⟩
    · intro kx xs wx hk hG hD Qo Kx hK hQo
      have d0 : (xs 0) = .int .i64 (x9) := hD 0 rfl
      have d6 : ∃ x : Int, (xs 6) = .int .i64 x ∧ 0 ≤ x ∧ x ≤ 1020 := hD 6 rfl
      have d12 : ∃ x : Int, (xs 12) = .int .i64 x ∧ 0 ≤ x ∧ x ≤ 10200 := hD 12 rfl
      clear hD
      simp only [patchS, Nat.reduceAdd, Nat.reduceEqDiff, ↓reduceIte] at hQo ⊢
      generalize xs 0 = y0 at *
      generalize xs 6 = y6 at *
      generalize xs 12 = y12 at *
      subst d0
      obtain ⟨x6, rfl, x6a, x6b⟩ := d6
      obtain ⟨x12, rfl, x12a, x12b⟩ := d12
      go_wp2
      exact hK.out _ _ ⟨⟨_, _, _, rfl, by omega, by omega, by omega⟩, hG.step, fun _ _ _ _ _ _ h => h⟩
    · intro kx xs wx hk hG hD Qo Kx hK hQo
      clear hD
      simp only [patchS, Nat.reduceAdd, Nat.reduceEqDiff, ↓reduceIte] at hQo ⊢
      have e5 := Ext.alloc wx (.cells #[.int .i64 0, .int .i64 0, .int .i64 0] 38)
      have hb5 := hG.1.1.size
      have hl5 := hG.1.2.lt
      have hg5 := hG.2.1.lt
      go_wp2
      exact hK.out _ _ ⟨⟨_, rfl, by omega, by omega, by omega, Buf.new _ (by omega) (by omega)⟩, hG.ext e5, fun i _ _ _ own ys h => Hext.out i own ys _ _ (ext_gr e5) h⟩
    · intro kx xs wx hk hG hD Qo Kx hK hQo
      have d14 : ∃ q, (xs 14) = .pointer (some ⟨q, 0, none⟩) ∧ w.heap.size ≤ q ∧ q ≠ b ∧ q ≠ g ∧ Buf (-1) 1000001 wx q := hD 14 rfl
      have d13 : ∃ s r f : Int, (xs 13) = .agg #[.int .i64 s, .int .i64 r, .int .i64 f] ∧ (-1 ≤ s ∧ s ≤ 1000001) ∧ (-1 ≤ r ∧ r ≤ 1000001) ∧ (-1 ≤ f ∧ f ≤ 1000001) := hD 13 rfl
      clear hD
      simp only [patchS, Nat.reduceAdd, Nat.reduceEqDiff, ↓reduceIte] at hQo ⊢
      generalize xs 14 = y14 at *
      generalize xs 13 = y13 at *
      obtain ⟨q, rfl, hq0, hq1, hq2, hq3⟩ := d14
      obtain ⟨s13, r13, f13, rfl, hs13, hr13, hf13⟩ := d13
      have hq4 := hq3
      obtain ⟨u1, u2, u3, u4, u5⟩ := hq4
      obtain ⟨z0, z1, z2, z3, z4, z5, z6⟩ := bx3 u4
      go_wp2
      have hst : ∀ (wy : World), (∀ p, p ≠ b → Buf (-1) 1000001 wx p → Buf (-1) 1000001 wy p) → ∀ (ii : Nat), ii < 16 → ii ≠ 15 → ([[], [], [1], [1, 2], [], [4], [1, 2, 3, 4, 5], [], [1, 2, 7], [1, 2, 7, 8], [], [10], [1, 2, 7, 8, 9, 10, 11], [0, 1, 2, 3, 4, 5, 6, 7, 8, 9, 10, 11, 12], [], [0, 1, 2, 3, 4, 5, 6, 7, 8, 9, 10, 11, 12, 13, 14]].getD ii []).contains 15 = false → ∀ (own : Value) (ys : Nat → Value), (match ii with | 0 => own = .int .i64 (x9) | 1 => own = .pointer (some ⟨b, 0, none⟩) | 2 => ∃ x : Int, own = .int .i64 x ∧ 0 ≤ x ∧ x < 256 | 3 => ∃ x : Int, own = .int .i64 x ∧ 0 ≤ x ∧ x ≤ 1020 | 4 => own = .int .i64 (x9) | 5 => ∃ x : Int, own = .int .i64 x ∧ 2 ≤ x ∧ x ≤ 10202 | 6 => ∃ x : Int, own = .int .i64 x ∧ 0 ≤ x ∧ x ≤ 1020 | 7 => own = .pointer (some ⟨b, 0, none⟩) | 8 => ∃ x : Int, own = .int .i64 x ∧ 0 ≤ x ∧ x < 256 | 9 => ∃ x : Int, own = .int .i64 x ∧ 0 ≤ x ∧ x ≤ 10200 | 10 => own = .int .i64 (x9) | 11 => ∃ x : Int, own = .int .i64 x ∧ 2 ≤ x ∧ x ≤ 10202 | 12 => ∃ x : Int, own = .int .i64 x ∧ 0 ≤ x ∧ x ≤ 10200 | 13 => ∃ s r f : Int, own = .agg #[.int .i64 s, .int .i64 r, .int .i64 f] ∧ (-1 ≤ s ∧ s ≤ 1000001) ∧ (-1 ≤ r ∧ r ≤ 1000001) ∧ (-1 ≤ f ∧ f ≤ 1000001) | 14 => ∃ q, own = .pointer (some ⟨q, 0, none⟩) ∧ w.heap.size ≤ q ∧ q ≠ b ∧ q ≠ g ∧ Buf (-1) 1000001 wx q | 15 => True | _ => True) → (match ii with | 0 => own = .int .i64 (x9) | 1 => own = .pointer (some ⟨b, 0, none⟩) | 2 => ∃ x : Int, own = .int .i64 x ∧ 0 ≤ x ∧ x < 256 | 3 => ∃ x : Int, own = .int .i64 x ∧ 0 ≤ x ∧ x ≤ 1020 | 4 => own = .int .i64 (x9) | 5 => ∃ x : Int, own = .int .i64 x ∧ 2 ≤ x ∧ x ≤ 10202 | 6 => ∃ x : Int, own = .int .i64 x ∧ 0 ≤ x ∧ x ≤ 1020 | 7 => own = .pointer (some ⟨b, 0, none⟩) | 8 => ∃ x : Int, own = .int .i64 x ∧ 0 ≤ x ∧ x < 256 | 9 => ∃ x : Int, own = .int .i64 x ∧ 0 ≤ x ∧ x ≤ 10200 | 10 => own = .int .i64 (x9) | 11 => ∃ x : Int, own = .int .i64 x ∧ 2 ≤ x ∧ x ≤ 10202 | 12 => ∃ x : Int, own = .int .i64 x ∧ 0 ≤ x ∧ x ≤ 10200 | 13 => ∃ s r f : Int, own = .agg #[.int .i64 s, .int .i64 r, .int .i64 f] ∧ (-1 ≤ s ∧ s ≤ 1000001) ∧ (-1 ≤ r ∧ r ≤ 1000001) ∧ (-1 ≤ f ∧ f ≤ 1000001) | 14 => ∃ q, own = .pointer (some ⟨q, 0, none⟩) ∧ w.heap.size ≤ q ∧ q ≠ b ∧ q ≠ g ∧ Buf (-1) 1000001 wy q | 15 => True | _ => True) := by
        intro wy hy ii hii hne hc own ys h
        match ii, h with
        | 0, h => exact h
        | 1, h => exact h
        | 2, h => exact h
        | 3, h => exact h
        | 4, h => exact h
        | 5, h => exact h
        | 6, h => exact h
        | 7, h => exact h
        | 8, h => exact h
        | 9, h => exact h
        | 10, h => exact h
        | 11, h => exact h
        | 12, h => exact h
        | 13, h => exact h
        | 14, h => obtain ⟨q', h1, h2, h3, h4, h5⟩ := h; exact ⟨q', h1, h2, h3, h4, hy q' h3 h5⟩
        | 15, h => exact absurd rfl hne
        | _ + 16, _ => trivial
      exact hQo undef _ (hK.out _ _ ⟨trivial, (hG.step.puts hq0 (by omega) hs13 hr13 hf13), hst _ (fun p _ hbuf => hbuf.puts hs13 hr13 hf13)⟩)
  clear Hext
  intro xs wx hV hG
  have d0 : (xs 0) = .int .i64 (x9) := hV 0 (by decide)
  have d1 : (xs 1) = .pointer (some ⟨b, 0, none⟩) := hV 1 (by decide)
  have d2 : ∃ x : Int, (xs 2) = .int .i64 x ∧ 0 ≤ x ∧ x < 256 := hV 2 (by decide)
  have d3 : ∃ x : Int, (xs 3) = .int .i64 x ∧ 0 ≤ x ∧ x ≤ 1020 := hV 3 (by decide)
  have d4 : (xs 4) = .int .i64 (x9) := hV 4 (by decide)
  have d5 : ∃ x : Int, (xs 5) = .int .i64 x ∧ 2 ≤ x ∧ x ≤ 10202 := hV 5 (by decide)
  have d6 : ∃ x : Int, (xs 6) = .int .i64 x ∧ 0 ≤ x ∧ x ≤ 1020 := hV 6 (by decide)
  have d7 : (xs 7) = .pointer (some ⟨b, 0, none⟩) := hV 7 (by decide)
  have d8 : ∃ x : Int, (xs 8) = .int .i64 x ∧ 0 ≤ x ∧ x < 256 := hV 8 (by decide)
  have d9 : ∃ x : Int, (xs 9) = .int .i64 x ∧ 0 ≤ x ∧ x ≤ 10200 := hV 9 (by decide)
  have d10 : (xs 10) = .int .i64 (x9) := hV 10 (by decide)
  have d11 : ∃ x : Int, (xs 11) = .int .i64 x ∧ 2 ≤ x ∧ x ≤ 10202 := hV 11 (by decide)
  have d12 : ∃ x : Int, (xs 12) = .int .i64 x ∧ 0 ≤ x ∧ x ≤ 10200 := hV 12 (by decide)
  have d13 : ∃ s r f : Int, (xs 13) = .agg #[.int .i64 s, .int .i64 r, .int .i64 f] ∧ (-1 ≤ s ∧ s ≤ 1000001) ∧ (-1 ≤ r ∧ r ≤ 1000001) ∧ (-1 ≤ f ∧ f ≤ 1000001) := hV 13 (by decide)
  have d14 : ∃ q, (xs 14) = .pointer (some ⟨q, 0, none⟩) ∧ w.heap.size ≤ q ∧ q ≠ b ∧ q ≠ g ∧ Buf (-1) 1000001 wx q := hV 14 (by decide)
  clear hV
  simp only [patchS, Nat.reduceAdd, Nat.reduceEqDiff, ↓reduceIte]
  generalize xs 0 = y0 at *
  generalize xs 1 = y1 at *
  generalize xs 2 = y2 at *
  generalize xs 3 = y3 at *
  generalize xs 4 = y4 at *
  generalize xs 5 = y5 at *
  generalize xs 6 = y6 at *
  generalize xs 7 = y7 at *
  generalize xs 8 = y8 at *
  generalize xs 9 = y9 at *
  generalize xs 10 = y10 at *
  generalize xs 11 = y11 at *
  generalize xs 12 = y12 at *
  generalize xs 13 = y13 at *
  generalize xs 14 = y14 at *
  generalize xs 15 = y15 at *
  replace hG : BG w b (P+10) 16 g wx := hG
  clear d0 d1 d2 d3 d4 d5 d6 d7 d8 d9 d10 d11 d12 d13
  obtain ⟨q, rfl, hq0, hq1, hq2, hq3⟩ := d14
  clear hB
  have hB : BG w b (P + 30) 0 g wx := hG.re (by omega)
  clear hG
  generalize wx = w2 at *
  go_wp2_with fail
  refine (odd_c b _ n _ hB.1.2 (by omega) hn0 hn).mono ?_
  rintro e w3 ⟨x, rfl, r3, g3⟩
  have hB3 : BG w b (P + 31) 0 g w3 := (hB.more g3 (by simpa using r3) (Nat.le_refl _)).re (by omega)
  have hq4 := hq3.gr g3 hq1
  clear hB g3 hq3 r3
  cases x
  · obtain ⟨u1, u2, u3, u4, u5⟩ := hq4
    obtain ⟨z0, z1, z2, z3, z4, z5, z6⟩ := bx3 u4
    have hB5 : BG w b (P + 90) 0 g (((_ : World).setCell ⟨g, 0, none⟩ (.int .i64 u1)).setCell ⟨g, 1, none⟩ (.int .i64 u2) |>.setCell ⟨g, 2, none⟩ (.int .i64 u3)) := (hB3.re (by omega)).puts (by omega) hblt ⟨u5.1, u5.2.1⟩ ⟨u5.2.2.1, u5.2.2.2.1⟩ ⟨u5.2.2.2.2.1, u5.2.2.2.2.2⟩
    obtain ⟨hD, hg, hgb⟩ := hB3
    obtain ⟨v1, v2, v3, v4, v5⟩ := hg
    obtain ⟨m0, m1, m2, m3, m4, m5, m6⟩ := bx3 v4
    have v6 := blk_set3 (x' := .int .i64 u1) (y' := .int .i64 u2) (z' := .int .i64 u3) v4
    obtain ⟨n0, n1, n2, n3, n4, n5, n6⟩ := bx3 v6
    go_wp2
    exact bodyPost_ret (v := .agg #[.int .i64 u1, .int .i64 u2, .int .i64 u3]) (by simp [results, Try.results57, go_sem, n1, n2, n3]) rfl ⟨u1, u2, u3, rfl, ⟨u5.1, u5.2.1⟩, ⟨u5.2.2.1, u5.2.2.2.1⟩, ⟨u5.2.2.2.2.1, u5.2.2.2.2.2⟩, hB5.1.2.mono (by omega), hB5.1.1⟩
  · go_wp2_with fail
    refine (pick_c b _ 3 _ hB3.1.2 (by omega) (by omega) (by omega)).mono ?_
    rintro e w4 ⟨x, rfl, xa, xb, r4, g4⟩
    have hB4 : BG w b (P + 32) 0 g w4 := (hB3.more g4 (by simpa using r4) (Nat.le_refl _)).re (by omega)
    have hq5 := hq4.gr g4 hq1
    clear hB3 hq4 r4 g4
    have hB3 := hB4
    have hq4 := hq5
    clear hB4 hq5
    have hx3 : x = 0 ∨ x = 1 ∨ x = 2 := by omega
    rcases hx3 with rfl | rfl | rfl
    · go_upto_region 7 with fail
      have hext : ∀ (i : Nat) (own : Value) (ys : Nat → Value) (wa wb : World), wa.grownBy wb (some b) → (match i with | 0 => SlR wa (q + 1) own 2 (0) (1000001) | 1 => own = .pointer (some ⟨b, 0, none⟩) | 2 => ∃ x : Int, own = .int .i64 x ∧ 0 ≤ x ∧ x < 2 | 3 => PtR wa (q + 1) own (0) (1000001) | 4 => ∃ x : Int, own = .int .i64 x ∧ 0 ≤ x ∧ x ≤ 1000001 | 5 => own = .pointer (some ⟨q, 0, none⟩) | 6 => True | _ => True) → (match i with | 0 => SlR wb (q + 1) own 2 (0) (1000001) | 1 => own = .pointer (some ⟨b, 0, none⟩) | 2 => ∃ x : Int, own = .int .i64 x ∧ 0 ≤ x ∧ x < 2 | 3 => PtR wb (q + 1) own (0) (1000001) | 4 => ∃ x : Int, own = .int .i64 x ∧ 0 ≤ x ∧ x ≤ 1000001 | 5 => own = .pointer (some ⟨q, 0, none⟩) | 6 => True | _ => True) := by
        intro i own ys wa wb e h
        match i, h with
        | 0, h => exact h.grown e (by omega)
        | 1, h => exact h
        | 2, h => exact h
        | 3, h => exact h.grown e (by omega)
        | 4, h => exact h
        | 5, h => exact h
        | 6, h => exact h
        | _ + 7, _ => trivial
      have Hext := Lib.hid hext
      clear hext
      refine wp_region_seq [(45, 0), (46, 1), (47, 2), (48, 3), (49, 4), (50, 5)] [[], [0], [0, 1], [0, 1, 2], [0, 1, 2, 3], [0, 1, 2, 3, 4], [0, 1, 2, 3, 4, 5]] (fun i own ys wx => match i with | 0 => SlR wx (q + 1) own 2 (0) (1000001) | 1 => own = .pointer (some ⟨b, 0, none⟩) | 2 => ∃ x : Int, own = .int .i64 x ∧ 0 ≤ x ∧ x < 2 | 3 => PtR wx (q + 1) own (0) (1000001) | 4 => ∃ x : Int, own = .int .i64 x ∧ 0 ≤ x ∧ x ≤ 1000001 | 5 => own = .pointer (some ⟨q, 0, none⟩) | 6 => True | _ => True) (fun kx wx => B2 w b (P+50) kx g q wx) (by kernel_rfl) (by kernel_rfl) ?g0_r3 ?gop_r3 ?gend_r3
      case g0_r3 => exact ⟨hB3.re (by omega), hq4, hq1⟩
      case gop_r3 =>
        refine ⟨?_, ?_, ?_, ?_, ?_, ?_, ?_, trivial⟩
        · intro kx xs wx hk hG hD Qo Kx hK hQo
          clear hD
          simp only [patchS, Nat.reduceAdd, Nat.reduceEqDiff, ↓reduceIte] at hQo ⊢
          have e5 := Ext.alloc wx (.cells #[.int .i64 0, .int .i64 1000001] 3)
          go_wp2
          exact hK.out _ _ ⟨⟨_, [0, 1000001], rfl, by have := hG.2.1.lt; omega, Sl_new _ _ _, by simp <;> omega⟩, hG.ext e5, fun i _ _ _ own ys h => Hext.out i own ys _ _ (ext_gr e5) h⟩
        · intro kx xs wx hk hG hD Qo Kx hK hQo
          clear hD
          simp only [patchS, Nat.reduceAdd, Nat.reduceEqDiff, ↓reduceIte] at hQo ⊢
          go_wp2
          exact hK.out _ _ ⟨rfl, hG.step, fun _ _ _ _ _ _ h => h⟩
        · intro kx xs wx hk hG hD Qo Kx hK hQo
          have d1 : (xs 1) = .pointer (some ⟨b, 0, none⟩) := hD 1 rfl
          clear hD
          simp only [patchS, Nat.reduceAdd, Nat.reduceEqDiff, ↓reduceIte] at hQo ⊢
          generalize xs 1 = y1 at *
          subst d1
          go_wp2_with fail
          refine (pick_c _ _ _ _ hG.1.1.2 (DG.small hk (by decide) (by decide) (by omega)) (by omega) (by omega)).mono ?_
          rintro e w4 ⟨xx, rfl, xa, xb, rd, gr⟩
          go_wp2
          exact hK.out _ _ ⟨⟨xx, rfl, xa, by omega⟩, hG.more gr rd (by decide), fun i _ _ _ own ys h => Hext.out i own ys _ _ gr h⟩
        · intro kx xs wx hk hG hD Qo Kx hK hQo
          have d0 : SlR wx (q + 1) (xs 0) 2 (0) (1000001) := hD 0 rfl
          have d2 : ∃ x : Int, (xs 2) = .int .i64 x ∧ 0 ≤ x ∧ x < 2 := hD 2 rfl
          clear hD
          simp only [patchS, Nat.reduceAdd, Nat.reduceEqDiff, ↓reduceIte] at hQo ⊢
          generalize xs 0 = y0 at *
          generalize xs 2 = y2 at *
          obtain ⟨g0, l0, rfl, n0, s0, r0⟩ := d0
          obtain ⟨x2, rfl, x2a, x2b⟩ := d2
          go_wp2
          exact hK.out _ _ ⟨SlR.at n0 s0 r0 (by omega), hG.step, fun _ _ _ _ _ _ h => h⟩
        · intro kx xs wx hk hG hD Qo Kx hK hQo
          have d3 : PtR wx (q + 1) (xs 3) (0) (1000001) := hD 3 rfl
          clear hD
          simp only [patchS, Nat.reduceAdd, Nat.reduceEqDiff, ↓reduceIte] at hQo ⊢
          generalize xs 3 = y3 at *
          obtain ⟨g3, j3, y3, rfl, n3, c3, y3a, y3b⟩ := d3
          go_wp2
          exact hK.out _ _ ⟨⟨_, rfl, by omega, by omega⟩, hG.step, fun _ _ _ _ _ _ h => h⟩
        · intro kx xs wx hk hG hD Qo Kx hK hQo
          clear hD
          simp only [patchS, Nat.reduceAdd, Nat.reduceEqDiff, ↓reduceIte] at hQo ⊢
          go_wp2
          exact hK.out _ _ ⟨rfl, hG.step, fun _ _ _ _ _ _ h => h⟩
        · intro kx xs wx hk hG hD Qo Kx hK hQo
          have d4 : ∃ x : Int, (xs 4) = .int .i64 x ∧ 0 ≤ x ∧ x ≤ 1000001 := hD 4 rfl
          have d5 : (xs 5) = .pointer (some ⟨q, 0, none⟩) := hD 5 rfl
          clear hD
          simp only [patchS, Nat.reduceAdd, Nat.reduceEqDiff, ↓reduceIte] at hQo ⊢
          generalize xs 4 = y4 at *
          generalize xs 5 = y5 at *
          obtain ⟨x4, rfl, x4a, x4b⟩ := d4
          subst d5
          obtain ⟨hG1, hG2, hG4⟩ := hG
          have hG3 := hG2
          obtain ⟨u1, u2, u3, u4, u5⟩ := hG2
          obtain ⟨z0, z1, z2, z3, z4, z5, z6⟩ := bx3 u4
          go_wp2
          have hst : ∀ (wy : World), (∀ (B : Nat) (v : Value) (n : Nat) (lo hi : Int), q < B → (SlR wx B v n lo hi → SlR wy B v n lo hi) ∧ (PtR wx B v lo hi → PtR wy B v lo hi)) → ∀ (ii : Nat), ii < 7 → ii ≠ 6 → ([[], [0], [0, 1], [0, 1, 2], [0, 1, 2, 3], [0, 1, 2, 3, 4], [0, 1, 2, 3, 4, 5]].getD ii []).contains 6 = false → ∀ (own : Value) (ys : Nat → Value), (match ii with | 0 => SlR wx (q + 1) own 2 (0) (1000001) | 1 => own = .pointer (some ⟨b, 0, none⟩) | 2 => ∃ x : Int, own = .int .i64 x ∧ 0 ≤ x ∧ x < 2 | 3 => PtR wx (q + 1) own (0) (1000001) | 4 => ∃ x : Int, own = .int .i64 x ∧ 0 ≤ x ∧ x ≤ 1000001 | 5 => own = .pointer (some ⟨q, 0, none⟩) | 6 => True | _ => True) → (match ii with | 0 => SlR wy (q + 1) own 2 (0) (1000001) | 1 => own = .pointer (some ⟨b, 0, none⟩) | 2 => ∃ x : Int, own = .int .i64 x ∧ 0 ≤ x ∧ x < 2 | 3 => PtR wy (q + 1) own (0) (1000001) | 4 => ∃ x : Int, own = .int .i64 x ∧ 0 ≤ x ∧ x ≤ 1000001 | 5 => own = .pointer (some ⟨q, 0, none⟩) | 6 => True | _ => True) := by
            intro wy hy ii hii hne hc own ys h
            match ii, h with
            | 0, h => exact (hy _ _ _ _ _ (by omega)).1 h
            | 1, h => exact h
            | 2, h => exact h
            | 3, h => exact (hy _ _ 0 _ _ (by omega)).2 h
            | 4, h => exact h
            | 5, h => exact h
            | 6, h => exact absurd rfl hne
            | _ + 7, _ => trivial
          exact hQo undef _ (hK.out _ _ ⟨trivial, ⟨⟨hG1.step.1.set hq0 (by omega), hG1.2.1.set (Ne.symm hq2), hG1.2.2⟩, hG3.put0 (by omega), hG4⟩, hst _ (fun B v n lo hi hB => ⟨fun h => h.set hB, fun h => h.set hB⟩)⟩)
      clear Hext
      intro xs wx hV hG
      have d0 : SlR wx (q + 1) (xs 0) 2 (0) (1000001) := hV 0 (by decide)
      have d1 : (xs 1) = .pointer (some ⟨b, 0, none⟩) := hV 1 (by decide)
      have d2 : ∃ x : Int, (xs 2) = .int .i64 x ∧ 0 ≤ x ∧ x < 2 := hV 2 (by decide)
      have d3 : PtR wx (q + 1) (xs 3) (0) (1000001) := hV 3 (by decide)
      have d4 : ∃ x : Int, (xs 4) = .int .i64 x ∧ 0 ≤ x ∧ x ≤ 1000001 := hV 4 (by decide)
      have d5 : (xs 5) = .pointer (some ⟨q, 0, none⟩) := hV 5 (by decide)
      clear hV
      simp only [patchS, Nat.reduceAdd, Nat.reduceEqDiff, ↓reduceIte]
      generalize xs 0 = y0 at *
      generalize xs 1 = y1 at *
      generalize xs 2 = y2 at *
      generalize xs 3 = y3 at *
      generalize xs 4 = y4 at *
      generalize xs 5 = y5 at *
      generalize xs 6 = y6 at *
      replace hG : B2 w b (P+50) 7 g q wx := hG
      clear d0 d1 d2 d3 d4
      subst d5
      clear hB3 hq4
      obtain ⟨hB3, hq4, -⟩ := hG
      obtain ⟨u1, u2, u3, u4, u5⟩ := hq4
      obtain ⟨z0, z1, z2, z3, z4, z5, z6⟩ := bx3 u4
      have hB5 : BG w b (P + 90) 0 g (((_ : World).setCell ⟨g, 0, none⟩ (.int .i64 u1)).setCell ⟨g, 1, none⟩ (.int .i64 u2) |>.setCell ⟨g, 2, none⟩ (.int .i64 u3)) := (hB3.re (by omega)).puts (by omega) hblt ⟨u5.1, u5.2.1⟩ ⟨u5.2.2.1, u5.2.2.2.1⟩ ⟨u5.2.2.2.2.1, u5.2.2.2.2.2⟩
      obtain ⟨hD, hg, hgb⟩ := hB3
      obtain ⟨v1, v2, v3, v4, v5⟩ := hg
      obtain ⟨m0, m1, m2, m3, m4, m5, m6⟩ := bx3 v4
      have v6 := blk_set3 (x' := .int .i64 u1) (y' := .int .i64 u2) (z' := .int .i64 u3) v4
      obtain ⟨n0, n1, n2, n3, n4, n5, n6⟩ := bx3 v6
      go_wp2
      exact bodyPost_ret (v := .agg #[.int .i64 u1, .int .i64 u2, .int .i64 u3]) (by simp [results, Try.results57, go_sem, n1, n2, n3]) rfl ⟨u1, u2, u3, rfl, ⟨u5.1, u5.2.1⟩, ⟨u5.2.2.1, u5.2.2.2.1⟩, ⟨u5.2.2.2.2.1, u5.2.2.2.2.2⟩, hB5.1.2.mono (by omega), hB5.1.1⟩
    · go_upto_region 9 with fail
      have hext : ∀ (i : Nat) (own : Value) (ys : Nat → Value) (wa wb : World), wa.grownBy wb (some b) → (match i with | 0 => own = .int .i64 (x9) | 1 => ∃ x : Int, own = .int .i64 x ∧ 2 ≤ x ∧ x ≤ 10202 | 2 => SlR wa (q + 1) own 2 (-1) (10202) | 3 => own = .pointer (some ⟨b, 0, none⟩) | 4 => ∃ x : Int, own = .int .i64 x ∧ 0 ≤ x ∧ x < 2 | 5 => PtR wa (q + 1) own (-1) (10202) | 6 => ∃ x : Int, own = .int .i64 x ∧ -1 ≤ x ∧ x ≤ 10202 | 7 => own = .pointer (some ⟨q, 1, none⟩) | 8 => True | _ => True) → (match i with | 0 => own = .int .i64 (x9) | 1 => ∃ x : Int, own = .int .i64 x ∧ 2 ≤ x ∧ x ≤ 10202 | 2 => SlR wb (q + 1) own 2 (-1) (10202) | 3 => own = .pointer (some ⟨b, 0, none⟩) | 4 => ∃ x : Int, own = .int .i64 x ∧ 0 ≤ x ∧ x < 2 | 5 => PtR wb (q + 1) own (-1) (10202) | 6 => ∃ x : Int, own = .int .i64 x ∧ -1 ≤ x ∧ x ≤ 10202 | 7 => own = .pointer (some ⟨q, 1, none⟩) | 8 => True | _ => True) := by
        intro i own ys wa wb e h
        match i, h with
        | 0, h => exact h
        | 1, h => exact h
        | 2, h => exact h.grown e (by omega)
        | 3, h => exact h
        | 4, h => exact h
        | 5, h => exact h.grown e (by omega)
        | 6, h => exact h
        | 7, h => exact h
        | 8, h => exact h
        | _ + 9, _ => trivial
      have Hext := Lib.hid hext
      clear hext
      refine wp_region_seq [(53, 0), (54, 1), (55, 2), (56, 3), (57, 4), (58, 5), (59, 6), (60, 7)] [[], [0], [0, 1], [0, 1, 2], [0, 1, 2, 3], [0, 1, 2, 3, 4], [0, 1, 2, 3, 4, 5], [0, 1, 2, 3, 4, 5, 6], [0, 1, 2, 3, 4, 5, 6, 7]] (fun i own ys wx => match i with | 0 => own = .int .i64 (x9) | 1 => ∃ x : Int, own = .int .i64 x ∧ 2 ≤ x ∧ x ≤ 10202 | 2 => SlR wx (q + 1) own 2 (-1) (10202) | 3 => own = .pointer (some ⟨b, 0, none⟩) | 4 => ∃ x : Int, own = .int .i64 x ∧ 0 ≤ x ∧ x < 2 | 5 => PtR wx (q + 1) own (-1) (10202) | 6 => ∃ x : Int, own = .int .i64 x ∧ -1 ≤ x ∧ x ≤ 10202 | 7 => own = .pointer (some ⟨q, 1, none⟩) | 8 => True | _ => True) (fun kx wx => B2 w b (P+50) kx g q wx) (by kernel_rfl) (by kernel_rfl) ?g0_r4 ?gop_r4 ?gend_r4
      case g0_r4 => exact ⟨hB3.re (by omega), hq4, hq1⟩
      case gop_r4 =>
        refine ⟨?_, ?_, ?_, ?_, ?_, ?_, ?_, ?_, ?_, trivial⟩
        · intro kx xs wx hk hG hD Qo Kx hK hQo
          clear hD
          simp only [patchS, Nat.reduceAdd, Nat.reduceEqDiff, ↓reduceIte] at hQo ⊢
          go_wp2
          exact hK.out _ _ ⟨rfl, hG.step, fun _ _ _ _ _ _ h => h⟩
        · intro kx xs wx hk hG hD Qo Kx hK hQo
          have d0 : (xs 0) = .int .i64 (x9) := hD 0 rfl
          clear hD
          simp only [patchS, Nat.reduceAdd, Nat.reduceEqDiff, ↓reduceIte] at hQo ⊢
          generalize xs 0 = y0 at *
          subst d0
          go_wp2
          exact hK.out _ _ ⟨⟨_, rfl, by omega, by omega⟩, hG.step, fun _ _ _ _ _ _ h => h⟩
        · intro kx xs wx hk hG hD Qo Kx hK hQo
          have d1 : ∃ x : Int, (xs 1) = .int .i64 x ∧ 2 ≤ x ∧ x ≤ 10202 := hD 1 rfl
          clear hD
          simp only [patchS, Nat.reduceAdd, Nat.reduceEqDiff, ↓reduceIte] at hQo ⊢
          generalize xs 1 = y1 at *
          obtain ⟨x1, rfl, x1a, x1b⟩ := d1
          have e5 := Ext.alloc wx (.cells #[.int .i64 (-1), .int .i64 x1] 3)
          go_wp2
          exact hK.out _ _ ⟨⟨_, [(-1), x1], rfl, by have := hG.2.1.lt; omega, Sl_new _ _ _, by simp <;> omega⟩, hG.ext e5, fun i _ _ _ own ys h => Hext.out i own ys _ _ (ext_gr e5) h⟩
        · intro kx xs wx hk hG hD Qo Kx hK hQo
          clear hD
          simp only [patchS, Nat.reduceAdd, Nat.reduceEqDiff, ↓reduceIte] at hQo ⊢
          go_wp2
          exact hK.out _ _ ⟨rfl, hG.step, fun _ _ _ _ _ _ h => h⟩
        · intro kx xs wx hk hG hD Qo Kx hK hQo
          have d3 : (xs 3) = .pointer (some ⟨b, 0, none⟩) := hD 3 rfl
          clear hD
          simp only [patchS, Nat.reduceAdd, Nat.reduceEqDiff, ↓reduceIte] at hQo ⊢
          generalize xs 3 = y3 at *
          subst d3
          go_wp2_with fail
          refine (pick_c _ _ _ _ hG.1.1.2 (DG.small hk (by decide) (by decide) (by omega)) (by omega) (by omega)).mono ?_
          rintro e w4 ⟨xx, rfl, xa, xb, rd, gr⟩
          go_wp2
          exact hK.out _ _ ⟨⟨xx, rfl, xa, by omega⟩, hG.more gr rd (by decide), fun i _ _ _ own ys h => Hext.out i own ys _ _ gr h⟩
        · intro kx xs wx hk hG hD Qo Kx hK hQo
          have d2 : SlR wx (q + 1) (xs 2) 2 (-1) (10202) := hD 2 rfl
          have d4 : ∃ x : Int, (xs 4) = .int .i64 x ∧ 0 ≤ x ∧ x < 2 := hD 4 rfl
          clear hD
          simp only [patchS, Nat.reduceAdd, Nat.reduceEqDiff, ↓reduceIte] at hQo ⊢
          generalize xs 2 = y2 at *
          generalize xs 4 = y4 at *
          obtain ⟨g2, l2, rfl, n2, s2, r2⟩ := d2
          obtain ⟨x4, rfl, x4a, x4b⟩ := d4
          go_wp2
          exact hK.out _ _ ⟨SlR.at n2 s2 r2 (by omega), hG.step, fun _ _ _ _ _ _ h => h⟩
        · intro kx xs wx hk hG hD Qo Kx hK hQo
          have d5 : PtR wx (q + 1) (xs 5) (-1) (10202) := hD 5 rfl
          clear hD
          simp only [patchS, Nat.reduceAdd, Nat.reduceEqDiff, ↓reduceIte] at hQo ⊢
          generalize xs 5 = y5 at *
          obtain ⟨g5, j5, y5, rfl, n5, c5, y5a, y5b⟩ := d5
          go_wp2
          exact hK.out _ _ ⟨⟨_, rfl, by omega, by omega⟩, hG.step, fun _ _ _ _ _ _ h => h⟩
        · intro kx xs wx hk hG hD Qo Kx hK hQo
          clear hD
          simp only [patchS, Nat.reduceAdd, Nat.reduceEqDiff, ↓reduceIte] at hQo ⊢
          go_wp2
          exact hK.out _ _ ⟨rfl, hG.step, fun _ _ _ _ _ _ h => h⟩
        · intro kx xs wx hk hG hD Qo Kx hK hQo
          have d6 : ∃ x : Int, (xs 6) = .int .i64 x ∧ -1 ≤ x ∧ x ≤ 10202 := hD 6 rfl
          have d7 : (xs 7) = .pointer (some ⟨q, 1, none⟩) := hD 7 rfl
          clear hD
          simp only [patchS, Nat.reduceAdd, Nat.reduceEqDiff, ↓reduceIte] at hQo ⊢
          generalize xs 6 = y6 at *
          generalize xs 7 = y7 at *
          obtain ⟨x6, rfl, x6a, x6b⟩ := d6
          subst d7
          obtain ⟨hG1, hG2, hG4⟩ := hG
          have hG3 := hG2
          obtain ⟨u1, u2, u3, u4, u5⟩ := hG2
          obtain ⟨z0, z1, z2, z3, z4, z5, z6⟩ := bx3 u4
          go_wp2
          have hst : ∀ (wy : World), (∀ (B : Nat) (v : Value) (n : Nat) (lo hi : Int), q < B → (SlR wx B v n lo hi → SlR wy B v n lo hi) ∧ (PtR wx B v lo hi → PtR wy B v lo hi)) → ∀ (ii : Nat), ii < 9 → ii ≠ 8 → ([[], [0], [0, 1], [0, 1, 2], [0, 1, 2, 3], [0, 1, 2, 3, 4], [0, 1, 2, 3, 4, 5], [0, 1, 2, 3, 4, 5, 6], [0, 1, 2, 3, 4, 5, 6, 7]].getD ii []).contains 8 = false → ∀ (own : Value) (ys : Nat → Value), (match ii with | 0 => own = .int .i64 (x9) | 1 => ∃ x : Int, own = .int .i64 x ∧ 2 ≤ x ∧ x ≤ 10202 | 2 => SlR wx (q + 1) own 2 (-1) (10202) | 3 => own = .pointer (some ⟨b, 0, none⟩) | 4 => ∃ x : Int, own = .int .i64 x ∧ 0 ≤ x ∧ x < 2 | 5 => PtR wx (q + 1) own (-1) (10202) | 6 => ∃ x : Int, own = .int .i64 x ∧ -1 ≤ x ∧ x ≤ 10202 | 7 => own = .pointer (some ⟨q, 1, none⟩) | 8 => True | _ => True) → (match ii with | 0 => own = .int .i64 (x9) | 1 => ∃ x : Int, own = .int .i64 x ∧ 2 ≤ x ∧ x ≤ 10202 | 2 => SlR wy (q + 1) own 2 (-1) (10202) | 3 => own = .pointer (some ⟨b, 0, none⟩) | 4 => ∃ x : Int, own = .int .i64 x ∧ 0 ≤ x ∧ x < 2 | 5 => PtR wy (q + 1) own (-1) (10202) | 6 => ∃ x : Int, own = .int .i64 x ∧ -1 ≤ x ∧ x ≤ 10202 | 7 => own = .pointer (some ⟨q, 1, none⟩) | 8 => True | _ => True) := by
            intro wy hy ii hii hne hc own ys h
            match ii, h with
            | 0, h => exact h
            | 1, h => exact h
            | 2, h => exact (hy _ _ _ _ _ (by omega)).1 h
            | 3, h => exact h
            | 4, h => exact h
            | 5, h => exact (hy _ _ 0 _ _ (by omega)).2 h
            | 6, h => exact h
            | 7, h => exact h
            | 8, h => exact absurd rfl hne
            | _ + 9, _ => trivial
          exact hQo undef _ (hK.out _ _ ⟨trivial, ⟨⟨hG1.step.1.set hq0 (by omega), hG1.2.1.set (Ne.symm hq2), hG1.2.2⟩, hG3.put1 (by omega), hG4⟩, hst _ (fun B v n lo hi hB => ⟨fun h => h.set hB, fun h => h.set hB⟩)⟩)
      clear Hext
      intro xs wx hV hG
      have d0 : (xs 0) = .int .i64 (x9) := hV 0 (by decide)
      have d1 : ∃ x : Int, (xs 1) = .int .i64 x ∧ 2 ≤ x ∧ x ≤ 10202 := hV 1 (by decide)
      have d2 : SlR wx (q + 1) (xs 2) 2 (-1) (10202) := hV 2 (by decide)
      have d3 : (xs 3) = .pointer (some ⟨b, 0, none⟩) := hV 3 (by decide)
      have d4 : ∃ x : Int, (xs 4) = .int .i64 x ∧ 0 ≤ x ∧ x < 2 := hV 4 (by decide)
      have d5 : PtR wx (q + 1) (xs 5) (-1) (10202) := hV 5 (by decide)
      have d6 : ∃ x : Int, (xs 6) = .int .i64 x ∧ -1 ≤ x ∧ x ≤ 10202 := hV 6 (by decide)
      have d7 : (xs 7) = .pointer (some ⟨q, 1, none⟩) := hV 7 (by decide)
      clear hV
      simp only [patchS, Nat.reduceAdd, Nat.reduceEqDiff, ↓reduceIte]
      generalize xs 0 = y0 at *
      generalize xs 1 = y1 at *
      generalize xs 2 = y2 at *
      generalize xs 3 = y3 at *
      generalize xs 4 = y4 at *
      generalize xs 5 = y5 at *
      generalize xs 6 = y6 at *
      generalize xs 7 = y7 at *
      generalize xs 8 = y8 at *
      replace hG : B2 w b (P+50) 9 g q wx := hG
      clear d0 d1 d2 d3 d4 d5 d6
      subst d7
      clear hB3 hq4
      obtain ⟨hB3, hq4, -⟩ := hG
      obtain ⟨u1, u2, u3, u4, u5⟩ := hq4
      obtain ⟨z0, z1, z2, z3, z4, z5, z6⟩ := bx3 u4
      have hB5 : BG w b (P + 90) 0 g (((_ : World).setCell ⟨g, 0, none⟩ (.int .i64 u1)).setCell ⟨g, 1, none⟩ (.int .i64 u2) |>.setCell ⟨g, 2, none⟩ (.int .i64 u3)) := (hB3.re (by omega)).puts (by omega) hblt ⟨u5.1, u5.2.1⟩ ⟨u5.2.2.1, u5.2.2.2.1⟩ ⟨u5.2.2.2.2.1, u5.2.2.2.2.2⟩
      obtain ⟨hD, hg, hgb⟩ := hB3
      obtain ⟨v1, v2, v3, v4, v5⟩ := hg
      obtain ⟨m0, m1, m2, m3, m4, m5, m6⟩ := bx3 v4
      have v6 := blk_set3 (x' := .int .i64 u1) (y' := .int .i64 u2) (z' := .int .i64 u3) v4
      obtain ⟨n0, n1, n2, n3, n4, n5, n6⟩ := bx3 v6
      go_wp2
      exact bodyPost_ret (v := .agg #[.int .i64 u1, .int .i64 u2, .int .i64 u3]) (by simp [results, Try.results57, go_sem, n1, n2, n3]) rfl ⟨u1, u2, u3, rfl, ⟨u5.1, u5.2.1⟩, ⟨u5.2.2.1, u5.2.2.2.1⟩, ⟨u5.2.2.2.2.1, u5.2.2.2.2.2⟩, hB5.1.2.mono (by omega), hB5.1.1⟩
    · go_upto_region 5 with fail
      have hext : ∀ (i : Nat) (own : Value) (ys : Nat → Value) (wa wb : World), wa.grownBy wb (some b) → (match i with | 0 => own = .int .i64 (x9) | 1 => ∃ x : Int, own = .int .i64 x ∧ 2 ≤ x ∧ x ≤ 10202 | 2 => SlR wa (q + 1) own 2 (-1) (10202) | 3 => own = .pointer (some ⟨b, 0, none⟩) | 4 => ∃ x : Int, own = .int .i64 x ∧ 0 ≤ x ∧ x < 2 | 5 => PtR wa (q + 1) own (-1) (10202) | 6 => ∃ x : Int, own = .int .i64 x ∧ -1 ≤ x ∧ x ≤ 10202 | 7 => own = .pointer (some ⟨q, 2, none⟩) | 8 => True | _ => True) → (match i with | 0 => own = .int .i64 (x9) | 1 => ∃ x : Int, own = .int .i64 x ∧ 2 ≤ x ∧ x ≤ 10202 | 2 => SlR wb (q + 1) own 2 (-1) (10202) | 3 => own = .pointer (some ⟨b, 0, none⟩) | 4 => ∃ x : Int, own = .int .i64 x ∧ 0 ≤ x ∧ x < 2 | 5 => PtR wb (q + 1) own (-1) (10202) | 6 => ∃ x : Int, own = .int .i64 x ∧ -1 ≤ x ∧ x ≤ 10202 | 7 => own = .pointer (some ⟨q, 2, none⟩) | 8 => True | _ => True) := by
        intro i own ys wa wb e h
        match i, h with
        | 0, h => exact h
        | 1, h => exact h
        | 2, h => exact h.grown e (by omega)
        | 3, h => exact h
        | 4, h => exact h
        | 5, h => exact h.grown e (by omega)
        | 6, h => exact h
        | 7, h => exact h
        | 8, h => exact h
        | _ + 9, _ => trivial
      have Hext := Lib.hid hext
      clear hext
      refine wp_region_seq [(35, 0), (36, 1), (37, 2), (38, 3), (39, 4), (40, 5), (41, 6), (42, 7)] [[], [0], [0, 1], [0, 1, 2], [0, 1, 2, 3], [0, 1, 2, 3, 4], [0, 1, 2, 3, 4, 5], [0, 1, 2, 3, 4, 5, 6], [0, 1, 2, 3, 4, 5, 6, 7]] (fun i own ys wx => match i with | 0 => own = .int .i64 (x9) | 1 => ∃ x : Int, own = .int .i64 x ∧ 2 ≤ x ∧ x ≤ 10202 | 2 => SlR wx (q + 1) own 2 (-1) (10202) | 3 => own = .pointer (some ⟨b, 0, none⟩) | 4 => ∃ x : Int, own = .int .i64 x ∧ 0 ≤ x ∧ x < 2 | 5 => PtR wx (q + 1) own (-1) (10202) | 6 => ∃ x : Int, own = .int .i64 x ∧ -1 ≤ x ∧ x ≤ 10202 | 7 => own = .pointer (some ⟨q, 2, none⟩) | 8 => True | _ => True) (fun kx wx => B2 w b (P+50) kx g q wx) (by kernel_rfl) (by kernel_rfl) ?g0_r5 ?gop_r5 ?gend_r5
      case g0_r5 => exact ⟨hB3.re (by omega), hq4, hq1⟩
      case gop_r5 =>
        refine ⟨?_, ?_, ?_, ?_, ?_, ?_, ?_, ?_, ?_, trivial⟩
        · intro kx xs wx hk hG hD Qo Kx hK hQo
          clear hD
          simp only [patchS, Nat.reduceAdd, Nat.reduceEqDiff, ↓reduceIte] at hQo ⊢
          go_wp2
          exact hK.out _ _ ⟨rfl, hG.step, fun _ _ _ _ _ _ h => h⟩
        · intro kx xs wx hk hG hD Qo Kx hK hQo
          have d0 : (xs 0) = .int .i64 (x9) := hD 0 rfl
          clear hD
          simp only [patchS, Nat.reduceAdd, Nat.reduceEqDiff, ↓reduceIte] at hQo ⊢
          generalize xs 0 = y0 at *
          subst d0
          go_wp2
          exact hK.out _ _ ⟨⟨_, rfl, by omega, by omega⟩, hG.step, fun _ _ _ _ _ _ h => h⟩
        · intro kx xs wx hk hG hD Qo Kx hK hQo
          have d1 : ∃ x : Int, (xs 1) = .int .i64 x ∧ 2 ≤ x ∧ x ≤ 10202 := hD 1 rfl
          clear hD
          simp only [patchS, Nat.reduceAdd, Nat.reduceEqDiff, ↓reduceIte] at hQo ⊢
          generalize xs 1 = y1 at *
          obtain ⟨x1, rfl, x1a, x1b⟩ := d1
          have e5 := Ext.alloc wx (.cells #[.int .i64 (-1), .int .i64 x1] 3)
          go_wp2
          exact hK.out _ _ ⟨⟨_, [(-1), x1], rfl, by have := hG.2.1.lt; omega, Sl_new _ _ _, by simp <;> omega⟩, hG.ext e5, fun i _ _ _ own ys h => Hext.out i own ys _ _ (ext_gr e5) h⟩
        · intro kx xs wx hk hG hD Qo Kx hK hQo
          clear hD
          simp only [patchS, Nat.reduceAdd, Nat.reduceEqDiff, ↓reduceIte] at hQo ⊢
          go_wp2
          exact hK.out _ _ ⟨rfl, hG.step, fun _ _ _ _ _ _ h => h⟩
        · intro kx xs wx hk hG hD Qo Kx hK hQo
          have d3 : (xs 3) = .pointer (some ⟨b, 0, none⟩) := hD 3 rfl
          clear hD
          simp only [patchS, Nat.reduceAdd, Nat.reduceEqDiff, ↓reduceIte] at hQo ⊢
          generalize xs 3 = y3 at *
          subst d3
          go_wp2_with fail
          refine (pick_c _ _ _ _ hG.1.1.2 (DG.small hk (by decide) (by decide) (by omega)) (by omega) (by omega)).mono ?_
          rintro e w4 ⟨xx, rfl, xa, xb, rd, gr⟩
          go_wp2
          exact hK.out _ _ ⟨⟨xx, rfl, xa, by omega⟩, hG.more gr rd (by decide), fun i _ _ _ own ys h => Hext.out i own ys _ _ gr h⟩
        · intro kx xs wx hk hG hD Qo Kx hK hQo
          have d2 : SlR wx (q + 1) (xs 2) 2 (-1) (10202) := hD 2 rfl
          have d4 : ∃ x : Int, (xs 4) = .int .i64 x ∧ 0 ≤ x ∧ x < 2 := hD 4 rfl
          clear hD
          simp only [patchS, Nat.reduceAdd, Nat.reduceEqDiff, ↓reduceIte] at hQo ⊢
          generalize xs 2 = y2 at *
          generalize xs 4 = y4 at *
          obtain ⟨g2, l2, rfl, n2, s2, r2⟩ := d2
          obtain ⟨x4, rfl, x4a, x4b⟩ := d4
          go_wp2
          exact hK.out _ _ ⟨SlR.at n2 s2 r2 (by omega), hG.step, fun _ _ _ _ _ _ h => h⟩
        · intro kx xs wx hk hG hD Qo Kx hK hQo
          have d5 : PtR wx (q + 1) (xs 5) (-1) (10202) := hD 5 rfl
          clear hD
          simp only [patchS, Nat.reduceAdd, Nat.reduceEqDiff, ↓reduceIte] at hQo ⊢
          generalize xs 5 = y5 at *
          obtain ⟨g5, j5, y5, rfl, n5, c5, y5a, y5b⟩ := d5
          go_wp2
          exact hK.out _ _ ⟨⟨_, rfl, by omega, by omega⟩, hG.step, fun _ _ _ _ _ _ h => h⟩
        · intro kx xs wx hk hG hD Qo Kx hK hQo
          clear hD
          simp only [patchS, Nat.reduceAdd, Nat.reduceEqDiff, ↓reduceIte] at hQo ⊢
          go_wp2
          exact hK.out _ _ ⟨rfl, hG.step, fun _ _ _ _ _ _ h => h⟩
        · intro kx xs wx hk hG hD Qo Kx hK hQo
          have d6 : ∃ x : Int, (xs 6) = .int .i64 x ∧ -1 ≤ x ∧ x ≤ 10202 := hD 6 rfl
          have d7 : (xs 7) = .pointer (some ⟨q, 2, none⟩) := hD 7 rfl
          clear hD
          simp only [patchS, Nat.reduceAdd, Nat.reduceEqDiff, ↓reduceIte] at hQo ⊢
          generalize xs 6 = y6 at *
          generalize xs 7 = y7 at *
          obtain ⟨x6, rfl, x6a, x6b⟩ := d6
          subst d7
          obtain ⟨hG1, hG2, hG4⟩ := hG
          have hG3 := hG2
          obtain ⟨u1, u2, u3, u4, u5⟩ := hG2
          obtain ⟨z0, z1, z2, z3, z4, z5, z6⟩ := bx3 u4
          go_wp2
          have hst : ∀ (wy : World), (∀ (B : Nat) (v : Value) (n : Nat) (lo hi : Int), q < B → (SlR wx B v n lo hi → SlR wy B v n lo hi) ∧ (PtR wx B v lo hi → PtR wy B v lo hi)) → ∀ (ii : Nat), ii < 9 → ii ≠ 8 → ([[], [0], [0, 1], [0, 1, 2], [0, 1, 2, 3], [0, 1, 2, 3, 4], [0, 1, 2, 3, 4, 5], [0, 1, 2, 3, 4, 5, 6], [0, 1, 2, 3, 4, 5, 6, 7]].getD ii []).contains 8 = false → ∀ (own : Value) (ys : Nat → Value), (match ii with | 0 => own = .int .i64 (x9) | 1 => ∃ x : Int, own = .int .i64 x ∧ 2 ≤ x ∧ x ≤ 10202 | 2 => SlR wx (q + 1) own 2 (-1) (10202) | 3 => own = .pointer (some ⟨b, 0, none⟩) | 4 => ∃ x : Int, own = .int .i64 x ∧ 0 ≤ x ∧ x < 2 | 5 => PtR wx (q + 1) own (-1) (10202) | 6 => ∃ x : Int, own = .int .i64 x ∧ -1 ≤ x ∧ x ≤ 10202 | 7 => own = .pointer (some ⟨q, 2, none⟩) | 8 => True | _ => True) → (match ii with | 0 => own = .int .i64 (x9) | 1 => ∃ x : Int, own = .int .i64 x ∧ 2 ≤ x ∧ x ≤ 10202 | 2 => SlR wy (q + 1) own 2 (-1) (10202) | 3 => own = .pointer (some ⟨b, 0, none⟩) | 4 => ∃ x : Int, own = .int .i64 x ∧ 0 ≤ x ∧ x < 2 | 5 => PtR wy (q + 1) own (-1) (10202) | 6 => ∃ x : Int, own = .int .i64 x ∧ -1 ≤ x ∧ x ≤ 10202 | 7 => own = .pointer (some ⟨q, 2, none⟩) | 8 => True | _ => True) := by
            intro wy hy ii hii hne hc own ys h
            match ii, h with
            | 0, h => exact h
            | 1, h => exact h
            | 2, h => exact (hy _ _ _ _ _ (by omega)).1 h
            | 3, h => exact h
            | 4, h => exact h
            | 5, h => exact (hy _ _ 0 _ _ (by omega)).2 h
            | 6, h => exact h
            | 7, h => exact h
            | 8, h => exact absurd rfl hne
            | _ + 9, _ => trivial
          exact hQo undef _ (hK.out _ _ ⟨trivial, ⟨⟨hG1.step.1.set hq0 (by omega), hG1.2.1.set (Ne.symm hq2), hG1.2.2⟩, hG3.put2 (by omega), hG4⟩, hst _ (fun B v n lo hi hB => ⟨fun h => h.set hB, fun h => h.set hB⟩)⟩)
      clear Hext
      intro xs wx hV hG
      have d0 : (xs 0) = .int .i64 (x9) := hV 0 (by decide)
      have d1 : ∃ x : Int, (xs 1) = .int .i64 x ∧ 2 ≤ x ∧ x ≤ 10202 := hV 1 (by decide)
      have d2 : SlR wx (q + 1) (xs 2) 2 (-1) (10202) := hV 2 (by decide)
      have d3 : (xs 3) = .pointer (some ⟨b, 0, none⟩) := hV 3 (by decide)
      have d4 : ∃ x : Int, (xs 4) = .int .i64 x ∧ 0 ≤ x ∧ x < 2 := hV 4 (by decide)
      have d5 : PtR wx (q + 1) (xs 5) (-1) (10202) := hV 5 (by decide)
      have d6 : ∃ x : Int, (xs 6) = .int .i64 x ∧ -1 ≤ x ∧ x ≤ 10202 := hV 6 (by decide)
      have d7 : (xs 7) = .pointer (some ⟨q, 2, none⟩) := hV 7 (by decide)
      clear hV
      simp only [patchS, Nat.reduceAdd, Nat.reduceEqDiff, ↓reduceIte]
      generalize xs 0 = y0 at *
      generalize xs 1 = y1 at *
      generalize xs 2 = y2 at *
      generalize xs 3 = y3 at *
      generalize xs 4 = y4 at *
      generalize xs 5 = y5 at *
      generalize xs 6 = y6 at *
      generalize xs 7 = y7 at *
      generalize xs 8 = y8 at *
      replace hG : B2 w b (P+50) 9 g q wx := hG
      clear d0 d1 d2 d3 d4 d5 d6
      subst d7
      clear hB3 hq4
      obtain ⟨hB3, hq4, -⟩ := hG
      obtain ⟨u1, u2, u3, u4, u5⟩ := hq4
      obtain ⟨z0, z1, z2, z3, z4, z5, z6⟩ := bx3 u4
      have hB5 : BG w b (P + 90) 0 g (((_ : World).setCell ⟨g, 0, none⟩ (.int .i64 u1)).setCell ⟨g, 1, none⟩ (.int .i64 u2) |>.setCell ⟨g, 2, none⟩ (.int .i64 u3)) := (hB3.re (by omega)).puts (by omega) hblt ⟨u5.1, u5.2.1⟩ ⟨u5.2.2.1, u5.2.2.2.1⟩ ⟨u5.2.2.2.2.1, u5.2.2.2.2.2⟩
      obtain ⟨hD, hg, hgb⟩ := hB3
      obtain ⟨v1, v2, v3, v4, v5⟩ := hg
      obtain ⟨m0, m1, m2, m3, m4, m5, m6⟩ := bx3 v4
      have v6 := blk_set3 (x' := .int .i64 u1) (y' := .int .i64 u2) (z' := .int .i64 u3) v4
      obtain ⟨n0, n1, n2, n3, n4, n5, n6⟩ := bx3 v6
      go_wp2
      exact bodyPost_ret (v := .agg #[.int .i64 u1, .int .i64 u2, .int .i64 u3]) (by simp [results, Try.results57, go_sem, n1, n2, n3]) rfl ⟨u1, u2, u3, rfl, ⟨u5.1, u5.2.1⟩, ⟨u5.2.2.1, u5.2.2.2.1⟩, ⟨u5.2.2.2.2.1, u5.2.2.2.2.2⟩, hB5.1.2.mono (by omega), hB5.1.1⟩
end Go.Proofs.Ytmcdlkbofhdnlaa
