/- Drawing: the reader within regions; the draws of the first laws. -/
import Derived.Test.YtfcgnhgocdoimaaD1
namespace Go.Proofs.Ytfcgnhgocdoimaa
open Go.RowKit
set_option maxHeartbeats 400000

/-- Block b is a reader whose position is at most P. -/
def RdP (w : World) (b P : Nat) : Prop := ∃ q, q ≤ P ∧ Rd w b q
theorem RdP.ext {w w' : World} {b P : Nat} (h : RdP w b P) (e : Ext w w') : RdP w' b P := by
  obtain ⟨q, h1, h2⟩ := h; exact ⟨q, h1, h2.ext e⟩
theorem RdP.mono {w : World} {b P P' : Nat} (h : RdP w b P) (e : P ≤ P') : RdP w b P' := by
  obtain ⟨q, h1, h2⟩ := h; exact ⟨q, by omega, h2⟩
theorem RdP.drew {w : World} {b P : Nat} (h : RdP w b P) : RdP w.drew b P := h
theorem RdP.lt {w : World} {b P : Nat} (h : RdP w b P) : b < w.heap.size := by
  obtain ⟨q, h1, h2⟩ := h; exact h2.lt

theorem pick_c (b P : Nat) (n : Int) (w : World) (h : RdP w b P) (hp : P < 2^40) (hn0 : 1 ≤ n) (hn : n ≤ 1000000000) :
    Calls Try.prog 41 #[.pointer (some ⟨b, 0, none⟩), .int .i64 n] w fun e w' => ∃ x : Int, e = .returned (.int .i64 x) ∧ 0 ≤ x ∧ x < n ∧ RdP w' b (P + 1) ∧ w.grownBy w' (some b) := by
  obtain ⟨q, h1, h2⟩ := h
  refine (pick_some b q n w (by omega) hn0 hn h2).mono ?_
  rintro e w' ⟨x, h3, h4, h5, h6, h7⟩
  exact ⟨x, h3, h4, h5, ⟨q + 1, by omega, h6⟩, h7⟩

/-- What holds in a region that draws with reader b, k operations in, C places each at the most. -/
def DG (w : World) (b P C k : Nat) (wx : World) : Prop := w.grownBy wx (some b) ∧ RdP wx b (P + k * C)
theorem DG.zero {w : World} {b P C : Nat} (h : RdP w b P) : DG w b P C 0 w.drew := ⟨⟨rfl, rfl, rfl, Nat.le_refl _, fun _ _ _ => rfl⟩, by rw [Nat.zero_mul, Nat.add_zero]; exact h⟩
theorem DG.zero' {w : World} {b P C : Nat} (h : RdP w b P) : DG w b P C 0 w := ⟨⟨rfl, rfl, rfl, Nat.le_refl _, fun _ _ _ => rfl⟩, by rw [Nat.zero_mul, Nat.add_zero]; exact h⟩
theorem DG.step {w wx : World} {b P C k : Nat} (h : DG w b P C k wx) : DG w b P C (k + 1) wx := ⟨h.1, h.2.mono (by rw [Nat.succ_mul]; omega)⟩
theorem DG.more {w wx wy : World} {b P C k c : Nat} (h : DG w b P C k wx) (g : wx.grownBy wy (some b)) (r : RdP wy b (P + k * C + c)) (hc : c ≤ C) : DG w b P C (k + 1) wy := ⟨grown_trans h.1 g, r.mono (by rw [Nat.succ_mul]; omega)⟩
theorem DG.ext {w wx wy : World} {b P C k : Nat} (h : DG w b P C k wx) (e : Ext wx wy) : DG w b P C (k + 1) wy := ⟨grown_ext h.1 e, (h.2.ext e).mono (by rw [Nat.succ_mul]; omega)⟩
theorem RdP.set {w : World} {b P q j : Nat} {v : Value} (h : RdP w b P) (hq : b < q) : RdP (w.setCell ⟨q, j, none⟩ v) b P := by
  obtain ⟨p, h1, h2⟩ := h; exact ⟨p, h1, h2.set hq⟩
theorem DG.set {w wx : World} {b P C k q j : Nat} {v : Value} (h : DG w b P C k wx) (hq : w.heap.size ≤ q) (hb : b < q) : DG w b P C k (wx.setCell ⟨q, j, none⟩ v) := ⟨grown_set h.1 hq, h.2.set hb⟩
theorem grown_drew {w wx : World} {r : Option Nat} (g : w.grownBy wx r) : w.grownBy wx.drew r := ⟨g.os, g.tape, g.output, g.size, fun i hi hne => g.block i hi hne⟩
theorem DG.drew {w wx : World} {b P C k : Nat} (h : DG w b P C k wx) : DG w b P C k wx.drew := ⟨grown_drew h.1, h.2.drew⟩
theorem DG.reset {w wx : World} {b P C k P' : Nat} (h : DG w b P C k wx) (hP : P + k * C ≤ P') (C' : Nat) : DG w b P' C' 0 wx := ⟨h.1, h.2.mono (by omega)⟩
theorem DG.small {k n P C : Nat} (h : k < n) (hn : n ≤ 1000) (hC : C ≤ 100000000) (hP : P < 2^39) : P + k * C < 2^40 := by
  have : k * C ≤ 1000 * 100000000 := Nat.mul_le_mul (by omega) hC
  omega
theorem DG.bd {k n P C : Nat} (h : k < n) (hn : n ≤ 1000) (hC : C ≤ 10000000) (hP : P ≤ 2^37) : P + k * C < 2^38 := by
  have : k * C ≤ 1000 * 10000000 := Nat.mul_le_mul (by omega) hC
  omega
theorem ext_gr {w w' : World} {r : Option Nat} (e : Ext w w') : w.grownBy w' r := ⟨e.os, e.tape, e.output, e.size, fun k hk _ => e.block k hk⟩

/-- The same, with a fact of the world that draws do not touch. -/
def DGI (w : World) (b P C : Nat) (I : World → Prop) (k : Nat) (wx : World) : Prop := DG w b P C k wx ∧ I wx ∧ ∀ wa wb : World, wa.grownBy wb (some b) → I wa → I wb
theorem DGI.step {w wx : World} {b P C k : Nat} {I : World → Prop} (h : DGI w b P C I k wx) : DGI w b P C I (k + 1) wx := ⟨h.1.step, h.2⟩
theorem DGI.more {w wx wy : World} {b P C k c : Nat} {I : World → Prop} (h : DGI w b P C I k wx) (g : wx.grownBy wy (some b)) (r : RdP wy b (P + k * C + c)) (hc : c ≤ C) : DGI w b P C I (k + 1) wy := ⟨h.1.more g r hc, h.2.2 _ _ g h.2.1, h.2.2⟩
theorem DGI.ext {w wx wy : World} {b P C k : Nat} {I : World → Prop} (h : DGI w b P C I k wx) (e : Ext wx wy) : DGI w b P C I (k + 1) wy := ⟨h.1.ext e, h.2.2 _ _ (ext_gr e) h.2.1, h.2.2⟩
theorem DGI.drew {w wx : World} {b P C k : Nat} {I : World → Prop} (h : DGI w b P C I k wx) : DGI w b P C I k wx.drew := ⟨h.1.drew, h.2.2 _ _ (ext_gr (Ext.drewN _ 1)) h.2.1, h.2.2⟩
theorem DGI.reset {w wx : World} {b P C k P' : Nat} {I : World → Prop} (h : DGI w b P C I k wx) (hP : P + k * C ≤ P') (C' : Nat) : DGI w b P' C' I 0 wx := ⟨h.1.reset hP C', h.2⟩

/-- A list of n numbers in lo..hi, in a block of its own. -/
def SlR (w : World) (b : Nat) (v : Value) (n : Nat) (lo hi : Int) : Prop :=
  ∃ (g : Nat) (xs : List Int), v = .slice (some ⟨g, 0, none⟩) n n ∧ b ≤ g ∧ Sl w (some ⟨g, 0, none⟩) n (xs.map (Value.int .i64)) ∧ ∀ x ∈ xs, lo ≤ x ∧ x ≤ hi
theorem SlR.grown {w w' : World} {b B : Nat} {v : Value} {n : Nat} {lo hi : Int} (h : SlR w B v n lo hi) (e : w.grownBy w' (some b)) (hb : b < B) : SlR w' B v n lo hi := by
  obtain ⟨g, xs, h1, h2, h3, h4⟩ := h
  exact ⟨g, xs, h1, h2, h3.grown e (fun x hx he => by simp at hx he; rw [← hx] at he; simp at he; omega), h4⟩
theorem SlR.set {w : World} {B q j : Nat} {u : Value} {v : Value} {n : Nat} {lo hi : Int} (h : SlR w B v n lo hi) (hq : q < B) : SlR (w.setCell ⟨q, j, none⟩ u) B v n lo hi :=
  h.grown ⟨rfl, rfl, rfl, by simp, fun k _ hk => heap_setCell_other w ⟨q, j, none⟩ k _ (fun e => hk (by simp [e]))⟩ hq
/-- An address of a number in lo..hi. -/
def PtR (w : World) (b : Nat) (v : Value) (lo hi : Int) : Prop :=
  ∃ (g j : Nat) (y : Int), v = .pointer (some ⟨g, j, none⟩) ∧ b ≤ g ∧ w.cell? ⟨g, j, none⟩ = some (.int .i64 y) ∧ lo ≤ y ∧ y ≤ hi
theorem PtR.grown {w w' : World} {b B : Nat} {v : Value} {lo hi : Int} (h : PtR w B v lo hi) (e : w.grownBy w' (some b)) (hb : b < B) : PtR w' B v lo hi := by
  obtain ⟨g, j, y, h1, h2, h3, h4, h5⟩ := h
  exact ⟨g, j, y, h1, h2, e.cell h3 (by intro he; simp at he; omega), h4, h5⟩
theorem PtR.set {w : World} {B q j : Nat} {u : Value} {v : Value} {lo hi : Int} (h : PtR w B v lo hi) (hq : q < B) : PtR (w.setCell ⟨q, j, none⟩ u) B v lo hi :=
  h.grown ⟨rfl, rfl, rfl, by simp, fun k _ hk => heap_setCell_other w ⟨q, j, none⟩ k _ (fun e => hk (by simp [e]))⟩ hq
theorem cell_of_blk {w : World} {b : Nat} {arr : Array Value} {T : TypeId} {i : Nat} {v : Value} (h : w.heap[b]? = some (.cells arr T (0, 0))) (hi : arr[i]? = some v) : w.cell? ⟨b, i, none⟩ = some v := by
  simp [World.cell?, h, hi]
theorem Sl_new (w : World) (vs : List Value) (T : TypeId) : Sl (w.alloc (.cells vs.toArray T (0, 0))) (some ⟨w.heap.size, 0, none⟩) vs.length vs := by
  refine ⟨rfl, fun i hi => ⟨w.heap.size, 0, rfl, ?_⟩⟩
  exact cell_of_blk (blk_new _ _) (by simp [hi])
theorem SlR.at {w : World} {g b n : Nat} {l : List Int} {lo hi : Int} {i : Nat} (hne : b ≤ g) (s : Sl w (some ⟨g, 0, none⟩) n (l.map (Value.int .i64))) (h : ∀ x ∈ l, lo ≤ x ∧ x ≤ hi) (hi' : i < n) : PtR w b (.pointer (some ⟨g, i, none⟩)) lo hi := by
  obtain ⟨b', o', h1, h2⟩ := s.int hi'
  simp only [Option.some.injEq, Addr.mk.injEq, and_true] at h1
  obtain ⟨rfl, rfl⟩ := h1
  rw [Nat.zero_add] at h2
  have hl : i < l.length := by rw [s.int_len]; exact hi'
  have h3 := h (nth l i) (by rw [nth_eq _ _ hl]; exact List.getElem_mem hl)
  exact ⟨_, _, _, rfl, hne, h2, h3.1, h3.2⟩

theorem DrawRefreshSchedule_any (a : Option Addr) (c n : Nat) (zs : List Int) (w : World) (hc : n ≤ c) (hc2 : c ≤ 9223372036854775807) (r : Sl w a n (zs.map (Value.int .u8))) (hz : ∀ z ∈ zs, 0 ≤ z ∧ z ≤ 255) :
    Calls Try.prog 30 #[.slice a n c] w fun e w' => ∃ x y : Int, e = .returned (.tuple #[.int .i64 x, .int .i64 y]) ∧ -1 ≤ x ∧ x ≤ 101 ∧ 0 ≤ y ∧ y < 6 ∧ Ext w w' := by
  go_enter Try.func30, Try.ntmps30
  go_wp2_with fail
  refine (open_any a c n zs _ hc hc2 r hz).mono ?_
  rintro e w1 ⟨b, rfl, rd, e1, hb⟩
  have hrd : RdP w1 b 0 := ⟨0, Nat.le_refl _, rd⟩
  clear r hz rd
  go_wp2_with fail
  have hext : ∀ (i : Nat) (own : Value) (ys : Nat → Value) (wa wb : World), wa.grownBy wb (some b) → (match i with | 0 => own = .pointer (some ⟨b, 0, none⟩) | 1 => ∃ x : Int, own = .int .i64 x ∧ 0 ≤ x ∧ x < 20 | 2 => SlR wa (b + 1) own 4 (-1) (101) | 3 => SlR wa (b + 1) own 6 (0) (3) | 4 => own = .pointer (some ⟨b, 0, none⟩) | 5 => ∃ x : Int, own = .int .i64 x ∧ 0 ≤ x ∧ x < 6 | 6 => PtR wa (b + 1) own (0) (3) | 7 => ∃ x : Int, own = .int .i64 x ∧ 0 ≤ x ∧ x ≤ 3 | 8 => PtR wa (b + 1) own (-1) (101) | 9 => ∃ x : Int, own = .int .i64 x ∧ -1 ≤ x ∧ x ≤ 101 | 10 => own = .pointer (some ⟨b, 0, none⟩) | 11 => ∃ x : Int, own = .int .i64 x ∧ 0 ≤ x ∧ x < 6 | 12 => ∃ x : Int, own = .int .i64 x ∧ -1 ≤ x ∧ x ≤ 101 | 13 => ∃ x : Int, own = .int .i64 x ∧ 0 ≤ x ∧ x < 6 | _ => True) → (match i with | 0 => own = .pointer (some ⟨b, 0, none⟩) | 1 => ∃ x : Int, own = .int .i64 x ∧ 0 ≤ x ∧ x < 20 | 2 => SlR wb (b + 1) own 4 (-1) (101) | 3 => SlR wb (b + 1) own 6 (0) (3) | 4 => own = .pointer (some ⟨b, 0, none⟩) | 5 => ∃ x : Int, own = .int .i64 x ∧ 0 ≤ x ∧ x < 6 | 6 => PtR wb (b + 1) own (0) (3) | 7 => ∃ x : Int, own = .int .i64 x ∧ 0 ≤ x ∧ x ≤ 3 | 8 => PtR wb (b + 1) own (-1) (101) | 9 => ∃ x : Int, own = .int .i64 x ∧ -1 ≤ x ∧ x ≤ 101 | 10 => own = .pointer (some ⟨b, 0, none⟩) | 11 => ∃ x : Int, own = .int .i64 x ∧ 0 ≤ x ∧ x < 6 | 12 => ∃ x : Int, own = .int .i64 x ∧ -1 ≤ x ∧ x ≤ 101 | 13 => ∃ x : Int, own = .int .i64 x ∧ 0 ≤ x ∧ x < 6 | _ => True) := by
    intro i own ys wa wb e h
    match i, h with
    | 0, h => exact h
    | 1, h => exact h
    | 2, h => exact h.grown e (by omega)
    | 3, h => exact h.grown e (by omega)
    | 4, h => exact h
    | 5, h => exact h
    | 6, h => exact h.grown e (by omega)
    | 7, h => exact h
    | 8, h => exact h.grown e (by omega)
    | 9, h => exact h
    | 10, h => exact h
    | 11, h => exact h
    | 12, h => exact h
    | 13, h => exact h
    | _ + 14, _ => trivial
  have Hext := Lib.hid hext
  clear hext
  refine wp_region_inv2 (by kernel_rfl) [(2, 12), (3, 13), (7, 0), (8, 1), (9, 2), (10, 3), (11, 4), (12, 5), (13, 6), (14, 7), (15, 8), (16, 9), (17, 10), (18, 11)] [[], [0], [0, 1], [], [], [0, 1, 4], [0, 1, 3, 4, 5], [0, 1, 3, 4, 5, 6], [0, 1, 2, 3, 4, 5, 6, 7], [0, 1, 2, 3, 4, 5, 6, 7, 8], [], [0, 1, 4, 5, 10], [0, 1, 2, 3, 4, 5, 6, 7, 8, 9, 10, 11], [0, 1, 2, 3, 4, 5, 6, 7, 8, 9, 10, 11, 12]] (fun i own ys wx => match i with | 0 => own = .pointer (some ⟨b, 0, none⟩) | 1 => ∃ x : Int, own = .int .i64 x ∧ 0 ≤ x ∧ x < 20 | 2 => SlR wx (b + 1) own 4 (-1) (101) | 3 => SlR wx (b + 1) own 6 (0) (3) | 4 => own = .pointer (some ⟨b, 0, none⟩) | 5 => ∃ x : Int, own = .int .i64 x ∧ 0 ≤ x ∧ x < 6 | 6 => PtR wx (b + 1) own (0) (3) | 7 => ∃ x : Int, own = .int .i64 x ∧ 0 ≤ x ∧ x ≤ 3 | 8 => PtR wx (b + 1) own (-1) (101) | 9 => ∃ x : Int, own = .int .i64 x ∧ -1 ≤ x ∧ x ≤ 101 | 10 => own = .pointer (some ⟨b, 0, none⟩) | 11 => ∃ x : Int, own = .int .i64 x ∧ 0 ≤ x ∧ x < 6 | 12 => ∃ x : Int, own = .int .i64 x ∧ -1 ≤ x ∧ x ≤ 101 | 13 => ∃ x : Int, own = .int .i64 x ∧ 0 ≤ x ∧ x < 6 | _ => True) (fun kx wx => DG w1 b 0 1 kx wx) (by kernel_rfl) (by kernel_rfl) (by kernel_rfl) ?g0_r1 ?gop_r1 ?gend_r1
  case g0_r1 => exact DG.zero hrd
  case gop_r1 =>
    refine ⟨?_, ?_, ?_, ?_, ?_, ?_, ?_, ?_, ?_, ?_, ?_, ?_, ?_, ?_, trivial⟩
    · intro kx xs wx hk hG hD Qo Kx hK hQo
      clear hD
      simp only [patchS, Nat.reduceAdd, Nat.reduceEqDiff, ↓reduceIte] at hQo ⊢
      go_wp2
      exact hK.out _ _ ⟨rfl, hG.step, fun _ _ _ _ _ _ h => h⟩
    · intro kx xs wx hk hG hD Qo Kx hK hQo
      have d0 : (xs 0) = .pointer (some ⟨b, 0, none⟩) := hD 0 rfl
      clear hD
      simp only [patchS, Nat.reduceAdd, Nat.reduceEqDiff, ↓reduceIte] at hQo ⊢
      generalize xs 0 = y0 at *
      subst d0
      go_wp2_with fail
      refine (pick_c _ _ _ _ hG.2 (DG.small hk (by decide) (by decide) (by omega)) (by omega) (by omega)).mono ?_
      rintro e w4 ⟨xx, rfl, xa, xb, rd, gr⟩
      go_wp2
      exact hK.out _ _ ⟨⟨xx, rfl, xa, by omega⟩, hG.more gr rd (by decide), fun i _ _ _ own ys h => Hext.out i own ys _ _ gr h⟩
    · intro kx xs wx hk hG hD Qo Kx hK hQo
      have d1 : ∃ x : Int, (xs 1) = .int .i64 x ∧ 0 ≤ x ∧ x < 20 := hD 1 rfl
      clear hD
      simp only [patchS, Nat.reduceAdd, Nat.reduceEqDiff, ↓reduceIte] at hQo ⊢
      generalize xs 1 = y1 at *
      obtain ⟨x1, rfl, x1a, x1b⟩ := d1
      have e5 := Ext.alloc wx (.cells #[.int .i64 x1, .int .i64 100, .int .i64 101, .int .i64 (-1)] 3)
      go_wp2
      exact hK.out _ _ ⟨⟨_, [x1, 100, 101, -1], rfl, by have := hG.2.lt; omega, Sl_new _ _ _, by simp; omega⟩, hG.ext e5, fun i _ _ _ own ys h => Hext.out i own ys _ _ (ext_gr e5) h⟩
    · intro kx xs wx hk hG hD Qo Kx hK hQo
      clear hD
      simp only [patchS, Nat.reduceAdd, Nat.reduceEqDiff, ↓reduceIte] at hQo ⊢
      have e5 := Ext.alloc wx (.cells #[.int .i64 0, .int .i64 0, .int .i64 0, .int .i64 1, .int .i64 2, .int .i64 3] 3)
      go_wp2
      exact hK.out _ _ ⟨⟨_, [0, 0, 0, 1, 2, 3], rfl, by have := hG.2.lt; omega, Sl_new _ _ _, by simp⟩, hG.ext e5, fun i _ _ _ own ys h => Hext.out i own ys _ _ (ext_gr e5) h⟩
    · intro kx xs wx hk hG hD Qo Kx hK hQo
      clear hD
      simp only [patchS, Nat.reduceAdd, Nat.reduceEqDiff, ↓reduceIte] at hQo ⊢
      go_wp2
      exact hK.out _ _ ⟨rfl, hG.step, fun _ _ _ _ _ _ h => h⟩
    · intro kx xs wx hk hG hD Qo Kx hK hQo
      have d4 : (xs 4) = .pointer (some ⟨b, 0, none⟩) := hD 4 rfl
      clear hD
      simp only [patchS, Nat.reduceAdd, Nat.reduceEqDiff, ↓reduceIte] at hQo ⊢
      generalize xs 4 = y4 at *
      subst d4
      go_wp2_with fail
      refine (pick_c _ _ _ _ hG.2 (DG.small hk (by decide) (by decide) (by omega)) (by omega) (by omega)).mono ?_
      rintro e w4 ⟨xx, rfl, xa, xb, rd, gr⟩
      go_wp2
      exact hK.out _ _ ⟨⟨xx, rfl, xa, by omega⟩, hG.more gr rd (by decide), fun i _ _ _ own ys h => Hext.out i own ys _ _ gr h⟩
    · intro kx xs wx hk hG hD Qo Kx hK hQo
      have d3 : SlR wx (b + 1) (xs 3) 6 (0) (3) := hD 3 rfl
      have d5 : ∃ x : Int, (xs 5) = .int .i64 x ∧ 0 ≤ x ∧ x < 6 := hD 5 rfl
      clear hD
      simp only [patchS, Nat.reduceAdd, Nat.reduceEqDiff, ↓reduceIte] at hQo ⊢
      generalize xs 3 = y3 at *
      generalize xs 5 = y5 at *
      obtain ⟨g3, l3, rfl, n3, s3, r3⟩ := d3
      obtain ⟨x5, rfl, x5a, x5b⟩ := d5
      go_wp2
      exact hK.out _ _ ⟨SlR.at n3 s3 r3 (by omega), hG.step, fun _ _ _ _ _ _ h => h⟩
    · intro kx xs wx hk hG hD Qo Kx hK hQo
      have d6 : PtR wx (b + 1) (xs 6) (0) (3) := hD 6 rfl
      clear hD
      simp only [patchS, Nat.reduceAdd, Nat.reduceEqDiff, ↓reduceIte] at hQo ⊢
      generalize xs 6 = y6 at *
      obtain ⟨g6, j6, y6, rfl, n6, c6, y6a, y6b⟩ := d6
      go_wp2
      exact hK.out _ _ ⟨⟨_, rfl, by omega, by omega⟩, hG.step, fun _ _ _ _ _ _ h => h⟩
    · intro kx xs wx hk hG hD Qo Kx hK hQo
      have d2 : SlR wx (b + 1) (xs 2) 4 (-1) (101) := hD 2 rfl
      have d7 : ∃ x : Int, (xs 7) = .int .i64 x ∧ 0 ≤ x ∧ x ≤ 3 := hD 7 rfl
      clear hD
      simp only [patchS, Nat.reduceAdd, Nat.reduceEqDiff, ↓reduceIte] at hQo ⊢
      generalize xs 2 = y2 at *
      generalize xs 7 = y7 at *
      obtain ⟨g2, l2, rfl, n2, s2, r2⟩ := d2
      obtain ⟨x7, rfl, x7a, x7b⟩ := d7
      go_wp2
      exact hK.out _ _ ⟨SlR.at n2 s2 r2 (by omega), hG.step, fun _ _ _ _ _ _ h => h⟩
    · intro kx xs wx hk hG hD Qo Kx hK hQo
      have d8 : PtR wx (b + 1) (xs 8) (-1) (101) := hD 8 rfl
      clear hD
      simp only [patchS, Nat.reduceAdd, Nat.reduceEqDiff, ↓reduceIte] at hQo ⊢
      generalize xs 8 = y8 at *
      obtain ⟨g8, j8, y8, rfl, n8, c8, y8a, y8b⟩ := d8
      go_wp2
      exact hK.out _ _ ⟨⟨_, rfl, by omega, by omega⟩, hG.step, fun _ _ _ _ _ _ h => h⟩
    · intro kx xs wx hk hG hD Qo Kx hK hQo
      clear hD
      simp only [patchS, Nat.reduceAdd, Nat.reduceEqDiff, ↓reduceIte] at hQo ⊢
      go_wp2
      exact hK.out _ _ ⟨rfl, hG.step, fun _ _ _ _ _ _ h => h⟩
    · intro kx xs wx hk hG hD Qo Kx hK hQo
      have d10 : (xs 10) = .pointer (some ⟨b, 0, none⟩) := hD 10 rfl
      clear hD
      simp only [patchS, Nat.reduceAdd, Nat.reduceEqDiff, ↓reduceIte] at hQo ⊢
      generalize xs 10 = y10 at *
      subst d10
      go_wp2_with fail
      refine (pick_c _ _ _ _ hG.2 (DG.small hk (by decide) (by decide) (by omega)) (by omega) (by omega)).mono ?_
      rintro e w4 ⟨xx, rfl, xa, xb, rd, gr⟩
      go_wp2
      exact hK.out _ _ ⟨⟨xx, rfl, xa, by omega⟩, hG.more gr rd (by decide), fun i _ _ _ own ys h => Hext.out i own ys _ _ gr h⟩
    · intro kx xs wx hk hG hD Qo Kx hK hQo
      have d9 : ∃ x : Int, (xs 9) = .int .i64 x ∧ -1 ≤ x ∧ x ≤ 101 := hD 9 rfl
      clear hD
      simp only [patchS, Nat.reduceAdd, Nat.reduceEqDiff, ↓reduceIte] at hQo ⊢
      generalize xs 9 = y9 at *
      obtain ⟨x9, rfl, x9a, x9b⟩ := d9
      go_wp2
      exact hK.out _ _ ⟨⟨_, rfl, by omega, by omega⟩, hG.step, fun _ _ _ _ _ _ h => h⟩
    · intro kx xs wx hk hG hD Qo Kx hK hQo
      have d11 : ∃ x : Int, (xs 11) = .int .i64 x ∧ 0 ≤ x ∧ x < 6 := hD 11 rfl
      clear hD
      simp only [patchS, Nat.reduceAdd, Nat.reduceEqDiff, ↓reduceIte] at hQo ⊢
      generalize xs 11 = y11 at *
      obtain ⟨x11, rfl, x11a, x11b⟩ := d11
      go_wp2
      exact hK.out _ _ ⟨⟨_, rfl, x11a, x11b⟩, hG.step, fun _ _ _ _ _ _ h => h⟩
  clear Hext
  intro xs wx hV hG
  have d0 : (xs 0) = .pointer (some ⟨b, 0, none⟩) := hV 0 (by decide)
  have d1 : ∃ x : Int, (xs 1) = .int .i64 x ∧ 0 ≤ x ∧ x < 20 := hV 1 (by decide)
  have d2 : SlR wx (b + 1) (xs 2) 4 (-1) (101) := hV 2 (by decide)
  have d3 : SlR wx (b + 1) (xs 3) 6 (0) (3) := hV 3 (by decide)
  have d4 : (xs 4) = .pointer (some ⟨b, 0, none⟩) := hV 4 (by decide)
  have d5 : ∃ x : Int, (xs 5) = .int .i64 x ∧ 0 ≤ x ∧ x < 6 := hV 5 (by decide)
  have d6 : PtR wx (b + 1) (xs 6) (0) (3) := hV 6 (by decide)
  have d7 : ∃ x : Int, (xs 7) = .int .i64 x ∧ 0 ≤ x ∧ x ≤ 3 := hV 7 (by decide)
  have d8 : PtR wx (b + 1) (xs 8) (-1) (101) := hV 8 (by decide)
  have d9 : ∃ x : Int, (xs 9) = .int .i64 x ∧ -1 ≤ x ∧ x ≤ 101 := hV 9 (by decide)
  have d10 : (xs 10) = .pointer (some ⟨b, 0, none⟩) := hV 10 (by decide)
  have d11 : ∃ x : Int, (xs 11) = .int .i64 x ∧ 0 ≤ x ∧ x < 6 := hV 11 (by decide)
  have d12 : ∃ x : Int, (xs 12) = .int .i64 x ∧ -1 ≤ x ∧ x ≤ 101 := hV 12 (by decide)
  have d13 : ∃ x : Int, (xs 13) = .int .i64 x ∧ 0 ≤ x ∧ x < 6 := hV 13 (by decide)
  clear hV
  simp only [patchS, Nat.reduceAdd, Nat.reduceEqDiff, ↓reduceIte]
  generalize xs 0 = y0 at *
  generalize xs 1 = y1 at *
  generalize xs 2 = y2 at *
  generalize xs 3 = y3 at *
  generalize xs 4 = y4 at *
  generalize xs 5 = y5 at *
  generalize xs 6 = y6 at *
  generalize xs 7 = y7 at *
  generalize xs 8 = y8 at *
  generalize xs 9 = y9 at *
  generalize xs 10 = y10 at *
  generalize xs 11 = y11 at *
  generalize xs 12 = y12 at *
  generalize xs 13 = y13 at *
  replace hG : DG w1 b 0 1 14 wx := hG
  subst d0
  obtain ⟨x1, rfl, x1a, x1b⟩ := d1
  obtain ⟨g2, l2, rfl, n2, s2, r2⟩ := d2
  obtain ⟨g3, l3, rfl, n3, s3, r3⟩ := d3
  subst d4
  obtain ⟨x5, rfl, x5a, x5b⟩ := d5
  obtain ⟨g6, j6, y6, rfl, n6, c6, y6a, y6b⟩ := d6
  obtain ⟨x7, rfl, x7a, x7b⟩ := d7
  obtain ⟨g8, j8, y8, rfl, n8, c8, y8a, y8b⟩ := d8
  obtain ⟨x9, rfl, x9a, x9b⟩ := d9
  subst d10
  obtain ⟨x11, rfl, x11a, x11b⟩ := d11
  obtain ⟨x12, rfl, x12a, x12b⟩ := d12
  obtain ⟨x13, rfl, x13a, x13b⟩ := d13
  go_wp2
  refine bodyPost_ret (v := .tuple #[.int .i64 x12, .int .i64 x13]) (by simp [results, Try.results30, go_sem]) rfl ⟨_, _, rfl, x12a, x12b, x13a, x13b, ?_⟩
  exact Ext.grown e1 hG.1 (fun k hk => by simp at hk; omega)
theorem DrawInterleave_any (a : Option Addr) (c n : Nat) (zs : List Int) (w : World) (hc : n ≤ c) (hc2 : c ≤ 9223372036854775807) (r : Sl w a n (zs.map (Value.int .u8))) (hz : ∀ z ∈ zs, 0 ≤ z ∧ z ≤ 255) :
    Calls Try.prog 33 #[.slice a n c] w fun e w' => ∃ x y : Int, e = .returned (.tuple #[.int .i64 x, .int .i64 y]) ∧ -1 ≤ x ∧ x ≤ 101 ∧ 0 ≤ y ∧ y < 10 ∧ Ext w w' := by
  go_enter Try.func33, Try.ntmps33
  go_wp2_with fail
  refine (open_any a c n zs _ hc hc2 r hz).mono ?_
  rintro e w1 ⟨b, rfl, rd, e1, hb⟩
  have hrd : RdP w1 b 0 := ⟨0, Nat.le_refl _, rd⟩
  clear r hz rd
  go_wp2_with fail
  have hext : ∀ (i : Nat) (own : Value) (ys : Nat → Value) (wa wb : World), wa.grownBy wb (some b) → (match i with | 0 => own = .pointer (some ⟨b, 0, none⟩) | 1 => ∃ x : Int, own = .int .i64 x ∧ 0 ≤ x ∧ x < 20 | 2 => SlR wa (b + 1) own 4 (-1) (101) | 3 => SlR wa (b + 1) own 6 (0) (3) | 4 => own = .pointer (some ⟨b, 0, none⟩) | 5 => ∃ x : Int, own = .int .i64 x ∧ 0 ≤ x ∧ x < 6 | 6 => PtR wa (b + 1) own (0) (3) | 7 => ∃ x : Int, own = .int .i64 x ∧ 0 ≤ x ∧ x ≤ 3 | 8 => PtR wa (b + 1) own (-1) (101) | 9 => ∃ x : Int, own = .int .i64 x ∧ -1 ≤ x ∧ x ≤ 101 | 10 => own = .pointer (some ⟨b, 0, none⟩) | 11 => ∃ x : Int, own = .int .i64 x ∧ 0 ≤ x ∧ x < 10 | 12 => ∃ x : Int, own = .int .i64 x ∧ -1 ≤ x ∧ x ≤ 101 | 13 => ∃ x : Int, own = .int .i64 x ∧ 0 ≤ x ∧ x < 10 | _ => True) → (match i with | 0 => own = .pointer (some ⟨b, 0, none⟩) | 1 => ∃ x : Int, own = .int .i64 x ∧ 0 ≤ x ∧ x < 20 | 2 => SlR wb (b + 1) own 4 (-1) (101) | 3 => SlR wb (b + 1) own 6 (0) (3) | 4 => own = .pointer (some ⟨b, 0, none⟩) | 5 => ∃ x : Int, own = .int .i64 x ∧ 0 ≤ x ∧ x < 6 | 6 => PtR wb (b + 1) own (0) (3) | 7 => ∃ x : Int, own = .int .i64 x ∧ 0 ≤ x ∧ x ≤ 3 | 8 => PtR wb (b + 1) own (-1) (101) | 9 => ∃ x : Int, own = .int .i64 x ∧ -1 ≤ x ∧ x ≤ 101 | 10 => own = .pointer (some ⟨b, 0, none⟩) | 11 => ∃ x : Int, own = .int .i64 x ∧ 0 ≤ x ∧ x < 10 | 12 => ∃ x : Int, own = .int .i64 x ∧ -1 ≤ x ∧ x ≤ 101 | 13 => ∃ x : Int, own = .int .i64 x ∧ 0 ≤ x ∧ x < 10 | _ => True) := by
    intro i own ys wa wb e h
    match i, h with
    | 0, h => exact h
    | 1, h => exact h
    | 2, h => exact h.grown e (by omega)
    | 3, h => exact h.grown e (by omega)
    | 4, h => exact h
    | 5, h => exact h
    | 6, h => exact h.grown e (by omega)
    | 7, h => exact h
    | 8, h => exact h.grown e (by omega)
    | 9, h => exact h
    | 10, h => exact h
    | 11, h => exact h
    | 12, h => exact h
    | 13, h => exact h
    | _ + 14, _ => trivial
  have Hext := Lib.hid hext
  clear hext
  refine wp_region_inv2 (by kernel_rfl) [(2, 12), (3, 13), (7, 0), (8, 1), (9, 2), (10, 3), (11, 4), (12, 5), (13, 6), (14, 7), (15, 8), (16, 9), (17, 10), (18, 11)] [[], [0], [0, 1], [], [], [0, 1, 4], [0, 1, 3, 4, 5], [0, 1, 3, 4, 5, 6], [0, 1, 2, 3, 4, 5, 6, 7], [0, 1, 2, 3, 4, 5, 6, 7, 8], [], [0, 1, 4, 5, 10], [0, 1, 2, 3, 4, 5, 6, 7, 8, 9, 10, 11], [0, 1, 2, 3, 4, 5, 6, 7, 8, 9, 10, 11, 12]] (fun i own ys wx => match i with | 0 => own = .pointer (some ⟨b, 0, none⟩) | 1 => ∃ x : Int, own = .int .i64 x ∧ 0 ≤ x ∧ x < 20 | 2 => SlR wx (b + 1) own 4 (-1) (101) | 3 => SlR wx (b + 1) own 6 (0) (3) | 4 => own = .pointer (some ⟨b, 0, none⟩) | 5 => ∃ x : Int, own = .int .i64 x ∧ 0 ≤ x ∧ x < 6 | 6 => PtR wx (b + 1) own (0) (3) | 7 => ∃ x : Int, own = .int .i64 x ∧ 0 ≤ x ∧ x ≤ 3 | 8 => PtR wx (b + 1) own (-1) (101) | 9 => ∃ x : Int, own = .int .i64 x ∧ -1 ≤ x ∧ x ≤ 101 | 10 => own = .pointer (some ⟨b, 0, none⟩) | 11 => ∃ x : Int, own = .int .i64 x ∧ 0 ≤ x ∧ x < 10 | 12 => ∃ x : Int, own = .int .i64 x ∧ -1 ≤ x ∧ x ≤ 101 | 13 => ∃ x : Int, own = .int .i64 x ∧ 0 ≤ x ∧ x < 10 | _ => True) (fun kx wx => DG w1 b 0 1 kx wx) (by kernel_rfl) (by kernel_rfl) (by kernel_rfl) ?g0_r2 ?gop_r2 ?gend_r2
  case g0_r2 => exact DG.zero hrd
  case gop_r2 =>
    refine ⟨?_, ?_, ?_, ?_, ?_, ?_, ?_, ?_, ?_, ?_, ?_, ?_, ?_, ?_, trivial⟩
    · intro kx xs wx hk hG hD Qo Kx hK hQo
      clear hD
      simp only [patchS, Nat.reduceAdd, Nat.reduceEqDiff, ↓reduceIte] at hQo ⊢
      go_wp2
      exact hK.out _ _ ⟨rfl, hG.step, fun _ _ _ _ _ _ h => h⟩
    · intro kx xs wx hk hG hD Qo Kx hK hQo
      have d0 : (xs 0) = .pointer (some ⟨b, 0, none⟩) := hD 0 rfl
      clear hD
      simp only [patchS, Nat.reduceAdd, Nat.reduceEqDiff, ↓reduceIte] at hQo ⊢
      generalize xs 0 = y0 at *
      subst d0
      go_wp2_with fail
      refine (pick_c _ _ _ _ hG.2 (DG.small hk (by decide) (by decide) (by omega)) (by omega) (by omega)).mono ?_
      rintro e w4 ⟨xx, rfl, xa, xb, rd, gr⟩
      go_wp2
      exact hK.out _ _ ⟨⟨xx, rfl, xa, by omega⟩, hG.more gr rd (by decide), fun i _ _ _ own ys h => Hext.out i own ys _ _ gr h⟩
    · intro kx xs wx hk hG hD Qo Kx hK hQo
      have d1 : ∃ x : Int, (xs 1) = .int .i64 x ∧ 0 ≤ x ∧ x < 20 := hD 1 rfl
      clear hD
      simp only [patchS, Nat.reduceAdd, Nat.reduceEqDiff, ↓reduceIte] at hQo ⊢
      generalize xs 1 = y1 at *
      obtain ⟨x1, rfl, x1a, x1b⟩ := d1
      have e5 := Ext.alloc wx (.cells #[.int .i64 x1, .int .i64 100, .int .i64 101, .int .i64 (-1)] 3)
      go_wp2
      exact hK.out _ _ ⟨⟨_, [x1, 100, 101, -1], rfl, by have := hG.2.lt; omega, Sl_new _ _ _, by simp; omega⟩, hG.ext e5, fun i _ _ _ own ys h => Hext.out i own ys _ _ (ext_gr e5) h⟩
    · intro kx xs wx hk hG hD Qo Kx hK hQo
      clear hD
      simp only [patchS, Nat.reduceAdd, Nat.reduceEqDiff, ↓reduceIte] at hQo ⊢
      have e5 := Ext.alloc wx (.cells #[.int .i64 0, .int .i64 0, .int .i64 0, .int .i64 1, .int .i64 2, .int .i64 3] 3)
      go_wp2
      exact hK.out _ _ ⟨⟨_, [0, 0, 0, 1, 2, 3], rfl, by have := hG.2.lt; omega, Sl_new _ _ _, by simp⟩, hG.ext e5, fun i _ _ _ own ys h => Hext.out i own ys _ _ (ext_gr e5) h⟩
    · intro kx xs wx hk hG hD Qo Kx hK hQo
      clear hD
      simp only [patchS, Nat.reduceAdd, Nat.reduceEqDiff, ↓reduceIte] at hQo ⊢
      go_wp2
      exact hK.out _ _ ⟨rfl, hG.step, fun _ _ _ _ _ _ h => h⟩
    · intro kx xs wx hk hG hD Qo Kx hK hQo
      have d4 : (xs 4) = .pointer (some ⟨b, 0, none⟩) := hD 4 rfl
      clear hD
      simp only [patchS, Nat.reduceAdd, Nat.reduceEqDiff, ↓reduceIte] at hQo ⊢
      generalize xs 4 = y4 at *
      subst d4
      go_wp2_with fail
      refine (pick_c _ _ _ _ hG.2 (DG.small hk (by decide) (by decide) (by omega)) (by omega) (by omega)).mono ?_
      rintro e w4 ⟨xx, rfl, xa, xb, rd, gr⟩
      go_wp2
      exact hK.out _ _ ⟨⟨xx, rfl, xa, by omega⟩, hG.more gr rd (by decide), fun i _ _ _ own ys h => Hext.out i own ys _ _ gr h⟩
    · intro kx xs wx hk hG hD Qo Kx hK hQo
      have d3 : SlR wx (b + 1) (xs 3) 6 (0) (3) := hD 3 rfl
      have d5 : ∃ x : Int, (xs 5) = .int .i64 x ∧ 0 ≤ x ∧ x < 6 := hD 5 rfl
      clear hD
      simp only [patchS, Nat.reduceAdd, Nat.reduceEqDiff, ↓reduceIte] at hQo ⊢
      generalize xs 3 = y3 at *
      generalize xs 5 = y5 at *
      obtain ⟨g3, l3, rfl, n3, s3, r3⟩ := d3
      obtain ⟨x5, rfl, x5a, x5b⟩ := d5
      go_wp2
      exact hK.out _ _ ⟨SlR.at n3 s3 r3 (by omega), hG.step, fun _ _ _ _ _ _ h => h⟩
    · intro kx xs wx hk hG hD Qo Kx hK hQo
      have d6 : PtR wx (b + 1) (xs 6) (0) (3) := hD 6 rfl
      clear hD
      simp only [patchS, Nat.reduceAdd, Nat.reduceEqDiff, ↓reduceIte] at hQo ⊢
      generalize xs 6 = y6 at *
      obtain ⟨g6, j6, y6, rfl, n6, c6, y6a, y6b⟩ := d6
      go_wp2
      exact hK.out _ _ ⟨⟨_, rfl, by omega, by omega⟩, hG.step, fun _ _ _ _ _ _ h => h⟩
    · intro kx xs wx hk hG hD Qo Kx hK hQo
      have d2 : SlR wx (b + 1) (xs 2) 4 (-1) (101) := hD 2 rfl
      have d7 : ∃ x : Int, (xs 7) = .int .i64 x ∧ 0 ≤ x ∧ x ≤ 3 := hD 7 rfl
      clear hD
      simp only [patchS, Nat.reduceAdd, Nat.reduceEqDiff, ↓reduceIte] at hQo ⊢
      generalize xs 2 = y2 at *
      generalize xs 7 = y7 at *
      obtain ⟨g2, l2, rfl, n2, s2, r2⟩ := d2
      obtain ⟨x7, rfl, x7a, x7b⟩ := d7
      go_wp2
      exact hK.out _ _ ⟨SlR.at n2 s2 r2 (by omega), hG.step, fun _ _ _ _ _ _ h => h⟩
    · intro kx xs wx hk hG hD Qo Kx hK hQo
      have d8 : PtR wx (b + 1) (xs 8) (-1) (101) := hD 8 rfl
      clear hD
      simp only [patchS, Nat.reduceAdd, Nat.reduceEqDiff, ↓reduceIte] at hQo ⊢
      generalize xs 8 = y8 at *
      obtain ⟨g8, j8, y8, rfl, n8, c8, y8a, y8b⟩ := d8
      go_wp2
      exact hK.out _ _ ⟨⟨_, rfl, by omega, by omega⟩, hG.step, fun _ _ _ _ _ _ h => h⟩
    · intro kx xs wx hk hG hD Qo Kx hK hQo
      clear hD
      simp only [patchS, Nat.reduceAdd, Nat.reduceEqDiff, ↓reduceIte] at hQo ⊢
      go_wp2
      exact hK.out _ _ ⟨rfl, hG.step, fun _ _ _ _ _ _ h => h⟩
    · intro kx xs wx hk hG hD Qo Kx hK hQo
      have d10 : (xs 10) = .pointer (some ⟨b, 0, none⟩) := hD 10 rfl
      clear hD
      simp only [patchS, Nat.reduceAdd, Nat.reduceEqDiff, ↓reduceIte] at hQo ⊢
      generalize xs 10 = y10 at *
      subst d10
      go_wp2_with fail
      refine (pick_c _ _ _ _ hG.2 (DG.small hk (by decide) (by decide) (by omega)) (by omega) (by omega)).mono ?_
      rintro e w4 ⟨xx, rfl, xa, xb, rd, gr⟩
      go_wp2
      exact hK.out _ _ ⟨⟨xx, rfl, xa, by omega⟩, hG.more gr rd (by decide), fun i _ _ _ own ys h => Hext.out i own ys _ _ gr h⟩
    · intro kx xs wx hk hG hD Qo Kx hK hQo
      have d9 : ∃ x : Int, (xs 9) = .int .i64 x ∧ -1 ≤ x ∧ x ≤ 101 := hD 9 rfl
      clear hD
      simp only [patchS, Nat.reduceAdd, Nat.reduceEqDiff, ↓reduceIte] at hQo ⊢
      generalize xs 9 = y9 at *
      obtain ⟨x9, rfl, x9a, x9b⟩ := d9
      go_wp2
      exact hK.out _ _ ⟨⟨_, rfl, by omega, by omega⟩, hG.step, fun _ _ _ _ _ _ h => h⟩
    · intro kx xs wx hk hG hD Qo Kx hK hQo
      have d11 : ∃ x : Int, (xs 11) = .int .i64 x ∧ 0 ≤ x ∧ x < 10 := hD 11 rfl
      clear hD
      simp only [patchS, Nat.reduceAdd, Nat.reduceEqDiff, ↓reduceIte] at hQo ⊢
      generalize xs 11 = y11 at *
      obtain ⟨x11, rfl, x11a, x11b⟩ := d11
      go_wp2
      exact hK.out _ _ ⟨⟨_, rfl, x11a, x11b⟩, hG.step, fun _ _ _ _ _ _ h => h⟩
  clear Hext
  intro xs wx hV hG
  have d0 : (xs 0) = .pointer (some ⟨b, 0, none⟩) := hV 0 (by decide)
  have d1 : ∃ x : Int, (xs 1) = .int .i64 x ∧ 0 ≤ x ∧ x < 20 := hV 1 (by decide)
  have d2 : SlR wx (b + 1) (xs 2) 4 (-1) (101) := hV 2 (by decide)
  have d3 : SlR wx (b + 1) (xs 3) 6 (0) (3) := hV 3 (by decide)
  have d4 : (xs 4) = .pointer (some ⟨b, 0, none⟩) := hV 4 (by decide)
  have d5 : ∃ x : Int, (xs 5) = .int .i64 x ∧ 0 ≤ x ∧ x < 6 := hV 5 (by decide)
  have d6 : PtR wx (b + 1) (xs 6) (0) (3) := hV 6 (by decide)
  have d7 : ∃ x : Int, (xs 7) = .int .i64 x ∧ 0 ≤ x ∧ x ≤ 3 := hV 7 (by decide)
  have d8 : PtR wx (b + 1) (xs 8) (-1) (101) := hV 8 (by decide)
  have d9 : ∃ x : Int, (xs 9) = .int .i64 x ∧ -1 ≤ x ∧ x ≤ 101 := hV 9 (by decide)
  have d10 : (xs 10) = .pointer (some ⟨b, 0, none⟩) := hV 10 (by decide)
  have d11 : ∃ x : Int, (xs 11) = .int .i64 x ∧ 0 ≤ x ∧ x < 10 := hV 11 (by decide)
  have d12 : ∃ x : Int, (xs 12) = .int .i64 x ∧ -1 ≤ x ∧ x ≤ 101 := hV 12 (by decide)
  have d13 : ∃ x : Int, (xs 13) = .int .i64 x ∧ 0 ≤ x ∧ x < 10 := hV 13 (by decide)
  clear hV
  simp only [patchS, Nat.reduceAdd, Nat.reduceEqDiff, ↓reduceIte]
  generalize xs 0 = y0 at *
  generalize xs 1 = y1 at *
  generalize xs 2 = y2 at *
  generalize xs 3 = y3 at *
  generalize xs 4 = y4 at *
  generalize xs 5 = y5 at *
  generalize xs 6 = y6 at *
  generalize xs 7 = y7 at *
  generalize xs 8 = y8 at *
  generalize xs 9 = y9 at *
  generalize xs 10 = y10 at *
  generalize xs 11 = y11 at *
  generalize xs 12 = y12 at *
  generalize xs 13 = y13 at *
  replace hG : DG w1 b 0 1 14 wx := hG
  subst d0
  obtain ⟨x1, rfl, x1a, x1b⟩ := d1
  obtain ⟨g2, l2, rfl, n2, s2, r2⟩ := d2
  obtain ⟨g3, l3, rfl, n3, s3, r3⟩ := d3
  subst d4
  obtain ⟨x5, rfl, x5a, x5b⟩ := d5
  obtain ⟨g6, j6, y6, rfl, n6, c6, y6a, y6b⟩ := d6
  obtain ⟨x7, rfl, x7a, x7b⟩ := d7
  obtain ⟨g8, j8, y8, rfl, n8, c8, y8a, y8b⟩ := d8
  obtain ⟨x9, rfl, x9a, x9b⟩ := d9
  subst d10
  obtain ⟨x11, rfl, x11a, x11b⟩ := d11
  obtain ⟨x12, rfl, x12a, x12b⟩ := d12
  obtain ⟨x13, rfl, x13a, x13b⟩ := d13
  go_wp2
  refine bodyPost_ret (v := .tuple #[.int .i64 x12, .int .i64 x13]) (by simp [results, Try.results33, go_sem]) rfl ⟨_, _, rfl, x12a, x12b, x13a, x13b, ?_⟩
  exact Ext.grown e1 hG.1 (fun k hk => by simp at hk; omega)
end Go.Proofs.Ytfcgnhgocdoimaa
