/- Drawing: the reader within regions; the draws of the first laws. -/
import Derived.Test.YtlmoeabchiddnaaDoorD1
namespace Go.Proofs.YtlmoeabchiddnaaDoor
open Go.RowKit
set_option maxHeartbeats 400000

/-- Block b is a reader whose position is at most P. -/
def RdP (w : World) (b P : Nat) : Prop := ∃ q, q ≤ P ∧ Rd w b q
theorem RdP.ext {w w' : World} {b P : Nat} (h : RdP w b P) (e : Ext w w') : RdP w' b P := by
  obtain ⟨q, h1, h2⟩ := h; exact ⟨q, h1, h2.ext e⟩
theorem RdP.mono {w : World} {b P P' : Nat} (h : RdP w b P) (e : P ≤ P') : RdP w b P' := by
  obtain ⟨q, h1, h2⟩ := h; exact ⟨q, by omega, h2⟩
theorem RdP.drew {w : World} {b P : Nat} (h : RdP w b P) : RdP w.drew b P := h
theorem RdP.lt {w : World} {b P : Nat} (h : RdP w b P) : b < w.heap.size := by
  obtain ⟨q, h1, h2⟩ := h; exact h2.lt

theorem pick_c (b P : Nat) (n : Int) (w : World) (h : RdP w b P) (hp : P < 2^40) (hn0 : 1 ≤ n) (hn : n ≤ 1000000000) :
    Calls Tryd.prog 62 #[.pointer (some ⟨b, 0, none⟩), .int .i64 n] w fun e w' => ∃ x : Int, e = .returned (.int .i64 x) ∧ 0 ≤ x ∧ x < n ∧ RdP w' b (P + 1) ∧ w.grownBy w' (some b) := by
  obtain ⟨q, h1, h2⟩ := h
  refine (pick_some b q n w (by omega) hn0 hn h2).mono ?_
  rintro e w' ⟨x, h3, h4, h5, h6, h7⟩
  exact ⟨x, h3, h4, h5, ⟨q + 1, by omega, h6⟩, h7⟩

/-- What holds in a region that draws with reader b, k operations in, C places each at the most. -/
def DG (w : World) (b P C k : Nat) (wx : World) : Prop := w.grownBy wx (some b) ∧ RdP wx b (P + k * C)
theorem DG.zero {w : World} {b P C : Nat} (h : RdP w b P) : DG w b P C 0 w.drew := ⟨⟨rfl, rfl, rfl, Nat.le_refl _, fun _ _ _ => rfl⟩, by rw [Nat.zero_mul, Nat.add_zero]; exact h⟩
theorem DG.zero' {w : World} {b P C : Nat} (h : RdP w b P) : DG w b P C 0 w := ⟨⟨rfl, rfl, rfl, Nat.le_refl _, fun _ _ _ => rfl⟩, by rw [Nat.zero_mul, Nat.add_zero]; exact h⟩
theorem DG.step {w wx : World} {b P C k : Nat} (h : DG w b P C k wx) : DG w b P C (k + 1) wx := ⟨h.1, h.2.mono (by rw [Nat.succ_mul]; omega)⟩
theorem DG.more {w wx wy : World} {b P C k c : Nat} (h : DG w b P C k wx) (g : wx.grownBy wy (some b)) (r : RdP wy b (P + k * C + c)) (hc : c ≤ C) : DG w b P C (k + 1) wy := ⟨grown_trans h.1 g, r.mono (by rw [Nat.succ_mul]; omega)⟩
theorem DG.ext {w wx wy : World} {b P C k : Nat} (h : DG w b P C k wx) (e : Ext wx wy) : DG w b P C (k + 1) wy := ⟨grown_ext h.1 e, (h.2.ext e).mono (by rw [Nat.succ_mul]; omega)⟩
theorem RdP.set {w : World} {b P q j : Nat} {v : Value} (h : RdP w b P) (hq : b < q) : RdP (w.setCell ⟨q, j, none⟩ v) b P := by
  obtain ⟨p, h1, h2⟩ := h; exact ⟨p, h1, h2.set hq⟩
theorem DG.set {w wx : World} {b P C k q j : Nat} {v : Value} (h : DG w b P C k wx) (hq : w.heap.size ≤ q) (hb : b < q) : DG w b P C k (wx.setCell ⟨q, j, none⟩ v) := ⟨grown_set h.1 hq, h.2.set hb⟩
theorem grown_drew {w wx : World} {r : Option Nat} (g : w.grownBy wx r) : w.grownBy wx.drew r := ⟨g.os, g.tape, g.output, g.size, fun i hi hne => g.block i hi hne⟩
theorem DG.drew {w wx : World} {b P C k : Nat} (h : DG w b P C k wx) : DG w b P C k wx.drew := ⟨grown_drew h.1, h.2.drew⟩
theorem DG.reset {w wx : World} {b P C k P' : Nat} (h : DG w b P C k wx) (hP : P + k * C ≤ P') (C' : Nat) : DG w b P' C' 0 wx := ⟨h.1, h.2.mono (by omega)⟩
theorem DG.small {k n P C : Nat} (h : k < n) (hn : n ≤ 1000) (hC : C ≤ 100000000) (hP : P < 2^39) : P + k * C < 2^40 := by
  have : k * C ≤ 1000 * 100000000 := Nat.mul_le_mul (by omega) hC
  omega
theorem DG.bd {k n P C : Nat} (h : k < n) (hn : n ≤ 1000) (hC : C ≤ 10000000) (hP : P ≤ 2^37) : P + k * C < 2^38 := by
  have : k * C ≤ 1000 * 10000000 := Nat.mul_le_mul (by omega) hC
  omega
theorem ext_gr {w w' : World} {r : Option Nat} (e : Ext w w') : w.grownBy w' r := ⟨e.os, e.tape, e.output, e.size, fun k hk _ => e.block k hk⟩

/-- The same, with a fact of the world that draws do not touch. -/
def DGI (w : World) (b P C : Nat) (I : World → Prop) (k : Nat) (wx : World) : Prop := DG w b P C k wx ∧ I wx ∧ ∀ wa wb : World, wa.grownBy wb (some b) → I wa → I wb
theorem DGI.step {w wx : World} {b P C k : Nat} {I : World → Prop} (h : DGI w b P C I k wx) : DGI w b P C I (k + 1) wx := ⟨h.1.step, h.2⟩
theorem DGI.more {w wx wy : World} {b P C k c : Nat} {I : World → Prop} (h : DGI w b P C I k wx) (g : wx.grownBy wy (some b)) (r : RdP wy b (P + k * C + c)) (hc : c ≤ C) : DGI w b P C I (k + 1) wy := ⟨h.1.more g r hc, h.2.2 _ _ g h.2.1, h.2.2⟩
theorem DGI.ext {w wx wy : World} {b P C k : Nat} {I : World → Prop} (h : DGI w b P C I k wx) (e : Ext wx wy) : DGI w b P C I (k + 1) wy := ⟨h.1.ext e, h.2.2 _ _ (ext_gr e) h.2.1, h.2.2⟩
theorem DGI.drew {w wx : World} {b P C k : Nat} {I : World → Prop} (h : DGI w b P C I k wx) : DGI w b P C I k wx.drew := ⟨h.1.drew, h.2.2 _ _ (ext_gr (Ext.drewN _ 1)) h.2.1, h.2.2⟩
theorem DGI.reset {w wx : World} {b P C k P' : Nat} {I : World → Prop} (h : DGI w b P C I k wx) (hP : P + k * C ≤ P') (C' : Nat) : DGI w b P' C' I 0 wx := ⟨h.1.reset hP C', h.2⟩

/-- A list of n numbers in lo..hi, in a block of its own. -/
def SlR (w : World) (b : Nat) (v : Value) (n : Nat) (lo hi : Int) : Prop :=
  ∃ (g : Nat) (xs : List Int), v = .slice (some ⟨g, 0, none⟩) n n ∧ b ≤ g ∧ Sl w (some ⟨g, 0, none⟩) n (xs.map (Value.int .i64)) ∧ ∀ x ∈ xs, lo ≤ x ∧ x ≤ hi
theorem SlR.grown {w w' : World} {b B : Nat} {v : Value} {n : Nat} {lo hi : Int} (h : SlR w B v n lo hi) (e : w.grownBy w' (some b)) (hb : b < B) : SlR w' B v n lo hi := by
  obtain ⟨g, xs, h1, h2, h3, h4⟩ := h
  exact ⟨g, xs, h1, h2, h3.grown e (fun x hx he => by simp at hx he; rw [← hx] at he; simp at he; omega), h4⟩
theorem SlR.set {w : World} {B q j : Nat} {u : Value} {v : Value} {n : Nat} {lo hi : Int} (h : SlR w B v n lo hi) (hq : q < B) : SlR (w.setCell ⟨q, j, none⟩ u) B v n lo hi :=
  h.grown ⟨rfl, rfl, rfl, by simp, fun k _ hk => heap_setCell_other w ⟨q, j, none⟩ k _ (fun e => hk (by simp [e]))⟩ hq
/-- An address of a number in lo..hi. -/
def PtR (w : World) (b : Nat) (v : Value) (lo hi : Int) : Prop :=
  ∃ (g j : Nat) (y : Int), v = .pointer (some ⟨g, j, none⟩) ∧ b ≤ g ∧ w.cell? ⟨g, j, none⟩ = some (.int .i64 y) ∧ lo ≤ y ∧ y ≤ hi
theorem PtR.grown {w w' : World} {b B : Nat} {v : Value} {lo hi : Int} (h : PtR w B v lo hi) (e : w.grownBy w' (some b)) (hb : b < B) : PtR w' B v lo hi := by
  obtain ⟨g, j, y, h1, h2, h3, h4, h5⟩ := h
  exact ⟨g, j, y, h1, h2, e.cell h3 (by intro he; simp at he; omega), h4, h5⟩
theorem PtR.set {w : World} {B q j : Nat} {u : Value} {v : Value} {lo hi : Int} (h : PtR w B v lo hi) (hq : q < B) : PtR (w.setCell ⟨q, j, none⟩ u) B v lo hi :=
  h.grown ⟨rfl, rfl, rfl, by simp, fun k _ hk => heap_setCell_other w ⟨q, j, none⟩ k _ (fun e => hk (by simp [e]))⟩ hq
theorem cell_of_blk {w : World} {b : Nat} {arr : Array Value} {T : TypeId} {i : Nat} {v : Value} (h : w.heap[b]? = some (.cells arr T (0, 0))) (hi : arr[i]? = some v) : w.cell? ⟨b, i, none⟩ = some v := by
  simp [World.cell?, h, hi]
theorem Sl_new (w : World) (vs : List Value) (T : TypeId) : Sl (w.alloc (.cells vs.toArray T (0, 0))) (some ⟨w.heap.size, 0, none⟩) vs.length vs := by
  refine ⟨rfl, fun i hi => ⟨w.heap.size, 0, rfl, ?_⟩⟩
  exact cell_of_blk (blk_new _ _) (by simp [hi])
theorem SlR.at {w : World} {g b n : Nat} {l : List Int} {lo hi : Int} {i : Nat} (hne : b ≤ g) (s : Sl w (some ⟨g, 0, none⟩) n (l.map (Value.int .i64))) (h : ∀ x ∈ l, lo ≤ x ∧ x ≤ hi) (hi' : i < n) : PtR w b (.pointer (some ⟨g, i, none⟩)) lo hi := by
  obtain ⟨b', o', h1, h2⟩ := s.int hi'
  simp only [Option.some.injEq, Addr.mk.injEq, and_true] at h1
  obtain ⟨rfl, rfl⟩ := h1
  rw [Nat.zero_add] at h2
  have hl : i < l.length := by rw [s.int_len]; exact hi'
  have h3 := h (nth l i) (by rw [nth_eq _ _ hl]; exact List.getElem_mem hl)
  exact ⟨_, _, _, rfl, hne, h2, h3.1, h3.2⟩

end Go.Proofs.YtlmoeabchiddnaaDoor
