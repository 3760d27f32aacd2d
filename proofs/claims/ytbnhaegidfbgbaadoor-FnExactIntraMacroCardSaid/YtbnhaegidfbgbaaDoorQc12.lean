/- The intra macroblock: plain law, and the memory of both walks. -/
import Derived.Test.YtbnhaegidfbgbaaDoorQc11
namespace Go.Proofs.YtbnhaegidfbgbaaDoor
open Go.RowKit
set_option maxHeartbeats 1000000
section
variable (t p : Pic) (x y q : Nat) (top : Int)
def inE (Z : List Int) (k : Nat) : Ed := edg ⟨p.w, p.h, Z⟩ ((x + k % 2 * 4 : Nat) : Int) ((y + k / 2 * 4 : Nat) : Int) top
def inU (k : Nat) : List Int := prt t ((x + k % 2 * 4 : Nat) : Int) ((y + k / 2 * 4 : Nat) : Int)
def inM (Z : List Int) (k : Nat) : Nat := bst (inU t x y k) (inE p x y top Z k)
def inP (Z : List Int) (k : Nat) : List Int := prd (inM t p x y top Z k) (inE p x y top Z k)
def inL (Z : List Int) (k : Nat) : List Int := cod (dif (inU t x y k) (inP t p x y top Z k)) q
/-- Of the first k blocks: the picture, the modes, the levels. -/
def inS : Nat → List Int × List Int × List Int
  | 0 => (p.px, zero4, zl 64)
  | k + 1 => (putS (inS k).1 p.w.toNat (x + k % 2 * 4) (y + k / 2 * 4) (inP t p x y top (inS k).1 k) (dec (inL t p x y q top (inS k).1 k) q) 16,
      (inS k).2.1.set k (inM t p x y top (inS k).1 k : Nat), spl (inS k).2.2 (k * 16) (inL t p x y q top (inS k).1 k))
def inMac (k : Nat) : Mac := ⟨2, 0, 0, (inS t p x y q top k).2.1, (inS t p x y q top k).2.2⟩
end
theorem inS_len (t p : Pic) (x y q : Nat) (top : Int) : ∀ k : Nat, (inS t p x y q top k).1.length = p.px.length
  | 0 => rfl
  | k + 1 => by
    show (putS _ _ _ _ _ _ _).length = _
    rw [putS_len, inS_len t p x y q top k]
theorem inS_modes (t p : Pic) (x y q : Nat) (top : Int) : ∀ k : Nat, (inS t p x y q top k).2.1.length = 4
  | 0 => rfl
  | k + 1 => by
    show (List.set _ _ _).length = _
    rw [List.length_set, inS_modes t p x y q top k]
theorem inS_lv (t p : Pic) (x y q : Nat) (top : Int) : ∀ k : Nat, k ≤ 4 → (inS t p x y q top k).2.2.length = 64
  | 0, _ => zl_len 64
  | k + 1, h => by
    have ih := inS_lv t p x y q top k (by omega)
    show (spl _ _ _).length = _
    rw [spl_len (by rw [show (inL t p x y q top (inS t p x y q top k).1 k).length = 16 from cod_len _ _, ih]; omega), ih]
theorem inMac_ok (t p : Pic) (x y q : Nat) (top : Int) {k : Nat} (h : k ≤ 4) : (inMac t p x y q top k).ok := ⟨inS_modes _ _ _ _ _ _ _, inS_lv _ _ _ _ _ _ _ h⟩
theorem inS_smp (t : Pic) {p : Pic} (h : smp p.px) (x y q : Nat) (top : Int) : ∀ k : Nat, smp (inS t p x y q top k).1
  | 0 => h
  | k + 1 => putS_smp (inS_smp t h x y q top k) _ _ _ _ _ _
theorem inS_valid (t : Pic) {p : Pic} (h : p.valid) (x y q : Nat) (top : Int) (k : Nat) : Pic.valid ⟨p.w, p.h, (inS t p x y q top k).1⟩ :=
  ⟨h.1, h.2.1, by show ((inS t p x y q top k).1.length : Int) = _; rw [inS_len]; exact h.2.2.1, inS_smp t h.2.2.2 _ _ _ _ _⟩
theorem Mac.set_md {m : Mac} (h : m.ok) {k : Nat} (hk : k < 4) (v : Int) : m.zs.set (3 + k) v = Mac.zs { m with modes := m.modes.set k v } := by
  have e : m.zs = [m.kind, m.x, m.y] ++ (m.modes ++ m.lv) := by simp [Mac.zs]
  rw [e, List.set_append_right _ _ (by simp), show 3 + k - [m.kind, m.x, m.y].length = k by simp, List.set_append_left _ _ (by rw [h.modes]; exact hk)]
  simp [Mac.zs]
/-- The two stores of a round. -/
theorem inMac_md (t p : Pic) (x y q : Nat) (top : Int) {k : Nat} (h : k < 4) : (inMac t p x y q top k).zs.set (3 + k) (inM t p x y top (inS t p x y q top k).1 k : Nat) = Mac.zs ⟨2, 0, 0, (inS t p x y q top (k + 1)).2.1, (inS t p x y q top k).2.2⟩ :=
  Mac.set_md (inMac_ok t p x y q top (by omega)) h _
theorem inMac_lv (t p : Pic) (x y q : Nat) (top : Int) {k : Nat} (h : k < 4) : spl (Mac.zs ⟨2, 0, 0, (inS t p x y q top (k + 1)).2.1, (inS t p x y q top k).2.2⟩) (7 + k * 16) (inL t p x y q top (inS t p x y q top k).1 k) = (inMac t p x y q top (k + 1)).zs :=
  Mac.spl_lv (m := ⟨2, 0, 0, (inS t p x y q top (k + 1)).2.1, (inS t p x y q top k).2.2⟩) ⟨inS_modes _ _ _ _ _ _ _, inS_lv _ _ _ _ _ _ _ (by omega)⟩ _ _
theorem inMac_build : Tryd.zeroCells34.setIfInBounds 0 (.int .i64 2) = ic (Mac.zs ⟨2, 0, 0, zero4, zl 64⟩) := by kernel_rfl
def okN (t p : Pic) (x y q top : Int) : Prop := alikeP t p ∧ placeP t x y ∧ (0 ≤ q ∧ q ≤ 15) ∧ (0 ≤ top ∧ top ≤ y)
noncomputable instance (t p : Pic) (x y q top : Int) : Decidable (okN t p x y q top) := Classical.propDecidable _
noncomputable def intraP (t p : Pic) (x y q top : Int) : Mac := if okN t p x y q top then inMac t p x.toNat y.toNat q.toNat top 4 else mac0
theorem intraP_yes {t p : Pic} {x y q top : Int} (h : okN t p x y q top) : intraP t p x y q top = inMac t p x.toNat y.toNat q.toNat top 4 := if_pos h
theorem intraP_no {t p : Pic} {x y q top : Int} (h : ¬ okN t p x y q top) : intraP t p x y q top = mac0 := if_neg h
theorem intraP_ok (t p : Pic) (x y q top : Int) : (intraP t p x y q top).ok := by
  by_cases h : okN t p x y q top
  · rw [intraP_yes h]; exact inMac_ok _ _ _ _ _ _ (Nat.le_refl _)
  · rw [intraP_no h]; exact mac0_ok
/-- What both walks keep: the copy (a row and its structure), the macroblock, the two zero places. -/
structure NS (w : World) (g n c : Nat) (tw th : Int) (a : Option Addr) (nt ct W H B O M : Nat) (Z ms : List Int) (wx : World) : Prop where
  ex : Ext w wx
  own : wx.ownsRow w.heap.size 3 1 (.slice (some ⟨g, 0, none⟩) n c) n (Z.map (Value.int .i64))
  bt : wx.heap[B]? = some (.cells #[.int .i64 tw, .int .i64 th, .slice a nt ct] 25 (0, 0))
  br : wx.heap[O]? = some (.cells #[.int .i64 W, .int .i64 H, .slice (some ⟨g, 0, none⟩) n c] 25 (0, 0))
  bz : IB wx (B + 1 + 1) 34 (zl 71)
  bm : IB wx M 34 ms
  h1 : w.heap.size ≤ B ∧ w.heap.size ≤ g ∧ w.heap.size ≤ O ∧ w.heap.size ≤ M
  h2 : B ≠ g ∧ O ≠ g ∧ B + 1 + 1 ≠ g ∧ M ≠ g ∧ M ≠ B ∧ M ≠ O ∧ M ≠ B + 1 + 1
section
variable {w wx wy : World} {g n c nt ct W H B O M : Nat} {tw th : Int} {a : Option Addr} {Z Z' ms ms' : List Int}
theorem NS.e (h : NS w g n c tw th a nt ct W H B O M Z ms wx) (e : Ext wx wy) : NS w g n c tw th a nt ct W H B O M Z ms wy :=
  ⟨h.ex.trans e, owns_ext h.own e, e.blk h.bt, e.blk h.br, h.bz.ext e, h.bm.ext e, h.h1, h.h2⟩
theorem NS.lt (h : NS w g n c tw th a nt ct W H B O M Z ms wx) : B < wx.heap.size ∧ g < wx.heap.size ∧ O < wx.heap.size ∧ M < wx.heap.size ∧ B + 1 + 1 < wx.heap.size :=
  ⟨lt_of_block h.bt, (h.own.lt g rfl).2, lt_of_block h.br, h.bm.lt, h.bz.lt⟩
theorem NS.put (h : NS w g n c tw th a nt ct W H B O M Z ms wx) (gr : wx.grownBy wy (some g)) (own : wy.ownsRow w.heap.size 3 1 (.slice (some ⟨g, 0, none⟩) n c) n (Z'.map (Value.int .i64))) : NS w g n c tw th a nt ct W H B O M Z' ms wy := by
  have a1 := h.h1
  have a2 := h.h2
  exact ⟨Ext.grown h.ex gr (fun k hk => by cases hk; omega), own, blk_gr h.bt gr (by simp; omega), blk_gr h.br gr (by simp; omega), h.bz.gr gr (by simp; omega), h.bm.gr gr (by simp; omega), a1, a2⟩
theorem NS.mac (h : NS w g n c tw th a nt ct W H B O M Z ms wx) (gr : wx.grownBy wy (some M)) (i : IB wy M 34 ms') : NS w g n c tw th a nt ct W H B O M Z ms' wy := by
  have a1 := h.h1
  have a2 := h.h2
  exact ⟨Ext.grown h.ex gr (fun k hk => by cases hk; omega), h.own.kept gr (.inr (by simp [Value.ownBlock]; omega)), blk_gr h.bt gr (by simp; omega), blk_gr h.br gr (by simp; omega), h.bz.gr gr (by simp; omega), i, a1, a2⟩
theorem NS.loc {b K : Nat} (h : NS w g n c tw th a nt ct W H B O M Z ms wx) (gr : wx.grownBy wy (some b)) (hb : K ≤ b) (hK : w.heap.size ≤ K ∧ B < K ∧ g < K ∧ O < K ∧ M < K ∧ B + 1 + 1 < K) : NS w g n c tw th a nt ct W H B O M Z ms wy := by
  have a1 := h.h1
  exact ⟨Ext.grown h.ex gr (fun k hk => by cases hk; omega), h.own.kept gr (.inr (by simp [Value.ownBlock]; omega)), blk_gr h.bt gr (by simp; omega), blk_gr h.br gr (by simp; omega), h.bz.gr gr (by simp; omega), h.bm.gr gr (by simp; omega), a1, h.h2⟩
/-- A place for a block of integers, or for the samples around a block, that came to be behind K. -/
def IA (w : World) (K : Nat) (v : Value) : Prop := ∃ (b : Nat) (us : List Int), v = .pointer (some ⟨b, 0, none⟩) ∧ K ≤ b ∧ IB w b 31 us ∧ us.length = 16
def EA (w : World) (K : Nat) (v : Value) : Prop := ∃ (b : Nat) (u : Ed), v = .pointer (some ⟨b, 0, none⟩) ∧ K ≤ b ∧ EB w b u ∧ u.ln
def IS (w : World) (K : Nat) (v : Value) (U : List Int) : Prop := ∃ b : Nat, v = .pointer (some ⟨b, 0, none⟩) ∧ K ≤ b ∧ IB w b 31 U
def ES (w : World) (K : Nat) (v : Value) (E : Ed) : Prop := ∃ b : Nat, v = .pointer (some ⟨b, 0, none⟩) ∧ K ≤ b ∧ EB w b E
/-- One block of integers, or one of samples around a block, was written. -/
def StI (wx wy : World) : Prop := ∃ (b : Nat) (us vs : List Int), wx.grownBy wy (some b) ∧ IB wx b 31 us ∧ IB wy b 31 vs ∧ vs.length = 16
def StE (wx wy : World) : Prop := ∃ (b : Nat) (u v : Ed), wx.grownBy wy (some b) ∧ EB wx b u ∧ EB wy b v ∧ v.ln
theorem IB.ne_E {b d : Nat} {us : List Int} {u : Ed} (h : IB w b 31 us) (k : EB w d u) : b ≠ d := by
  intro e
  subst e
  have h1 : w.heap[b]? = some (.cells (ic us) 31 (0, 0)) := h
  have h2 : w.heap[b]? = some (.cells (edC u) 97 (0, 0)) := k
  rw [h1] at h2
  simp only [Option.some.injEq, Obj.cells.injEq] at h2
  exact absurd h2.2.1 (by decide)
variable {K : Nat} {v : Value} {U : List Int} {E : Ed}
theorem IA.ext (h : IA wx K v) (e : Ext wx wy) : IA wy K v := by obtain ⟨b, us, h1, h2, h3, h4⟩ := h; exact ⟨b, us, h1, h2, h3.ext e, h4⟩
theorem EA.ext (h : EA wx K v) (e : Ext wx wy) : EA wy K v := by obtain ⟨b, us, h1, h2, h3, h4⟩ := h; exact ⟨b, us, h1, h2, h3.ext e, h4⟩
theorem IS.ext (h : IS wx K v U) (e : Ext wx wy) : IS wy K v U := by obtain ⟨b, h1, h2, h3⟩ := h; exact ⟨b, h1, h2, h3.ext e⟩
theorem ES.ext (h : ES wx K v E) (e : Ext wx wy) : ES wy K v E := by obtain ⟨b, h1, h2, h3⟩ := h; exact ⟨b, h1, h2, h3.ext e⟩
theorem IA.stI (h : IA wx K v) (s : StI wx wy) : IA wy K v := by
  obtain ⟨b, us, h1, h2, h3, h4⟩ := h
  obtain ⟨d, u1, u2, s1, s2, s3, s4⟩ := s
  by_cases e : b = d
  · subst e; exact ⟨b, u2, h1, h2, s3, s4⟩
  · exact ⟨b, us, h1, h2, h3.gr s1 (by simp; omega), h4⟩
theorem IA.stE (h : IA wx K v) (s : StE wx wy) : IA wy K v := by
  obtain ⟨b, us, h1, h2, h3, h4⟩ := h
  obtain ⟨d, u1, u2, s1, s2, s3, s4⟩ := s
  have := h3.ne_E s2
  exact ⟨b, us, h1, h2, h3.gr s1 (by simp; omega), h4⟩
theorem EA.stE (h : EA wx K v) (s : StE wx wy) : EA wy K v := by
  obtain ⟨b, us, h1, h2, h3, h4⟩ := h
  obtain ⟨d, u1, u2, s1, s2, s3, s4⟩ := s
  by_cases e : b = d
  · subst e; exact ⟨b, u2, h1, h2, s3, s4⟩
  · exact ⟨b, us, h1, h2, h3.gr s1 (by simp; omega), h4⟩
theorem EA.stI (h : EA wx K v) (s : StI wx wy) : EA wy K v := by
  obtain ⟨b, us, h1, h2, h3, h4⟩ := h
  obtain ⟨d, u1, u2, s1, s2, s3, s4⟩ := s
  have := s2.ne_E h3
  exact ⟨b, us, h1, h2, h3.gr s1 (by simp; omega), h4⟩
theorem IS.stE (h : IS wx K v U) (s : StE wx wy) : IS wy K v U := by
  obtain ⟨b, h1, h2, h3⟩ := h
  obtain ⟨d, u1, u2, s1, s2, s3, s4⟩ := s
  have := h3.ne_E s2
  exact ⟨b, h1, h2, h3.gr s1 (by simp; omega)⟩
theorem ES.stI (h : ES wx K v E) (s : StI wx wy) : ES wy K v E := by
  obtain ⟨b, h1, h2, h3⟩ := h
  obtain ⟨d, u1, u2, s1, s2, s3, s4⟩ := s
  have := s2.ne_E h3
  exact ⟨b, h1, h2, h3.gr s1 (by simp; omega)⟩
end
end Go.Proofs.YtbnhaegidfbgbaaDoor
