/- Drawing: the arguments of Deblock. -/
import Derived.Test.YtlmoeabchiddnaaDoorPd
import Derived.Test.YtlmoeabchiddnaaDoorNa
namespace Go.Proofs.YtlmoeabchiddnaaDoor
open Go.RowKit
set_option maxHeartbeats 1000000
theorem RdP.setP {w : World} {b P q j : Nat} {x y : Int} {a : Option Addr} {n c : Nat} {v : Value} {T : TypeId} (h : RdP w b P) (hg : w.heap[q]? = some (.cells #[.int .i64 x, .int .i64 y, .slice a n c] T (0, 0))) (hne : q ≠ b) : RdP (w.setCell ⟨q, j, none⟩ v) b P := by
  obtain ⟨p, hp, h1⟩ := h
  refine ⟨p, hp, h1.setG hg (fun i z hz => ?_) hne⟩
  match i, hz with
  | 0, hz => simp at hz
  | 1, hz => simp at hz
  | 2, hz => simp at hz
  | i + 3, hz => simp at hz
theorem RdP.setP3 {w : World} {b P q : Nat} {x y x' y' : Int} {a a' : Option Addr} {n c n' c' : Nat} {T : TypeId} (h : RdP w b P) (hg : w.heap[q]? = some (.cells #[.int .i64 x, .int .i64 y, .slice a n c] T (0, 0))) (hne : q ≠ b) :
    RdP (((w.setCell ⟨q, 0, none⟩ (.int .i64 x')).setCell ⟨q, 1, none⟩ (.int .i64 y')).setCell ⟨q, 2, none⟩ (.slice a' n' c')) b P := by
  have h1 := heap_setCell_same w q 0 _ _ (.int .i64 x') hg
  have h2 := heap_setCell_same _ q 1 _ _ (.int .i64 y') h1
  exact ((h.setP hg hne).setP (x := x') (y := y) (a := a) (n := n) (c := c) (by simpa using h1) hne).setP (x := x') (y := y') (a := a) (n := n) (c := c) (by simpa using h2) hne
/-- A picture's box. -/
def PBx (w : World) (b : Nat) (p : Pic) (a : Option Addr) (n c : Nat) : Prop := w.heap[b]? = some (.cells #[.int .i64 p.w, .int .i64 p.h, .slice a n c] 46 (0, 0))
theorem PBx.cells {w : World} {b : Nat} {p : Pic} {a : Option Addr} {n c : Nat} (h : PBx w b p a n c) : w.cell? ⟨b, 0, none⟩ = some (.int .i64 p.w) ∧ w.cell? ⟨b, 1, none⟩ = some (.int .i64 p.h) ∧ w.cell? ⟨b, 2, none⟩ = some (.slice a n c) := by
  obtain ⟨-, h0, h1, h2, -⟩ := bx3 h
  exact ⟨h0, h1, h2⟩
section
variable {P : Program}
theorem results_ct_rowP {fn : Func} {p u : Tmp} {ty : TypeId} (h : fn.results = #[.cell p ty, .tmp u]) (tmps : Array Value) (w : World) (g : Nat) (t : TypeId) (cs : Array Value) (fr : Nat × Nat) (d : TypeDesc)
    (hp : tmps.getD p undef = .pointer (some ⟨g, 0, none⟩)) (hg : w.heap[g]? = some (.cells cs t fr))
    (hu : P.underlying ty = some d) (hd : (match d with | .struct _ | .array _ _ => true | _ => false) = true) (hi : (P.info? ty).map (·.size) = some cs.size) :
    (results fn tmps).run P w = .ok (.tuple #[.agg cs, tmps.getD u undef]) w := by
  have hp' : tmps[p]?.getD undef = .pointer (some ⟨g, 0, none⟩) := by simpa using hp
  simp [results, h, hp', asAddr, run_loadVar_row w g t ty cs fr d hg hu hd hi, Sem.run_bind, Result.andThen]
end
/-- What holds while the arguments of Deblock are drawn. -/
structure QG (w : World) (b O P k : Nat) (p : Pic) (a : Option Addr) (n c : Nat) (wx : World) : Prop where
  dg : DG w b P 4 k wx
  box : PBx wx O p a n c
  res : ∃ (x y : Int) (a' : Option Addr) (n' c' : Nat), wx.heap[w.heap.size]? = some (.cells #[.int .i64 x, .int .i64 y, .slice a' n' c'] 46 (0, 0))
  sl : Sl wx a n (p.px.map (Value.int .i64))
  hb : w.heap.size < b
  hO : b < O
  ha : ∀ y, a = some y → b < y.block
theorem QG.step {w wx : World} {b O P k n c : Nat} {p : Pic} {a : Option Addr} (h : QG w b O P k p a n c wx) : QG w b O P (k + 1) p a n c wx := ⟨h.dg.step, h.box, h.res, h.sl, h.hb, h.hO, h.ha⟩
theorem QG.grb {w wx wy : World} {b O P k k' n c : Nat} {p : Pic} {a : Option Addr} (h : QG w b O P k p a n c wx) (e : wx.grownBy wy (some b)) (d : DG w b P 4 k' wy) : QG w b O P k' p a n c wy := by
  have h1 := h.hb
  have h2 := h.hO
  obtain ⟨x, y, a', n', c', hr⟩ := h.res
  exact ⟨d, blk_gr h.box e (by simp; omega), ⟨x, y, a', n', c', blk_gr hr e (by simp; omega)⟩, h.sl.grown e (fun u hu => by have := h.ha u hu; simp; omega), h.hb, h.hO, h.ha⟩
theorem QG.put {w wx : World} {b O P k n c : Nat} {p : Pic} {a : Option Addr} {x y : Int} {a' : Option Addr} {n' c' : Nat} (h : QG w b O P k p a n c wx) (hr : wx.heap[w.heap.size]? = some (.cells #[.int .i64 x, .int .i64 y, .slice a' n' c'] 46 (0, 0))) :
    QG w b O P (k + 1) p a n c (((wx.setCell ⟨w.heap.size, 0, none⟩ (.int .i64 p.w)).setCell ⟨w.heap.size, 1, none⟩ (.int .i64 p.h)).setCell ⟨w.heap.size, 2, none⟩ (.slice a n c)) := by
  have h1 := h.hb
  have h2 := h.hO
  have g := gr_set3 wx w.heap.size (.int .i64 p.w) (.int .i64 p.h) (.slice a n c)
  exact ⟨⟨grown_any h.dg.1 g (fun k hk => by cases hk; omega), (h.dg.2.setP3 hr (by omega)).mono (by rw [Nat.succ_mul]; omega)⟩, blk_gr h.box g (by simp; omega), ⟨_, _, _, _, _, blk_set3 hr⟩, h.sl.grown g (fun u hu => by have := h.ha u hu; simp; omega), h.hb, h.hO, h.ha⟩
set_option maxRecDepth 100000 in
theorem DrawDeblock_any (s : Option Addr) (cc m : Nat) (bs : List Int) (w : World) (hc : m ≤ cc) (hc2 : cc ≤ 9223372036854775807) (r : Sl w s m (bs.map (Value.int .u8))) (hz : ∀ z ∈ bs, 0 ≤ z ∧ z ≤ 255) :
    Calls Tryd.prog 27 #[.slice s m cc] w fun e w' => ∃ (p : Pic) (a : Option Addr) (c n : Nat) (q : Int), e = .returned (.tuple #[.agg #[.int .i64 p.w, .int .i64 p.h, .slice a n c], .int .i64 q]) ∧ n = p.px.length ∧ n ≤ 1024 ∧ Sl w' a n (p.px.map (Value.int .i64)) ∧ -1 ≤ q ∧ q ≤ 16 ∧ Ext w w' := by
  have e0 := Ext.alloc w (.cells #[.int .i64 0, .int .i64 0, .slice none 0 0] 46)
  have R0 := blk_new w (.cells #[.int .i64 0, .int .i64 0, .slice none 0 0] 46)
  go_enter Tryd.func27, Tryd.ntmps27
  go_wp2_with fail
  refine (open_any s cc m bs _ hc hc2 (r.ext e0) hz).mono ?_
  rintro e w1 ⟨b, rfl, rd, e1, hb⟩
  have hRb : w.heap.size < b := by simp at hb; omega
  have R1 := e1.blk R0
  have r1 : RdP w1 b 0 := ⟨0, by omega, rd⟩
  have E1 := e0.trans e1
  clear e0 e1 R0 rd hb hz
  go_wp2_with fail
  refine (l20Picture_c b 0 9 _ r1 (by omega) (by omega) (by omega)).mono ?_
  rintro e w2 ⟨p, a, c, n, rfl, hn, hn2, pw1, pw2, ph1, ph2, s2, ha2, r2, g2⟩
  have hb1 := r1.lt
  obtain ⟨O, hO⟩ : ∃ O, O = w2.heap.size := ⟨_, rfl⟩
  have D3 : QG w b O 2100 0 p a n c (w2.alloc (.cells #[.int .i64 p.w, .int .i64 p.h, .slice a n c] 46)) := by
    have e3 := Ext.alloc w2 (.cells #[.int .i64 p.w, .int .i64 p.h, .slice a n c] 46)
    refine ⟨⟨grown_ext (grown_trans (ext_gr E1) g2) e3, (r2.ext e3).mono (by omega)⟩, by rw [hO]; exact blk_new _ _, ⟨0, 0, none, 0, 0, e3.blk (blk_gr R1 g2 (by simp; omega))⟩, s2.ext e3, hRb, ?_, fun y hy => by have := ha2 y hy; omega⟩
    have := r2.lt
    omega
  have HN := Lib.hid hn
  clear hn s2 r2 g2 R1 E1 r1 ha2 pw1 pw2 ph1 ph2
  go_upto_region 3 with fail
  rw [← hO]
  generalize w2.alloc (.cells #[.int .i64 p.w, .int .i64 p.h, .slice a n c] 46) = w3 at *
  clear hO
  have hext : ∀ (i : Nat) (own : Value) (ys : Nat → Value) (wa wb : World), wa.grownBy wb (some b) → (match i with | 0 => own = .agg #[.int .i64 p.w, .int .i64 p.h, .slice a n c] | 1 => own = .pointer (some ⟨b, 0, none⟩) | 2 => ∃ x : Int, own = .int .i64 x ∧ -1 ≤ x ∧ x ≤ 16 | 3 => wa.heap[w.heap.size]? = some (.cells #[.int .i64 p.w, .int .i64 p.h, .slice a n c] 46 (0, 0)) | 4 => ∃ x : Int, own = .int .i64 x ∧ -1 ≤ x ∧ x ≤ 16 | _ => True) → (match i with | 0 => own = .agg #[.int .i64 p.w, .int .i64 p.h, .slice a n c] | 1 => own = .pointer (some ⟨b, 0, none⟩) | 2 => ∃ x : Int, own = .int .i64 x ∧ -1 ≤ x ∧ x ≤ 16 | 3 => wb.heap[w.heap.size]? = some (.cells #[.int .i64 p.w, .int .i64 p.h, .slice a n c] 46 (0, 0)) | 4 => ∃ x : Int, own = .int .i64 x ∧ -1 ≤ x ∧ x ≤ 16 | _ => True) := by
    intro i own ys wa wb e h
    match i, h with
    | 0, h => exact h
    | 1, h => exact h
    | 2, h => exact h
    | 3, h => exact gr_blk e h (by omega)
    | 4, h => exact h
    | _ + 5, _ => trivial
  have Hext := Lib.hid hext
  clear hext
  refine wp_region_inv2 (by kernel_rfl) [(3, 4), (10, 0), (11, 1), (12, 2)] [[], [], [1], [0, 1, 2], [0, 1, 2, 3]] (fun i own ys wx => match i with | 0 => own = .agg #[.int .i64 p.w, .int .i64 p.h, .slice a n c] | 1 => own = .pointer (some ⟨b, 0, none⟩) | 2 => ∃ x : Int, own = .int .i64 x ∧ -1 ≤ x ∧ x ≤ 16 | 3 => wx.heap[w.heap.size]? = some (.cells #[.int .i64 p.w, .int .i64 p.h, .slice a n c] 46 (0, 0)) | 4 => ∃ x : Int, own = .int .i64 x ∧ -1 ≤ x ∧ x ≤ 16 | _ => True) (fun kx wx => QG w b O 2100 kx p a n c wx) (by kernel_rfl) (by kernel_rfl) (by kernel_rfl) ?g0_r1 ?gop_r1 ?gend_r1
  case g0_r1 => exact D3.grb (ext_gr (Ext.drewN _ 1)) D3.dg.drew
  case gop_r1 =>
    refine ⟨?_, ?_, ?_, ?_, ?_, trivial⟩
    · intro kx xs wx hk hG hD hI Qo Kx hK hQo
      clear hD
      clear hI
      simp only [patchS, Nat.reduceAdd, Nat.reduceEqDiff, ↓reduceIte] at hQo ⊢
      obtain ⟨k0, k1, k2⟩ := hG.box.cells
      go_wp2
      exact hK.out _ _ ⟨rfl, hG.step, fun _ _ _ _ _ _ h => h⟩
    · intro kx xs wx hk hG hD hI Qo Kx hK hQo
      clear hD
      clear hI
      simp only [patchS, Nat.reduceAdd, Nat.reduceEqDiff, ↓reduceIte] at hQo ⊢
      go_wp2
      exact hK.out _ _ ⟨rfl, hG.step, fun _ _ _ _ _ _ h => h⟩
    · intro kx xs wx hk hG hD hI Qo Kx hK hQo
      have d1 : (xs 1) = .pointer (some ⟨b, 0, none⟩) := hD 1 rfl
      clear hD
      clear hI
      simp only [patchS, Nat.reduceAdd, Nat.reduceEqDiff, ↓reduceIte] at hQo ⊢
      generalize xs 1 = y1 at *
      subst d1
      go_wp2_with fail
      refine (l20Q_c b _ 9 _ hG.dg.2 (DG.bd hk (by decide) (by decide) (by decide)) (by omega) (by omega)).mono ?_
      rintro e w4 ⟨xx, rfl, xa, xb, rd, gr⟩
      go_wp2
      exact hK.out _ _ ⟨⟨xx, rfl, xa, xb⟩, hG.grb gr (hG.dg.more gr rd (Nat.le_refl _)), fun i _ _ _ own ys h => Hext.out i own ys _ _ gr h⟩
    · intro kx xs wx hk hG hD hI Qo Kx hK hQo
      have d0 : (xs 0) = .agg #[.int .i64 p.w, .int .i64 p.h, .slice a n c] := hD 0 rfl
      clear hD
      clear hI
      simp only [patchS, Nat.reduceAdd, Nat.reduceEqDiff, ↓reduceIte] at hQo ⊢
      generalize xs 0 = y0 at *
      subst d0
      obtain ⟨x, y, a', n', c', hr⟩ := hG.res
      obtain ⟨-, k0, k1, k2, f0, f1, f2⟩ := bx3 hr
      go_wp2
      have hst : ∀ (wy : World), True → ∀ (ii : Nat), ii < 5 → ii ≠ 3 → ([[], [], [1], [0, 1, 2], [0, 1, 2, 3]].getD ii []).contains 3 = false → ∀ (own : Value) (ys : Nat → Value), (match ii with | 0 => own = .agg #[.int .i64 p.w, .int .i64 p.h, .slice a n c] | 1 => own = .pointer (some ⟨b, 0, none⟩) | 2 => ∃ x : Int, own = .int .i64 x ∧ -1 ≤ x ∧ x ≤ 16 | 3 => wx.heap[w.heap.size]? = some (.cells #[.int .i64 p.w, .int .i64 p.h, .slice a n c] 46 (0, 0)) | 4 => ∃ x : Int, own = .int .i64 x ∧ -1 ≤ x ∧ x ≤ 16 | _ => True) → (match ii with | 0 => own = .agg #[.int .i64 p.w, .int .i64 p.h, .slice a n c] | 1 => own = .pointer (some ⟨b, 0, none⟩) | 2 => ∃ x : Int, own = .int .i64 x ∧ -1 ≤ x ∧ x ≤ 16 | 3 => wy.heap[w.heap.size]? = some (.cells #[.int .i64 p.w, .int .i64 p.h, .slice a n c] 46 (0, 0)) | 4 => ∃ x : Int, own = .int .i64 x ∧ -1 ≤ x ∧ x ≤ 16 | _ => True) := by
        intro wy hy ii hii hne hc own ys h
        match ii, h with
        | 0, h => exact h
        | 1, h => exact h
        | 2, h => exact h
        | 3, h => exact absurd rfl hne
        | 4, h => exact absurd hc (by decide)
        | _ + 5, _ => trivial
      exact hQo undef _ (hK.out _ _ ⟨blk_set3 hr, hG.put hr, hst _ trivial⟩)
    · intro kx xs wx hk hG hD hI Qo Kx hK hQo
      have d2 : ∃ x : Int, (xs 2) = .int .i64 x ∧ -1 ≤ x ∧ x ≤ 16 := hD 2 rfl
      clear hD
      clear hI
      simp only [patchS, Nat.reduceAdd, Nat.reduceEqDiff, ↓reduceIte] at hQo ⊢
      generalize xs 2 = y2 at *
      obtain ⟨x2, rfl, x2a, x2b⟩ := d2
      go_wp2
      exact hK.out _ _ ⟨⟨_, rfl, x2a, x2b⟩, hG.step, fun _ _ _ _ _ _ h => h⟩
  clear Hext
  intro xs wx hV hG
  have d0 : (xs 0) = .agg #[.int .i64 p.w, .int .i64 p.h, .slice a n c] := hV 0 (by decide)
  have d1 : (xs 1) = .pointer (some ⟨b, 0, none⟩) := hV 1 (by decide)
  have d2 : ∃ x : Int, (xs 2) = .int .i64 x ∧ -1 ≤ x ∧ x ≤ 16 := hV 2 (by decide)
  have d3 : wx.heap[w.heap.size]? = some (.cells #[.int .i64 p.w, .int .i64 p.h, .slice a n c] 46 (0, 0)) := hV 3 (by decide)
  have d4 : ∃ x : Int, (xs 4) = .int .i64 x ∧ -1 ≤ x ∧ x ≤ 16 := hV 4 (by decide)
  clear hV
  simp only [patchS, Nat.reduceAdd, Nat.reduceEqDiff, ↓reduceIte]
  generalize xs 0 = y0 at *
  generalize xs 1 = y1 at *
  generalize xs 2 = y2 at *
  generalize xs 3 = y3 at *
  generalize xs 4 = y4 at *
  replace hG : QG w b O 2100 5 p a n c wx := hG
  clear d0 d1 d2
  obtain ⟨x4, rfl, x4a, x4b⟩ := d4
  go_wp2
  refine bodyPost_ret (results_ct_rowP rfl _ _ w.heap.size 46 #[.int .i64 p.w, .int .i64 p.h, .slice a n c] (0, 0) _ rfl d3 Tryd.underlying46 rfl size_Picture) rfl ?_
  exact ⟨p, a, c, n, x4, rfl, HN.out, hn2, hG.sl, x4a, x4b, Ext.grown (Below.refl _ _) hG.dg.1 (fun k hk => by simp at hk; omega)⟩
end Go.Proofs.YtlmoeabchiddnaaDoor
