/- Drawing: the arguments of the buffer's laws. -/
import Derived.Test.YtfcgnhgocdoimaaD3
namespace Go.Proofs.Ytfcgnhgocdoimaa
open Go.RowKit
set_option maxHeartbeats 400000

/-- A block without bytes is not the reader's data. -/
theorem Rd.setG {w : World} {b p g j : Nat} {v : Value} {arr : Array Value} {T : TypeId} (h : Rd w b p) (hg : w.heap[g]? = some (.cells arr T (0, 0))) (harr : ∀ (i : Nat) (z : Int), arr[i]? ≠ some (.int .u8 z)) (hne : g ≠ b) : Rd (w.setCell ⟨g, j, none⟩ v) b p := by
  obtain ⟨a, m, c, zs, h1, h2, h3, h4, h5⟩ := h
  refine ⟨a, m, c, zs, blk_set_other h1 (Ne.symm hne), h2, ?_, h4, h5⟩
  by_cases hm : m = 0
  · subst hm; exact ⟨h3.1, fun i hi => by omega⟩
  · have gr : w.grownBy (w.setCell ⟨g, j, none⟩ v) (some g) := ⟨rfl, rfl, rfl, by simp, fun k _ hk => heap_setCell_other w ⟨g, j, none⟩ k _ (fun e => hk (by simp [e]))⟩
    refine h3.grown gr (fun x hx e => ?_)
    obtain ⟨b1, o1, h6, h7⟩ := h3.int (show 0 < m by omega)
    rw [hx] at h6
    simp at h6 e
    subst h6
    simp at e
    subst e
    simp [World.cell?, hg] at h7
    exact harr _ _ h7

theorem RdP.setB {w : World} {b P g : Nat} {lo hi : Int} {s r f : Int} (h : RdP w b P) (hB : Buf lo hi w g) (hne : g ≠ b) (h1 : lo ≤ s ∧ s ≤ hi) (h2 : lo ≤ r ∧ r ≤ hi) (h3 : lo ≤ f ∧ f ≤ hi) : RdP (((w.setCell ⟨g, 0, none⟩ (.int .i64 s)).setCell ⟨g, 1, none⟩ (.int .i64 r)).setCell ⟨g, 2, none⟩ (.int .i64 f)) b P := by
  obtain ⟨p, h4, h5⟩ := h
  have a3 : ∀ (x y z : Int) (i : Nat) (q : Int), (#[Value.int .i64 x, .int .i64 y, .int .i64 z])[i]? ≠ some (.int .u8 q) := by
    intro x y z i q
    match i with
    | 0 => simp
    | 1 => simp
    | 2 => simp
    | _ + 3 => simp
  have hB1 := hB.put0 h1
  have hB2 := hB1.put1 h2
  obtain ⟨_, _, _, k1, -⟩ := hB
  obtain ⟨_, _, _, k2, -⟩ := hB1
  obtain ⟨_, _, _, k3, -⟩ := hB2
  exact ⟨p, h4, ((h5.setG k1 (a3 _ _ _) hne).setG k2 (a3 _ _ _) hne).setG k3 (a3 _ _ _) hne⟩
theorem app_elems {P : Program} (w : World) {ops : Array Oper} {rest : List Oper} {o : Oper} {a : Act} {Q : Exit → Act → World → Prop} {base e : Nat} {v : Value} {n : Nat} {xs : List Value}
    (hown : w.ownsRow base e 1 v n xs) (hbase : base ≤ w.heap.size)
    (hg : o.guard = none) (s x : Operand) (t : TypeId) (ho : o.op = .call { callee := .builtin .append, args := #[s, x], argTypes := #[t, t] })
    (z : Value) (bytes : Nat) (h1 : P.underlying t = some (.slice e)) (h2 : (P.info? e).map (fun i => (i.zero, i.size, i.bytes)) = some (some z, 1, bytes)) (hz1 : z.cells.size = 1)
    (hs : a.eval s = v) (p : Addr) (m c : Nat) (us : List Value) (hx : a.eval x = .slice (some p) m c) (hm : us.length = m) (hcell : ∀ (j : Nat) q, us[j]? = some q → w.cell? (p.add j) = some q) (hu1 : ∀ u ∈ us, u.oneCell' = true)
    (hb : (n + m) * bytes ≤ 140737488355328) (hn : n + m < 2 ^ 62)
    (h : ∀ v' w', w'.ownsRow base e 1 v' (n + m) (xs ++ us) → w.grownBy w' v.ownBlock → wpList P ops Q rest (a.put o.dst v') w') : wpList P ops Q (o :: rest) a w := by
  obtain ⟨i0, hi, hz0, hz1', hz2⟩ := info_parts h2
  refine wpList_append_own _ hg s x t ho base e i0 z 1 bytes h1 hi hz0 hz1' hz2 hz1 (by decide) v n xs hs hown p m c us hx (by omega) ?_ ?_ ?_ hb ?_ ?_
  · intro j q hq; exact hcell j q hq
  · intro q hq; exact hu1 q hq
  · unfold maxLen; omega
  · omega
  · intro v' w' a1 a2 a3
    exact h v' w' a1 a2

theorem DrawBufferTake_any (a : Option Addr) (c n : Nat) (zs : List Int) (w : World) (hc : n ≤ c) (hc2 : c ≤ 9223372036854775807) (r : Sl w a n (zs.map (Value.int .u8))) (hz : ∀ z ∈ zs, 0 ≤ z ∧ z ≤ 255) :
    Calls Try.prog 34 #[.slice a n c] w fun e w' => ∃ s r f x : Int, e = .returned (.tuple #[.agg #[.int .i64 s, .int .i64 r, .int .i64 f], .int .i64 x]) ∧ (-1 ≤ s ∧ s ≤ 1000001) ∧ (-1 ≤ r ∧ r ≤ 1000001) ∧ (-1 ≤ f ∧ f ≤ 1000001) ∧ -1 ≤ x ∧ x ≤ 5100 ∧ Ext w w' := by
  go_enter Try.func34, Try.ntmps34
  go_wp2_with fail
  have e0 := Ext.alloc w (.cells #[.int .i64 0, .int .i64 0, .int .i64 0] 33)
  refine (open_any a c n zs _ hc hc2 (r.ext e0) hz).mono ?_
  rintro e w1 ⟨b, rfl, rd, e1, hb⟩
  have hg : Buf (-1) 1000001 w1 w.heap.size := (Buf.new w (by omega) (by omega)).gr (b := b) (ext_gr e1) (by simp at hb; omega)
  have hgb : w.heap.size < b := by simp at hb; omega
  have hB : DG w b 0 100 0 w1 := ⟨ext_gr (e0.trans e1), ⟨0, Nat.le_refl _, rd⟩⟩
  clear r hz rd hb e0 e1
  generalize hgg : w.heap.size = g at *
  go_wp2_with fail
  have hext : ∀ (i : Nat) (own : Value) (ys : Nat → Value) (wa wb : World), wa.grownBy wb (some b) → (match i with | 0 => own = .pointer (some ⟨b, 0, none⟩) | 1 => ∃ s r f : Int, own = .agg #[.int .i64 s, .int .i64 r, .int .i64 f] ∧ (-1 ≤ s ∧ s ≤ 1000001) ∧ (-1 ≤ r ∧ r ≤ 1000001) ∧ (-1 ≤ f ∧ f ≤ 1000001) | 2 => own = .pointer (some ⟨b, 0, none⟩) | 3 => ∃ x : Int, own = .int .i64 x ∧ 0 ≤ x ∧ x < 256 | 4 => ∃ x : Int, own = .int .i64 x ∧ 0 ≤ x ∧ x ≤ 5100 | 5 => SlR wa (b + 1) own 3 (-1) (5100) | 6 => own = .pointer (some ⟨b, 0, none⟩) | 7 => ∃ x : Int, own = .int .i64 x ∧ 0 ≤ x ∧ x < 3 | 8 => PtR wa (b + 1) own (-1) (5100) | 9 => ∃ x : Int, own = .int .i64 x ∧ -1 ≤ x ∧ x ≤ 5100 | 10 => ∃ s r f : Int, wa.heap[g]? = some (.cells #[.int .i64 s, .int .i64 r, .int .i64 f] 33 (0, 0)) ∧ (-1 ≤ s ∧ s ≤ 1000001) ∧ (-1 ≤ r ∧ r ≤ 1000001) ∧ (-1 ≤ f ∧ f ≤ 1000001) | 11 => ∃ x : Int, own = .int .i64 x ∧ -1 ≤ x ∧ x ≤ 5100 | _ => True) → (match i with | 0 => own = .pointer (some ⟨b, 0, none⟩) | 1 => ∃ s r f : Int, own = .agg #[.int .i64 s, .int .i64 r, .int .i64 f] ∧ (-1 ≤ s ∧ s ≤ 1000001) ∧ (-1 ≤ r ∧ r ≤ 1000001) ∧ (-1 ≤ f ∧ f ≤ 1000001) | 2 => own = .pointer (some ⟨b, 0, none⟩) | 3 => ∃ x : Int, own = .int .i64 x ∧ 0 ≤ x ∧ x < 256 | 4 => ∃ x : Int, own = .int .i64 x ∧ 0 ≤ x ∧ x ≤ 5100 | 5 => SlR wb (b + 1) own 3 (-1) (5100) | 6 => own = .pointer (some ⟨b, 0, none⟩) | 7 => ∃ x : Int, own = .int .i64 x ∧ 0 ≤ x ∧ x < 3 | 8 => PtR wb (b + 1) own (-1) (5100) | 9 => ∃ x : Int, own = .int .i64 x ∧ -1 ≤ x ∧ x ≤ 5100 | 10 => ∃ s r f : Int, wb.heap[g]? = some (.cells #[.int .i64 s, .int .i64 r, .int .i64 f] 33 (0, 0)) ∧ (-1 ≤ s ∧ s ≤ 1000001) ∧ (-1 ≤ r ∧ r ≤ 1000001) ∧ (-1 ≤ f ∧ f ≤ 1000001) | 11 => ∃ x : Int, own = .int .i64 x ∧ -1 ≤ x ∧ x ≤ 5100 | _ => True) := by
    intro i own ys wa wb e h
    match i, h with
    | 0, h => exact h
    | 1, h => exact h
    | 2, h => exact h
    | 3, h => exact h
    | 4, h => exact h
    | 5, h => exact h.grown e (by omega)
    | 6, h => exact h
    | 7, h => exact h
    | 8, h => exact h.grown e (by omega)
    | 9, h => exact h
    | 10, h => obtain ⟨s, r, f, h1, h2⟩ := h; exact ⟨s, r, f, gr_blk e h1 (by omega), h2⟩
    | 11, h => exact h
    | _ + 12, _ => trivial
  have Hext := Lib.hid hext
  clear hext
  refine wp_region_inv2 (by kernel_rfl) [(3, 11), (7, 0), (8, 1), (9, 2), (10, 3), (11, 4), (12, 5), (13, 6), (14, 7), (15, 8), (16, 9)] [[], [0], [], [0, 1, 2], [0, 1, 2, 3], [0, 1, 2, 3, 4], [], [0, 1, 2, 3, 6], [0, 1, 2, 3, 4, 5, 6, 7], [0, 1, 2, 3, 4, 5, 6, 7, 8], [0, 1, 2, 3, 6, 7], [0, 1, 2, 3, 4, 5, 6, 7, 8, 9, 10]] (fun i own ys wx => match i with | 0 => own = .pointer (some ⟨b, 0, none⟩) | 1 => ∃ s r f : Int, own = .agg #[.int .i64 s, .int .i64 r, .int .i64 f] ∧ (-1 ≤ s ∧ s ≤ 1000001) ∧ (-1 ≤ r ∧ r ≤ 1000001) ∧ (-1 ≤ f ∧ f ≤ 1000001) | 2 => own = .pointer (some ⟨b, 0, none⟩) | 3 => ∃ x : Int, own = .int .i64 x ∧ 0 ≤ x ∧ x < 256 | 4 => ∃ x : Int, own = .int .i64 x ∧ 0 ≤ x ∧ x ≤ 5100 | 5 => SlR wx (b + 1) own 3 (-1) (5100) | 6 => own = .pointer (some ⟨b, 0, none⟩) | 7 => ∃ x : Int, own = .int .i64 x ∧ 0 ≤ x ∧ x < 3 | 8 => PtR wx (b + 1) own (-1) (5100) | 9 => ∃ x : Int, own = .int .i64 x ∧ -1 ≤ x ∧ x ≤ 5100 | 10 => ∃ s r f : Int, wx.heap[g]? = some (.cells #[.int .i64 s, .int .i64 r, .int .i64 f] 33 (0, 0)) ∧ (-1 ≤ s ∧ s ≤ 1000001) ∧ (-1 ≤ r ∧ r ≤ 1000001) ∧ (-1 ≤ f ∧ f ≤ 1000001) | 11 => ∃ x : Int, own = .int .i64 x ∧ -1 ≤ x ∧ x ≤ 5100 | _ => True) (fun kx wx => DGI w b 0 100 (fun wx => Buf (-1) 1000001 wx g) kx wx) (by kernel_rfl) (by kernel_rfl) (by kernel_rfl) ?g0_r1 ?gop_r1 ?gend_r1
  case g0_r1 => exact ⟨hB.drew, hg, fun wa wb e h => h.gr e (by omega)⟩
  case gop_r1 =>
    refine ⟨?_, ?_, ?_, ?_, ?_, ?_, ?_, ?_, ?_, ?_, ?_, ?_, trivial⟩
    · intro kx xs wx hk hG hD Qo Kx hK hQo
      clear hD
      simp only [patchS, Nat.reduceAdd, Nat.reduceEqDiff, ↓reduceIte] at hQo ⊢
      go_wp2
      exact hK.out _ _ ⟨rfl, hG.step, fun _ _ _ _ _ _ h => h⟩
    · intro kx xs wx hk hG hD Qo Kx hK hQo
      have d0 : (xs 0) = .pointer (some ⟨b, 0, none⟩) := hD 0 rfl
      clear hD
      simp only [patchS, Nat.reduceAdd, Nat.reduceEqDiff, ↓reduceIte] at hQo ⊢
      generalize xs 0 = y0 at *
      subst d0
      go_wp2_with fail
      refine (l20Buffer_c _ _ _ _ hG.1.2 (DG.bd hk (by decide) (by decide) (by decide)) (by omega) (by omega)).mono ?_
      rintro e w4 ⟨s, r, f, rfl, hs, hr, hf, rd, gr⟩
      go_wp2
      exact hK.out _ _ ⟨⟨_, _, _, rfl, hs, hr, hf⟩, hG.more gr rd (by decide), fun i _ _ _ own ys h => Hext.out i own ys _ _ gr h⟩
    · intro kx xs wx hk hG hD Qo Kx hK hQo
      clear hD
      simp only [patchS, Nat.reduceAdd, Nat.reduceEqDiff, ↓reduceIte] at hQo ⊢
      go_wp2
      exact hK.out _ _ ⟨rfl, hG.step, fun _ _ _ _ _ _ h => h⟩
    · intro kx xs wx hk hG hD Qo Kx hK hQo
      have d2 : (xs 2) = .pointer (some ⟨b, 0, none⟩) := hD 2 rfl
      clear hD
      simp only [patchS, Nat.reduceAdd, Nat.reduceEqDiff, ↓reduceIte] at hQo ⊢
      generalize xs 2 = y2 at *
      subst d2
      go_wp2_with fail
      refine (pick_c _ _ _ _ hG.1.2 (DG.small hk (by decide) (by decide) (by omega)) (by omega) (by omega)).mono ?_
      rintro e w4 ⟨xx, rfl, xa, xb, rd, gr⟩
      go_wp2
      exact hK.out _ _ ⟨⟨xx, rfl, xa, by omega⟩, hG.more gr rd (by decide), fun i _ _ _ own ys h => Hext.out i own ys _ _ gr h⟩
    · intro kx xs wx hk hG hD Qo Kx hK hQo
      have d3 : ∃ x : Int, (xs 3) = .int .i64 x ∧ 0 ≤ x ∧ x < 256 := hD 3 rfl
      clear hD
      simp only [patchS, Nat.reduceAdd, Nat.reduceEqDiff, ↓reduceIte] at hQo ⊢
      generalize xs 3 = y3 at *
      obtain ⟨x3, rfl, x3a, x3b⟩ := d3
      go_wp2
      exact hK.out _ _ ⟨⟨_, rfl, by omega, by omega⟩, hG.step, fun _ _ _ _ _ _ h => h⟩
    · intro kx xs wx hk hG hD Qo Kx hK hQo
      have d4 : ∃ x : Int, (xs 4) = .int .i64 x ∧ 0 ≤ x ∧ x ≤ 5100 := hD 4 rfl
      clear hD
      simp only [patchS, Nat.reduceAdd, Nat.reduceEqDiff, ↓reduceIte] at hQo ⊢
      generalize xs 4 = y4 at *
      obtain ⟨x4, rfl, x4a, x4b⟩ := d4
      have e5 := Ext.alloc wx (.cells #[.int .i64 x4, .int .i64 0, .int .i64 (-1)] 3)
      go_wp2
      exact hK.out _ _ ⟨⟨_, [x4, 0, (-1)], rfl, by have := hG.1.2.lt; omega, Sl_new _ _ _, by simp <;> omega⟩, hG.ext e5, fun i _ _ _ own ys h => Hext.out i own ys _ _ (ext_gr e5) h⟩
    · intro kx xs wx hk hG hD Qo Kx hK hQo
      clear hD
      simp only [patchS, Nat.reduceAdd, Nat.reduceEqDiff, ↓reduceIte] at hQo ⊢
      go_wp2
      exact hK.out _ _ ⟨rfl, hG.step, fun _ _ _ _ _ _ h => h⟩
    · intro kx xs wx hk hG hD Qo Kx hK hQo
      have d6 : (xs 6) = .pointer (some ⟨b, 0, none⟩) := hD 6 rfl
      clear hD
      simp only [patchS, Nat.reduceAdd, Nat.reduceEqDiff, ↓reduceIte] at hQo ⊢
      generalize xs 6 = y6 at *
      subst d6
      go_wp2_with fail
      refine (pick_c _ _ _ _ hG.1.2 (DG.small hk (by decide) (by decide) (by omega)) (by omega) (by omega)).mono ?_
      rintro e w4 ⟨xx, rfl, xa, xb, rd, gr⟩
      go_wp2
      exact hK.out _ _ ⟨⟨xx, rfl, xa, by omega⟩, hG.more gr rd (by decide), fun i _ _ _ own ys h => Hext.out i own ys _ _ gr h⟩
    · intro kx xs wx hk hG hD Qo Kx hK hQo
      have d5 : SlR wx (b + 1) (xs 5) 3 (-1) (5100) := hD 5 rfl
      have d7 : ∃ x : Int, (xs 7) = .int .i64 x ∧ 0 ≤ x ∧ x < 3 := hD 7 rfl
      clear hD
      simp only [patchS, Nat.reduceAdd, Nat.reduceEqDiff, ↓reduceIte] at hQo ⊢
      generalize xs 5 = y5 at *
      generalize xs 7 = y7 at *
      obtain ⟨g5, l5, rfl, n5, s5, r5⟩ := d5
      obtain ⟨x7, rfl, x7a, x7b⟩ := d7
      go_wp2
      exact hK.out _ _ ⟨SlR.at n5 s5 r5 (by omega), hG.step, fun _ _ _ _ _ _ h => h⟩
    · intro kx xs wx hk hG hD Qo Kx hK hQo
      have d8 : PtR wx (b + 1) (xs 8) (-1) (5100) := hD 8 rfl
      clear hD
      simp only [patchS, Nat.reduceAdd, Nat.reduceEqDiff, ↓reduceIte] at hQo ⊢
      generalize xs 8 = y8 at *
      obtain ⟨g8, j8, y8, rfl, n8, c8, y8a, y8b⟩ := d8
      go_wp2
      exact hK.out _ _ ⟨⟨_, rfl, by omega, by omega⟩, hG.step, fun _ _ _ _ _ _ h => h⟩
    · intro kx xs wx hk hG hD Qo Kx hK hQo
      have d1 : ∃ s r f : Int, (xs 1) = .agg #[.int .i64 s, .int .i64 r, .int .i64 f] ∧ (-1 ≤ s ∧ s ≤ 1000001) ∧ (-1 ≤ r ∧ r ≤ 1000001) ∧ (-1 ≤ f ∧ f ≤ 1000001) := hD 1 rfl
      clear hD
      simp only [patchS, Nat.reduceAdd, Nat.reduceEqDiff, ↓reduceIte] at hQo ⊢
      generalize xs 1 = y1 at *
      obtain ⟨s1, r1, f1, rfl, hs1, hr1, hf1⟩ := d1
      obtain ⟨hG1, hG2, hG4⟩ := hG
      have hG3 := hG2
      obtain ⟨u1, u2, u3, u4, u5⟩ := hG2
      obtain ⟨z0, z1, z2, z3, z4, z5, z6⟩ := bx3 u4
      go_wp2
      have hst : ∀ (wy : World), (∀ (B : Nat) (v : Value) (n : Nat) (lo hi : Int), g < B → (SlR wx B v n lo hi → SlR wy B v n lo hi) ∧ (PtR wx B v lo hi → PtR wy B v lo hi)) → ∀ (ii : Nat), ii < 12 → ii ≠ 10 → ([[], [0], [], [0, 1, 2], [0, 1, 2, 3], [0, 1, 2, 3, 4], [], [0, 1, 2, 3, 6], [0, 1, 2, 3, 4, 5, 6, 7], [0, 1, 2, 3, 4, 5, 6, 7, 8], [0, 1, 2, 3, 6, 7], [0, 1, 2, 3, 4, 5, 6, 7, 8, 9, 10]].getD ii []).contains 10 = false → ∀ (own : Value) (ys : Nat → Value), (match ii with | 0 => own = .pointer (some ⟨b, 0, none⟩) | 1 => ∃ s r f : Int, own = .agg #[.int .i64 s, .int .i64 r, .int .i64 f] ∧ (-1 ≤ s ∧ s ≤ 1000001) ∧ (-1 ≤ r ∧ r ≤ 1000001) ∧ (-1 ≤ f ∧ f ≤ 1000001) | 2 => own = .pointer (some ⟨b, 0, none⟩) | 3 => ∃ x : Int, own = .int .i64 x ∧ 0 ≤ x ∧ x < 256 | 4 => ∃ x : Int, own = .int .i64 x ∧ 0 ≤ x ∧ x ≤ 5100 | 5 => SlR wx (b + 1) own 3 (-1) (5100) | 6 => own = .pointer (some ⟨b, 0, none⟩) | 7 => ∃ x : Int, own = .int .i64 x ∧ 0 ≤ x ∧ x < 3 | 8 => PtR wx (b + 1) own (-1) (5100) | 9 => ∃ x : Int, own = .int .i64 x ∧ -1 ≤ x ∧ x ≤ 5100 | 10 => ∃ s r f : Int, wx.heap[g]? = some (.cells #[.int .i64 s, .int .i64 r, .int .i64 f] 33 (0, 0)) ∧ (-1 ≤ s ∧ s ≤ 1000001) ∧ (-1 ≤ r ∧ r ≤ 1000001) ∧ (-1 ≤ f ∧ f ≤ 1000001) | 11 => ∃ x : Int, own = .int .i64 x ∧ -1 ≤ x ∧ x ≤ 5100 | _ => True) → (match ii with | 0 => own = .pointer (some ⟨b, 0, none⟩) | 1 => ∃ s r f : Int, own = .agg #[.int .i64 s, .int .i64 r, .int .i64 f] ∧ (-1 ≤ s ∧ s ≤ 1000001) ∧ (-1 ≤ r ∧ r ≤ 1000001) ∧ (-1 ≤ f ∧ f ≤ 1000001) | 2 => own = .pointer (some ⟨b, 0, none⟩) | 3 => ∃ x : Int, own = .int .i64 x ∧ 0 ≤ x ∧ x < 256 | 4 => ∃ x : Int, own = .int .i64 x ∧ 0 ≤ x ∧ x ≤ 5100 | 5 => SlR wy (b + 1) own 3 (-1) (5100) | 6 => own = .pointer (some ⟨b, 0, none⟩) | 7 => ∃ x : Int, own = .int .i64 x ∧ 0 ≤ x ∧ x < 3 | 8 => PtR wy (b + 1) own (-1) (5100) | 9 => ∃ x : Int, own = .int .i64 x ∧ -1 ≤ x ∧ x ≤ 5100 | 10 => ∃ s r f : Int, wy.heap[g]? = some (.cells #[.int .i64 s, .int .i64 r, .int .i64 f] 33 (0, 0)) ∧ (-1 ≤ s ∧ s ≤ 1000001) ∧ (-1 ≤ r ∧ r ≤ 1000001) ∧ (-1 ≤ f ∧ f ≤ 1000001) | 11 => ∃ x : Int, own = .int .i64 x ∧ -1 ≤ x ∧ x ≤ 5100 | _ => True) := by
        intro wy hy ii hii hne hc own ys h
        match ii, h with
        | 0, h => exact h
        | 1, h => exact h
        | 2, h => exact h
        | 3, h => exact h
        | 4, h => exact h
        | 5, h => exact (hy _ _ _ _ _ (by omega)).1 h
        | 6, h => exact h
        | 7, h => exact h
        | 8, h => exact (hy _ _ 0 _ _ (by omega)).2 h
        | 9, h => exact h
        | 10, h => exact absurd rfl hne
        | 11, h => exact absurd hc (by decide)
        | _ + 12, _ => trivial
      exact hQo undef _ (hK.out _ _ ⟨⟨s1, r1, f1, blk_set3 u4, hs1, hr1, hf1⟩, ⟨⟨grown_set (grown_set (grown_set hG1.1 (by omega)) (by omega)) (by omega), (hG1.step.2.setB hG3 (by omega) hs1 hr1 hf1)⟩, hG3.puts hs1 hr1 hf1, hG4⟩, hst _ (fun B v n lo hi hB => ⟨fun h => ((h.set hB).set hB).set hB, fun h => ((h.set hB).set hB).set hB⟩)⟩)
    · intro kx xs wx hk hG hD Qo Kx hK hQo
      have d9 : ∃ x : Int, (xs 9) = .int .i64 x ∧ -1 ≤ x ∧ x ≤ 5100 := hD 9 rfl
      clear hD
      simp only [patchS, Nat.reduceAdd, Nat.reduceEqDiff, ↓reduceIte] at hQo ⊢
      generalize xs 9 = y9 at *
      obtain ⟨x9, rfl, x9a, x9b⟩ := d9
      go_wp2
      exact hK.out _ _ ⟨⟨_, rfl, by omega, by omega⟩, hG.step, fun _ _ _ _ _ _ h => h⟩
  clear Hext
  intro xs wx hV hG
  have d0 : (xs 0) = .pointer (some ⟨b, 0, none⟩) := hV 0 (by decide)
  have d1 : ∃ s r f : Int, (xs 1) = .agg #[.int .i64 s, .int .i64 r, .int .i64 f] ∧ (-1 ≤ s ∧ s ≤ 1000001) ∧ (-1 ≤ r ∧ r ≤ 1000001) ∧ (-1 ≤ f ∧ f ≤ 1000001) := hV 1 (by decide)
  have d2 : (xs 2) = .pointer (some ⟨b, 0, none⟩) := hV 2 (by decide)
  have d3 : ∃ x : Int, (xs 3) = .int .i64 x ∧ 0 ≤ x ∧ x < 256 := hV 3 (by decide)
  have d4 : ∃ x : Int, (xs 4) = .int .i64 x ∧ 0 ≤ x ∧ x ≤ 5100 := hV 4 (by decide)
  have d5 : SlR wx (b + 1) (xs 5) 3 (-1) (5100) := hV 5 (by decide)
  have d6 : (xs 6) = .pointer (some ⟨b, 0, none⟩) := hV 6 (by decide)
  have d7 : ∃ x : Int, (xs 7) = .int .i64 x ∧ 0 ≤ x ∧ x < 3 := hV 7 (by decide)
  have d8 : PtR wx (b + 1) (xs 8) (-1) (5100) := hV 8 (by decide)
  have d9 : ∃ x : Int, (xs 9) = .int .i64 x ∧ -1 ≤ x ∧ x ≤ 5100 := hV 9 (by decide)
  have d10 : ∃ s r f : Int, wx.heap[g]? = some (.cells #[.int .i64 s, .int .i64 r, .int .i64 f] 33 (0, 0)) ∧ (-1 ≤ s ∧ s ≤ 1000001) ∧ (-1 ≤ r ∧ r ≤ 1000001) ∧ (-1 ≤ f ∧ f ≤ 1000001) := hV 10 (by decide)
  have d11 : ∃ x : Int, (xs 11) = .int .i64 x ∧ -1 ≤ x ∧ x ≤ 5100 := hV 11 (by decide)
  clear hV
  simp only [patchS, Nat.reduceAdd, Nat.reduceEqDiff, ↓reduceIte]
  generalize xs 0 = y0 at *
  generalize xs 1 = y1 at *
  generalize xs 2 = y2 at *
  generalize xs 3 = y3 at *
  generalize xs 4 = y4 at *
  generalize xs 5 = y5 at *
  generalize xs 6 = y6 at *
  generalize xs 7 = y7 at *
  generalize xs 8 = y8 at *
  generalize xs 9 = y9 at *
  generalize xs 10 = y10 at *
  generalize xs 11 = y11 at *
  replace hG : DGI w b 0 100 (fun wx => Buf (-1) 1000001 wx g) 12 wx := hG
  clear d0 d1 d2 d3 d4 d5 d6 d7 d8 d9
  obtain ⟨x11, rfl, x11a, x11b⟩ := d11
  obtain ⟨s, r, f, u4, hs, hr, hf⟩ := d10
  obtain ⟨z0, z1, z2, z3, z4, z5, z6⟩ := bx3 u4
  go_wp2
  refine bodyPost_ret (v := .tuple #[.agg #[.int .i64 s, .int .i64 r, .int .i64 f], .int .i64 x11]) (by simp [results, Try.results34, go_sem, z1, z2, z3]) rfl ⟨_, _, _, _, rfl, hs, hr, hf, x11a, x11b, ?_⟩
  exact Ext.grown (Below.refl _ _) hG.1.1 (fun k hk => by simp at hk; omega)
end Go.Proofs.Ytfcgnhgocdoimaa
