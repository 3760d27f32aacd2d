/- Drawing: the arguments of the buffer's laws. -/
import Derived.Test.YtmcdlkbofhdnlaaD3
import Derived.Test.YtmcdlkbofhdnlaaOwn
namespace Go.Proofs.Ytmcdlkbofhdnlaa
open Go.RowKit
set_option maxHeartbeats 400000

/-- A block without bytes is not the reader's data. -/
theorem Rd.setG {w : World} {b p g j : Nat} {v : Value} {arr : Array Value} {T : TypeId} (h : Rd w b p) (hg : w.heap[g]? = some (.cells arr T (0, 0))) (harr : ∀ (i : Nat) (z : Int), arr[i]? ≠ some (.int .u8 z)) (hne : g ≠ b) : Rd (w.setCell ⟨g, j, none⟩ v) b p := by
  obtain ⟨a, m, c, zs, h1, h2, h3, h4, h5⟩ := h
  refine ⟨a, m, c, zs, blk_set_other h1 (Ne.symm hne), h2, ?_, h4, h5⟩
  by_cases hm : m = 0
  · subst hm; exact ⟨h3.1, fun i hi => by omega⟩
  · have gr : w.grownBy (w.setCell ⟨g, j, none⟩ v) (some g) := ⟨rfl, rfl, rfl, by simp, fun k _ hk => heap_setCell_other w ⟨g, j, none⟩ k _ (fun e => hk (by simp [e]))⟩
    refine h3.grown gr (fun x hx e => ?_)
    obtain ⟨b1, o1, h6, h7⟩ := h3.int (show 0 < m by omega)
    rw [hx] at h6
    simp at h6 e
    subst h6
    simp at e
    subst e
    simp [World.cell?, hg] at h7
    exact harr _ _ h7

theorem RdP.setB {w : World} {b P g : Nat} {lo hi : Int} {s r f : Int} (h : RdP w b P) (hB : Buf lo hi w g) (hne : g ≠ b) (h1 : lo ≤ s ∧ s ≤ hi) (h2 : lo ≤ r ∧ r ≤ hi) (h3 : lo ≤ f ∧ f ≤ hi) : RdP (((w.setCell ⟨g, 0, none⟩ (.int .i64 s)).setCell ⟨g, 1, none⟩ (.int .i64 r)).setCell ⟨g, 2, none⟩ (.int .i64 f)) b P := by
  obtain ⟨p, h4, h5⟩ := h
  have a3 : ∀ (x y z : Int) (i : Nat) (q : Int), (#[Value.int .i64 x, .int .i64 y, .int .i64 z])[i]? ≠ some (.int .u8 q) := by
    intro x y z i q
    match i with
    | 0 => simp
    | 1 => simp
    | 2 => simp
    | _ + 3 => simp
  have hB1 := hB.put0 h1
  have hB2 := hB1.put1 h2
  obtain ⟨_, _, _, k1, -⟩ := hB
  obtain ⟨_, _, _, k2, -⟩ := hB1
  obtain ⟨_, _, _, k3, -⟩ := hB2
  exact ⟨p, h4, ((h5.setG k1 (a3 _ _ _) hne).setG k2 (a3 _ _ _) hne).setG k3 (a3 _ _ _) hne⟩
theorem Rd.gr {w w' : World} {b p : Nat} {row : Option Nat} (h : Rd w b p) (g : w.grownBy w' row) (hr : ∀ k, row = some k → b < k) : Rd w' b p := by
  obtain ⟨a, m, c, zs, h1, h2, h3, h4, h5⟩ := h
  refine ⟨a, m, c, zs, by rw [g.block b (lt_of_block h1) (fun e => by have := hr b e.symm; omega)]; exact h1, h2, ?_, h4, h5⟩
  rcases h4 with h4 | h4
  · subst h4; exact ⟨h3.1, fun i hi => by omega⟩
  · exact h3.grown g (fun x hx e => by have := h4 x hx; have := hr _ e.symm; omega)
theorem grown_any {a b c : World} {r row : Option Nat} (h : a.grownBy b r) (k : b.grownBy c row) (hr : ∀ q, row = some q → a.heap.size ≤ q) : a.grownBy c r :=
  ⟨k.os.trans h.os, k.tape.trans h.tape, k.output.trans h.output, Nat.le_trans h.size k.size, fun i hi hne => (k.block i (Nat.lt_of_lt_of_le hi h.size) (fun e => by have := hr i e.symm; omega)).trans (h.block i hi hne)⟩
theorem DG.own {w wx wy : World} {b P C k : Nat} {row : Option Nat} (h : DG w b P C k wx) (g : wx.grownBy wy row) (hv : ∀ q, row = some q → w.heap.size ≤ q) (hb : b < w.heap.size) : DG w b P C k wy := by
  obtain ⟨h1, q, h2, h3⟩ := h
  exact ⟨grown_any h1 g hv, q, h2, h3.gr g (fun k hk => by have := hv k hk; omega)⟩
theorem app_elems {P : Program} (w : World) {ops : Array Oper} {rest : List Oper} {o : Oper} {a : Act} {Q : Exit → Act → World → Prop} {base e : Nat} {v : Value} {n : Nat} {xs : List Value}
    (hown : w.ownsRow base e 1 v n xs) (hbase : base ≤ w.heap.size)
    (hg : o.guard = none) (s x : Operand) (t : TypeId) (ho : o.op = .call { callee := .builtin .append, args := #[s, x], argTypes := #[t, t] })
    (z : Value) (bytes : Nat) (h1 : P.underlying t = some (.slice e)) (h2 : (P.info? e).map (fun i => (i.zero, i.size, i.bytes)) = some (some z, 1, bytes)) (hz1 : z.cells.size = 1)
    (hs : a.eval s = v) (p : Addr) (m c : Nat) (us : List Value) (hx : a.eval x = .slice (some p) m c) (hm : us.length = m) (hcell : ∀ (j : Nat) q, us[j]? = some q → w.cell? (p.add j) = some q) (hu1 : ∀ u ∈ us, u.oneCell' = true)
    (hb : (n + m) * bytes ≤ 140737488355328) (hn : n + m < 2 ^ 62)
    (h : ∀ v' w', w'.ownsRow base e 1 v' (n + m) (xs ++ us) → w.grownBy w' v.ownBlock → wpList P ops Q rest (a.put o.dst v') w') : wpList P ops Q (o :: rest) a w := by
  obtain ⟨i0, hi, hz0, hz1', hz2⟩ := info_parts h2
  refine wpList_append_own _ hg s x t ho base e i0 z 1 bytes h1 hi hz0 hz1' hz2 hz1 (by decide) v n xs hs hown p m c us hx (by omega) ?_ ?_ ?_ hb ?_ ?_
  · intro j q hq; exact hcell j q hq
  · intro q hq; exact hu1 q hq
  · unfold maxLen; omega
  · omega
  · intro v' w' a1 a2 a3
    exact h v' w' a1 a2

set_option maxHeartbeats 2000000 in
theorem l20Sizes_c (b P : Nat) (w : World) (h : RdP w b P) (hp : P < 2^38) :
    Calls Try.prog 58 #[.pointer (some ⟨b, 0, none⟩)] w fun e w' => ∃ (v : Value) (xs : List Int), e = .returned v ∧ w'.ownsRow w.heap.size 3 1 v xs.length (xs.map (Value.int .i64)) ∧ xs.length ≤ 20 ∧ (∀ x ∈ xs, -1 ≤ x ∧ x ≤ 5100) ∧ RdP w' b (P + 40) ∧ w.grownBy w' (some b) := by
  have hblt := h.lt
  go_enter Try.func58, Try.ntmps58
  have E1 : Ext w (w.alloc (.cells #[] 3)) := (Below.refl _ _).alloc (Nat.le_refl _) _
  have hown := World.ownsRow_made (base := w.heap.size) (e := 3) (size := 1) w #[] 0 (Nat.le_refl _) (by simp) rfl
  go_wp2_with fail
  refine (pick_c b P 9 _ (h.ext E1) (by omega) (by omega) (by omega)).mono ?_
  rintro e w1 ⟨x, rfl, x0, x1, r1, g1⟩
  have D1 : DG w b (P + 1) 0 0 w1 := ⟨grown_trans (ext_gr E1) g1, by simpa using r1⟩
  have own1 := own_gr hown g1 hblt
  obtain ⟨k0, rfl⟩ := Int.eq_ofNat_of_zero_le x0
  clear hown E1 h r1 g1
  go_wp2_with fail
  go_loopw [3, 4] (fun v i wr => ∃ (k : Nat) (xs : List Int), k ≤ k0 ∧ i = .int .i64 k ∧ DG w b (P + 20 - 2 * k) 0 0 wr ∧ wr.ownsRow w.heap.size 3 1 v xs.length (xs.map (Value.int .i64)) ∧ Hid (xs.length + k = k0 ∧ ∀ x ∈ xs, -1 ≤ x ∧ x ≤ 5100)) (fun _ i _ => (intOf i).toNat)
  case atStart => exact ⟨k0, [], by omega, rfl, ⟨D1.1, D1.2.mono (by omega)⟩, own1, Lib.hid ⟨by simp, by simp⟩⟩
  case round =>
    obtain ⟨k, xs, hk, rfl, D2, own2, hx⟩ := hrel
    clear own1 D1
    by_cases hlt : 0 < k
    · go_wp2_with fail
      refine (pick_c b _ 256 _ D2.2 (by omega) (by omega) (by omega)).mono ?_
      rintro e w2 ⟨y, rfl, y0, y1, r2, g2⟩
      have own3 := own_gr own2 g2 hblt
      have D3 : DG w b (P + 21 - 2 * k) 0 0 w2 := ⟨grown_trans D2.1 g2, r2.mono (by omega)⟩
      have e3 := Ext.alloc w2 (.cells #[.int .i64 1, .int .i64 4, .int .i64 20] 3)
      have s3 : SlR (w2.alloc (.cells #[.int .i64 1, .int .i64 4, .int .i64 20] 3)) (b + 1) (.slice (some ⟨w2.heap.size, 0, none⟩) 3 3) 3 1 20 := ⟨_, [1, 4, 20], rfl, by have := D3.2.lt; omega, Sl_new _ _ _, by simp⟩
      go_wp2_with fail
      refine (pick_c b _ 3 _ (D3.2.ext e3) (by omega) (by omega) (by omega)).mono ?_
      rintro e w4 ⟨z, rfl, z0, z1, r4, g4⟩
      have own4 := own_gr (owns_ext own3 e3) g4 hblt
      have D4 : DG w b (P + 22 - 2 * k) 0 0 w4 := ⟨grown_trans (grown_ext D3.1 e3) g4, r4.mono (by omega)⟩
      have s4 := s3.grown g4 (by omega)
      clear own2 own3 D2 D3 e3 s3 r2 g2 r4 g4
      generalize w2.heap.size = B at *
      obtain ⟨gg, l, hv, n5, s5, r5⟩ := s4
      simp only [Value.slice.injEq, Option.some.injEq, Addr.mk.injEq, and_true] at hv
      subst hv
      obtain ⟨g6, j6, y6, h6, n6, c6, y6a, y6b⟩ := SlR.at n5 s5 r5 (show z.toNat < 3 by omega)
      simp only [Value.pointer.injEq, Option.some.injEq, Addr.mk.injEq, and_true] at h6
      obtain ⟨rfl, rfl⟩ := h6
      obtain ⟨hm1, hm2⟩ := mul_rng (a := y) (b := y6) (A := 255) (B := 20) (by omega) (by omega) (by omega) (by omega)
      have hlen : xs.length ≤ 20 := by have := hx.out.1; omega
      have hwb : w.heap.size ≤ w4.heap.size := D4.1.size
      go_wp2_with (at_builtin; refine wpList_app _ own4 hwb _ rfl _ _ 37 rfl (.int .i64 0) 8 Try.underlying37 info_int rfl rfl rfl rfl (by omega) (by omega) ?_; intro v2 w5 own5 gr5 _)
      have D5 := D4.own gr5 (owns_ge own4) hblt
      go_roundw
      case rel =>
        refine ⟨k - 1, xs ++ [y * y6], by omega, by go_num, ⟨D5.1, D5.2.mono (by omega)⟩, by simpa using own5, Lib.hid ⟨by have := hx.out.1; simp; omega, fun x hxm => ?_⟩⟩
        rcases List.mem_append.1 hxm with hxm | hxm
        · exact hx.out.2 x hxm
        · simp at hxm; omega
      case measure => simp [intOf]; omega
    · have hk0 : k = 0 := by omega
      have hD : DG w b (P + 20) 0 0 wr := ⟨D2.1, D2.2.mono (by omega)⟩
      have hlen : xs.length ≤ 9 := by have := hx.out.1; omega
      clear D2
      go_wp2_with fail
      refine (odd_c b _ 9 _ hD.2 (by omega) (by omega) (by omega)).mono ?_
      rintro e w2 ⟨o, rfl, r2, g2⟩
      have own3 := own_gr own2 g2 hblt
      have D3 : DG w b (P + 21) 0 0 w2 := ⟨grown_trans hD.1 g2, r2.mono (by omega)⟩
      clear own2 hD r2 g2 hk0
      cases o
      · go_wp2
        go_ret
        exact ⟨_, xs, rfl, own3, by omega, hx.out.2, D3.2.mono (by omega), D3.1⟩
      · have hwb : w.heap.size ≤ w2.heap.size := D3.1.size
        go_wp2_with (at_builtin; refine wpList_app _ own3 hwb _ rfl _ _ 37 rfl (.int .i64 0) 8 Try.underlying37 info_int rfl rfl rfl rfl (by omega) (by omega) ?_; intro v2 w5 own5 gr5 _)
        have D5 := D3.own gr5 (owns_ge own3) hblt
        go_wp2
        go_ret
        refine ⟨_, xs ++ [-1], rfl, by simpa using own5, by simp; omega, fun x hxm => ?_, D5.2.mono (by omega), D5.1⟩
        rcases List.mem_append.1 hxm with hxm | hxm
        · exact hx.out.2 x hxm
        · simp at hxm; omega
set_option maxHeartbeats 1000000 in
theorem DrawBufferRun_any (a : Option Addr) (c n : Nat) (zs : List Int) (w : World) (hc : n ≤ c) (hc2 : c ≤ 9223372036854775807) (r : Sl w a n (zs.map (Value.int .u8))) (hz : ∀ z ∈ zs, 0 ≤ z ∧ z ≤ 255) :
    Calls Try.prog 26 #[.slice a n c] w fun e w' => ∃ (s r f : Int) (a' : Option Addr) (c' : Nat) (xs : List Int), e = .returned (.tuple #[.agg #[.int .i64 s, .int .i64 r, .int .i64 f], .slice a' xs.length c']) ∧ (-1 ≤ s ∧ s ≤ 1000001) ∧ (-1 ≤ r ∧ r ≤ 1000001) ∧ (-1 ≤ f ∧ f ≤ 1000001) ∧ Sl w' a' xs.length (xs.map (Value.int .i64)) ∧ xs.length ≤ 20 ∧ xs.length ≤ c' ∧ c' ≤ maxLen ∧ Ext w w' := by
  go_enter Try.func26, Try.ntmps26
  go_wp2_with fail
  have e0 := Ext.alloc w (.cells #[.int .i64 0, .int .i64 0, .int .i64 0] 38)
  refine (open_any a c n zs _ hc hc2 (r.ext e0) hz).mono ?_
  rintro e w1 ⟨b, rfl, rd, e1, hb⟩
  have hg : Buf (-1) 1000001 w1 w.heap.size := (Buf.new w (by omega) (by omega)).gr (b := b) (ext_gr e1) (by simp at hb; omega)
  have hgb : w.heap.size < b := by simp at hb; omega
  have E1 : Ext w w1 := e0.trans e1
  have hrd : RdP w1 b 0 := ⟨0, Nat.le_refl _, rd⟩
  clear r hz rd hb e0 e1
  go_wp2_with fail
  refine (l20Buffer_c b 0 12 _ hrd (by omega) (by omega) (by omega)).mono ?_
  rintro e w2 ⟨s, r, f, rfl, hs, hr, hf, rd2, gr2⟩
  have hg2 := hg.gr gr2 (by omega)
  clear hg hrd
  go_wp2_with fail
  refine (l20Sizes_c b _ _ rd2 (by omega)).mono ?_
  rintro e w3 ⟨v, xs, rfl, own3, hlen, -, rd3, gr3⟩
  obtain ⟨a', c', rfl⟩ := owns_form own3
  have hg3 := hg2.gr gr3 (by omega)
  have G3 := grown_trans gr2 gr3
  have hsz : w.heap.size < w2.heap.size := hg2.lt
  clear hg2 rd2 rd3 gr2 gr3
  have sl3 := Sl.of_owns own3
  have hcap := owns_cap own3
  have E4 : Ext w (((w3.setCell ⟨w.heap.size, 0, none⟩ (.int .i64 s)).setCell ⟨w.heap.size, 1, none⟩ (.int .i64 r)).setCell ⟨w.heap.size, 2, none⟩ (.int .i64 f)) := by
    refine Ext.grown (row := some b) (Below.refl _ _) ?_ (fun k hk => by simp at hk; omega)
    exact grown_set (grown_set (grown_set (grown_any (ext_gr E1) G3 (fun q hq => by simp at hq; omega)) (Nat.le_refl _)) (Nat.le_refl _)) (Nat.le_refl _)
  have setg : ∀ (wz : World) (j : Nat) (u : Value), wz.grownBy (wz.setCell ⟨w.heap.size, j, none⟩ u) (some w.heap.size) := fun wz j u =>
    ⟨rfl, rfl, rfl, by simp, fun k _ hk => heap_setCell_other wz ⟨w.heap.size, j, none⟩ k _ (fun e => hk (by simp [e]))⟩
  have own4 := own_gr (own_gr (own_gr own3 (setg w3 0 (.int .i64 s)) hsz) (setg _ 1 (.int .i64 r)) hsz) (setg _ 2 (.int .i64 f)) hsz
  have sl4 := Sl.of_owns own4
  clear own3 own4 setg sl3 G3 hgb
  obtain ⟨u1, u2, u3, u4, u5⟩ := hg3
  obtain ⟨m0, m1, m2, m3, m4, m5, m6⟩ := bx3 u4
  have v6 := blk_set3 (x' := .int .i64 s) (y' := .int .i64 r) (z' := .int .i64 f) u4
  obtain ⟨n0, n1, n2, n3, n4, n5, n6⟩ := bx3 v6
  go_wp2
  exact bodyPost_ret (v := .tuple #[.agg #[.int .i64 s, .int .i64 r, .int .i64 f], .slice a' xs.length c']) (by simp [results, Try.results26, go_sem, n1, n2, n3]) rfl ⟨s, r, f, a', c', xs, rfl, hs, hr, hf, sl4, hlen, hcap.1, hcap.2, E4⟩
end Go.Proofs.Ytmcdlkbofhdnlaa
