/- Drawing: lists of container entries. -/
import Derived.Test.YtpjjadmjdafkeaaDoorD6
import Derived.Test.YtpjjadmjdafkeaaDoorS1
namespace Go.Proofs.YtpjjadmjdafkeaaDoor
open Go.RowKit
set_option maxHeartbeats 1000000
/-- A list of entries in own rows. -/
def SEa (w : World) (lo : Nat) (cs : List Value) (i : Nat) (x : Smp) : Prop :=
  ∃ (a' : Option Addr) (c' : Nat), cs[i * 3]? = some (.int .i64 x.1) ∧ cs[i * 3 + 1]? = some (.bool x.2.1) ∧ cs[i * 3 + 2]? = some (.slice a' x.2.2.length c') ∧ w.ownsRow lo 5 1 (.slice a' x.2.2.length c') x.2.2.length (x.2.2.map (Value.int .u8))
def SE (w : World) (lo : Nat) (v : Value) (L : List Smp) : Prop :=
  ∃ cs, w.ownsRow lo 40 3 v L.length cs ∧ ∀ i, i < L.length → SEa w lo cs i (sget L i)
theorem SE.gr {w w' : World} {lo b : Nat} {v : Value} {L : List Smp} (h : SE w lo v L) (g : w.grownBy w' (some b)) (hb : b < lo) : SE w' lo v L := by
  obtain ⟨cs, h1, h2⟩ := h
  refine ⟨cs, own_gr h1 g hb, fun i hi => ?_⟩
  obtain ⟨a', c', h3, h4, h5, h6⟩ := h2 i hi
  exact ⟨a', c', h3, h4, h5, own_gr h6 g hb⟩
theorem SE.ext {w w' : World} {lo : Nat} {v : Value} {L : List Smp} (h : SE w lo v L) (e : Ext w w') : SE w' lo v L := by
  obtain ⟨cs, h1, h2⟩ := h
  refine ⟨cs, owns_ext h1 e, fun i hi => ?_⟩
  obtain ⟨a', c', h3, h4, h5, h6⟩ := h2 i hi
  exact ⟨a', c', h3, h4, h5, owns_ext h6 e⟩
theorem SE.mono {w : World} {lo lo' : Nat} {v : Value} {L : List Smp} (h : SE w lo v L) (hl : lo' ≤ lo) : SE w lo' v L := by
  obtain ⟨cs, h1, h2⟩ := h
  refine ⟨cs, owns_mono h1 hl, fun i hi => ?_⟩
  obtain ⟨a', c', h3, h4, h5, h6⟩ := h2 i hi
  exact ⟨a', c', h3, h4, h5, owns_mono h6 hl⟩
theorem SE.form {w : World} {lo : Nat} {v : Value} {L : List Smp} (h : SE w lo v L) : ∃ a c, v = .slice a L.length c := by
  obtain ⟨cs, h1, -⟩ := h; exact owns_form h1
theorem SE.toSP {w : World} {lo n c : Nat} {a : Option Addr} {L : List Smp} (h : SE w lo (.slice a n c) L) : SP w a n L := by
  obtain ⟨cs, h1, h2⟩ := h
  obtain ⟨a2, c2, hv⟩ := owns_form h1
  simp only [Value.slice.injEq] at hv
  obtain ⟨rfl, rfl, rfl⟩ := hv
  refine ⟨rfl, fun i hi => ?_⟩
  obtain ⟨a', c', h3, h4, h5, h6⟩ := h2 i hi
  rcases id h1.2 with ⟨-, h0⟩ | ⟨g, cap, cur, hv, -⟩
  · omega
  simp only [Value.slice.injEq] at hv
  obtain ⟨rfl, -, rfl⟩ := hv
  refine ⟨g, 0, rfl, a', _, c', ?_, ?_, ?_, Sl.of_owns h6, (owns_cap h6).1, (owns_cap h6).2, fun _ _ => Nat.zero_le _⟩
  · rw [Nat.zero_add, h1.cellAt _ (by omega)]; exact h3
  · rw [Nat.zero_add, h1.cellAt _ (by omega)]; exact h4
  · rw [Nat.zero_add, h1.cellAt _ (by omega)]; exact h5
theorem SE.snoc {w w' : World} {lo : Nat} {v v' : Value} {L : List Smp} {t : Int} {k : Bool} {s : List Int} {a1 : Option Addr} {c1 : Nat} {cs : List Value} (h1 : w.ownsRow lo 40 3 v L.length cs)
    (h2 : ∀ i, i < L.length → SEa w lo cs i (sget L i))
    (h3 : w.ownsRow lo 5 1 (.slice a1 s.length c1) s.length (s.map (Value.int .u8)))
    (own : w'.ownsRow lo 40 3 v' (L.length + 1) (cs ++ [.int .i64 t, .bool k, .slice a1 s.length c1])) (g : w.grownBy w' v.ownBlock) : SE w' lo v' (L ++ [(t, k, s)]) := by
  have hcl : cs.length = L.length * 3 := h1.1
  refine ⟨cs ++ [.int .i64 t, .bool k, .slice a1 s.length c1], by simpa using own, fun i hi => ?_⟩
  by_cases hil : i < L.length
  · obtain ⟨a', c', h4, h5, h6, h7⟩ := h2 i hil
    have he : sget (L ++ [(t, k, s)]) i = sget L i := by simp [sget, List.getElem?_append_left hil]
    rw [he]
    exact ⟨a', c', by rw [List.getElem?_append_left (by omega)]; exact h4, by rw [List.getElem?_append_left (by omega)]; exact h5, by rw [List.getElem?_append_left (by omega)]; exact h6, h7.kept g (owns_ne h7 h1 (by decide))⟩
  · have hie : i = L.length := by simp at hi; omega
    subst hie
    have he : sget (L ++ [(t, k, s)]) L.length = (t, k, s) := by simp [sget]
    rw [he]
    refine ⟨a1, c1, ?_, ?_, ?_, h3.kept g (owns_ne h3 h1 (by decide))⟩
    · rw [List.getElem?_append_right (by omega), show L.length * 3 - cs.length = 0 by omega]; rfl
    · rw [List.getElem?_append_right (by omega), show L.length * 3 + 1 - cs.length = 1 by omega]; rfl
    · rw [List.getElem?_append_right (by omega), show L.length * 3 + 2 - cs.length = 2 by omega]; rfl
theorem SE.set0 {w : World} {lo g n c : Nat} {L : List Smp} {j : Nat} (h : SE w lo (.slice (some ⟨g, 0, none⟩) n c) L) (hj : j < n) (t : Int) :
    SE (w.setCell ⟨g, j * 3, none⟩ (.int .i64 t)) lo (.slice (some ⟨g, 0, none⟩) n c) (L.set j (t, (sget L j).2)) ∧ w.grownBy (w.setCell ⟨g, j * 3, none⟩ (.int .i64 t)) (some g) ∧ lo ≤ g ∧ (∃ u, w.cell? ⟨g, j * 3, none⟩ = some u) ∧ w.frozen? ⟨g, j * 3, none⟩ = false := by
  obtain ⟨cs, h1, h2⟩ := h
  obtain ⟨a2, c2, hv⟩ := owns_form h1
  simp only [Value.slice.injEq] at hv
  obtain ⟨rfl, rfl, rfl⟩ := hv
  obtain ⟨o1, g1⟩ := h1.stored (j * 3) (.int .i64 t)
  have hcl : cs.length = L.length * 3 := h1.1
  refine ⟨⟨cs.set (j * 3) (.int .i64 t), by simpa using o1, fun i hi => ?_⟩, g1, (h1.lt g rfl).1, ?_, h1.frozenAt _⟩
  · rw [List.length_set] at hi
    obtain ⟨a', c', h3, h4, h5, h6⟩ := h2 i hi
    by_cases hij : i = j
    · subst hij
      have he : sget (L.set i (t, (sget L i).2)) i = (t, (sget L i).2) := by simp [sget, List.getElem?_set, hi]
      rw [he]
      exact ⟨a', c', by rw [List.getElem?_set_self (by omega)], by rw [List.getElem?_set_ne (by omega)]; exact h4, by rw [List.getElem?_set_ne (by omega)]; exact h5, h6.kept g1 (owns_ne h6 h1 (by decide))⟩
    · have he : sget (L.set j (t, (sget L j).2)) i = sget L i := by simp [sget, List.getElem?_set, show ¬ j = i from fun e => hij e.symm]
      rw [he]
      exact ⟨a', c', by rw [List.getElem?_set_ne (by omega)]; exact h3, by rw [List.getElem?_set_ne (by omega)]; exact h4, by rw [List.getElem?_set_ne (by omega)]; exact h5, h6.kept g1 (owns_ne h6 h1 (by decide))⟩
  · exact ⟨cs[j * 3]'(by omega), by rw [h1.cellAt _ (by omega), List.getElem?_eq_getElem]⟩

/-- append of one entry that was just laid. -/
theorem wpList_app3 {P : Program} (wr : World) {ops : Array Oper} {rest : List Oper} {o : Oper} {a : Act} {Q : Exit → Act → World → Prop} {base e : Nat} {v : Value} {n : Nat} {xs : List Value}
    (hown : wr.ownsRow base e 3 v n xs) (hbase : base ≤ wr.heap.size) (u0 u1 u2 : Value)
    (hg : o.guard = none) (s x : Operand) (t : TypeId) (ho : o.op = .call { callee := .builtin .append, args := #[s, x], argTypes := #[t, t] })
    (z : Value) (bytes : Nat) (h1 : P.underlying t = some (.slice e)) (h2 : (P.info? e).map (fun i => (i.zero, i.size, i.bytes)) = some (some z, 3, bytes)) (hz1 : z.cells.size = 3)
    (hs : a.eval s = v) (hx : a.eval x = .slice (some ⟨wr.heap.size, 0, none⟩) 1 1) (hu1 : (u0.oneCell' && u1.oneCell' && u2.oneCell') = true)
    (hb : (n + 1) * bytes ≤ 140737488355328) (hn : n < 2 ^ 62)
    (h : ∀ v' w', w'.ownsRow base e 3 v' (n + 1) (xs ++ [u0, u1, u2]) → wr.grownBy w' v.ownBlock → wpList P ops Q rest (a.put o.dst v') w') : wpList P ops Q (o :: rest) a (wr.alloc (.cells #[u0, u1, u2] e)) := by
  obtain ⟨i0, hi, hz0, hz1', hz2⟩ := info_parts h2
  simp only [Bool.and_eq_true] at hu1
  refine wpList_append_own _ hg s x t ho base e i0 z 3 bytes h1 hi hz0 hz1' hz2 hz1 (by decide) v n xs hs (hown.alloc _) ⟨wr.heap.size, 0, none⟩ 1 1 [u0, u1, u2] hx rfl ?_ ?_ (by unfold maxLen; omega) hb (by simp; omega) ?_
  · intro j q hq
    match j, hq with
    | 0, hq => simp at hq; subst hq; simp [Addr.add, World.cell?_alloc_at]
    | 1, hq => simp at hq; subst hq; simp [Addr.add, World.cell?_alloc_at]
    | 2, hq => simp at hq; subst hq; simp [Addr.add, World.cell?_alloc_at]
    | _ + 3, hq => simp at hq
  · intro u hu
    simp at hu
    rcases hu with rfl | rfl | rfl
    · exact hu1.1.1
    · exact hu1.1.2
    · exact hu1.2
  · intro v' w' a1 a2 _
    exact h v' w' a1 (grownBy_trans (World.grownBy_alloc _ _ _) a2)
def smpOk (x : Smp) : Prop := -1 ≤ x.1 ∧ x.1 ≤ 70000 ∧ x.2.2.length ≤ 9 ∧ ∀ z ∈ x.2.2, byt z
def EntR (w : World) (b P : Nat) (e : Ending) (w' : World) : Prop :=
  ∃ (v : Value) (L : List Smp), e = .returned v ∧ SE w' w.heap.size v L ∧ L.length ≤ 5 ∧ (∀ x ∈ L, smpOk x) ∧ RdP w' b P ∧ w.grownBy w' (some b)
set_option maxRecDepth 100000 in
theorem l20Entries_c (b P : Nat) (n : Int) (w : World) (h : RdP w b P) (hp : P < 2^37) (hn0 : 1 ≤ n) (hn : n ≤ 1000000) :
    Calls Tryd.prog 22 #[.pointer (some ⟨b, 0, none⟩), .int .i64 n] w (EntR w b (P + 5000)) := by
  have hblt := h.lt
  go_enter Tryd.func22, Tryd.ntmps22
  have E1 : Ext w (w.alloc (.cells #[] 40)) := (Below.refl _ _).alloc (Nat.le_refl _) _
  have hown := World.ownsRow_made (base := w.heap.size) (e := 40) (size := 3) w #[] 0 (Nat.le_refl _) (by simp) rfl
  go_wp2_with fail
  refine (pick_c b P _ _ (h.ext E1) (by omega) (by omega) (by omega)).mono ?_
  rintro e w1 ⟨x, rfl, x0, x1, r1, g1⟩
  obtain ⟨t0, rfl⟩ := Int.eq_ofNat_of_zero_le x0
  have D1 : DG w b (P + 1) 0 0 w1 := ⟨grown_trans (ext_gr E1) g1, by simpa using r1⟩
  have own1 := own_gr hown g1 hblt
  clear hown E1 h r1 g1
  go_wp2_with fail
  refine (pick_c b _ _ _ D1.2 (by omega) (by omega) (by omega)).mono ?_
  rintro e w2 ⟨y, rfl, y0, y1, r2, g2⟩
  obtain ⟨k0, rfl⟩ := Int.eq_ofNat_of_zero_le y0
  have D2 : DG w b (P + 2) 0 0 w2 := ⟨grown_trans D1.1 g2, r2.mono (by omega)⟩
  have S2 : SE w2 w.heap.size (.slice (some ⟨w.heap.size, 0, none⟩) 0 0) [] := ⟨[], own_gr own1 g2 hblt, fun i hi => by simp at hi⟩
  clear own1 D1 r2 g2
  go_wp2_with fail
  go_loopw [5, 6, 7] (fun v i q wr => ∃ (k t : Nat) (L : List Smp), k ≤ 5 ∧ q = .int .i64 k ∧ i = .int .i64 t ∧ t ≤ 5 + 301 * L.length ∧ L.length + k ≤ 5 ∧ DG w b (P + 2500 - 450 * k) 0 0 wr ∧ SE wr w.heap.size v L ∧ Hid (∀ x ∈ L, smpOk x)) (fun _ _ q _ => (intOf q).toNat)
  case atStart => exact ⟨k0, t0, [], by omega, rfl, rfl, by omega, by simp; omega, ⟨D2.1, D2.2.mono (by omega)⟩, S2, Lib.hid (by simp)⟩
  case round =>
    obtain ⟨k, t, L, hk, rfl, rfl, ht, hkl, D3, S3, HL⟩ := hrel
    clear D2 S2
    obtain ⟨a3, c3, rfl⟩ := S3.form
    by_cases hlt : 0 < k
    · go_wp2_with fail
      refine (pick_c b _ _ _ D3.2 (by omega) (by omega) (by omega)).mono ?_
      rintro e w4 ⟨z, rfl, z0, z1, r4, g4⟩
      have S4 := S3.gr g4 hblt
      have D4 : DG w b (P + 2501 - 450 * k) 0 0 w4 := ⟨grown_trans D3.1 g4, r4.mono (by omega)⟩
      clear S3 D3 r4 g4
      go_wp2_with fail
      refine (l20Bytes_c b _ 9 _ D4.2 (by omega) (by omega)).mono ?_
      rintro e w5 ⟨v5, xs, rfl, own5, hxl, hxb, r5, g5⟩
      have D5 : DG w b (P + 2901 - 450 * k) 0 0 w5 := ⟨grown_trans D4.1 g5, r5.mono (by omega)⟩
      obtain ⟨a5, c5, rfl⟩ := owns_form own5
      have own5' := owns_mono own5 D4.1.size
      obtain ⟨cs, o5, q5⟩ := S4.gr g5 hblt
      have Q5 := Lib.hid q5
      have HX := Lib.hid hxb
      have hwb : w.heap.size ≤ w5.heap.size := D5.1.size
      clear S4 own5 D4 r5 g5 q5 hxb
      go_wp2_with (at_builtin; refine wpList_app3 _ o5 hwb _ _ _ rfl _ _ 23 rfl (.agg #[.int .i64 0, .bool false, .slice none 0 0]) 40 Tryd.underlying23 info_Sample rfl rfl rfl rfl (by omega) (by omega) ?_; intro v6 w6 own6 gr6; refine Hid.out ?_)
      have D6 := D5.own gr6 (owns_ge o5) hblt
      have S6 := SE.snoc o5 Q5.out own5' own6 gr6
      have HL6 : Hid (∀ x ∈ L ++ [((t : Int), (z == 0 : Bool), xs)], smpOk x) := Lib.hid (fun x hxm => by
        rcases List.mem_append.1 hxm with hxm | hxm
        · exact HL.out x hxm
        · simp at hxm; subst hxm; exact ⟨by first | (simp; done) | (simp; omega), by first | (simp; done) | (simp; omega), by simpa using hxl, HX.out⟩)
      clear o5 Q5 own5' own6 gr6 D5 HL HX
      refine Lib.hid ?_
      go_wp2_with fail
      refine (pick_c b _ _ _ D6.2 (by omega) (by omega) (by omega)).mono ?_
      rintro e w7 ⟨y, rfl, y0, y1, r7, g7⟩
      obtain ⟨y, rfl⟩ := Int.eq_ofNat_of_zero_le y0
      have S7 := S6.gr g7 hblt
      have D7 : DG w b (P + 2902 - 450 * k) 0 0 w7 := ⟨grown_trans D6.1 g7, r7.mono (by omega)⟩
      clear S6 D6 r7 g7
      go_wp2_with fail
      go_roundw
      case rel => exact ⟨k - 1, t + 1 + y, _, by omega, by go_num, by go_num, by simp; omega, by simp; omega, ⟨D7.1, D7.2.mono (by omega)⟩, S7, HL6⟩
      case measure => simp [intOf]; omega
    · obtain rfl : k = 0 := by omega
      have D4 : DG w b (P + 2500) 0 0 wr := ⟨D3.1, D3.2.mono (by omega)⟩
      clear D3
      by_cases h0 : L.length = 0
      · obtain rfl : L = [] := List.eq_nil_of_length_eq_zero h0
        clear h0
        go_wp2_with fail
        go_ret
        exact ⟨_, [], rfl, S3, by simp, by simp, D4.2.mono (by omega), D4.1⟩
      · have hd0 : decide (0 < (L.length : Int)) = true := by rw [decide_eq_true_iff]; omega
        go_wp2_with fail
        refine (odd_c b _ n _ D4.2 (by omega) hn0 (by omega)).mono ?_
        rintro e w5 ⟨o5, rfl, r5, g5⟩
        have S5 := S3.gr g5 hblt
        have D5 : DG w b (P + 2501) 0 0 w5 := ⟨grown_trans D4.1 g5, r5.mono (by omega)⟩
        clear S3 D4 r5 g5
        cases o5
        · go_wp2_with fail
          go_ret
          exact ⟨_, L, rfl, S5, by omega, HL.out, D5.2.mono (by omega), D5.1⟩
        · go_wp2_with fail
          refine (pick_c b _ _ _ D5.2 (by omega) (by omega) (by omega)).mono ?_
          rintro e w6 ⟨j, rfl, j0, j1, r6, g6⟩
          obtain ⟨j, rfl⟩ := Int.eq_ofNat_of_zero_le j0
          have hjL : j < L.length := by omega
          have S6 := S5.gr g6 hblt
          have D6 : DG w b (P + 2502) 0 0 w6 := ⟨grown_trans D5.1 g6, r6.mono (by omega)⟩
          have e7 := Ext.alloc w6 (.cells #[.int .i64 (-1), .int .i64 65536, .int .i64 3] 3)
          have s7 : SlR (w6.alloc (.cells #[.int .i64 (-1), .int .i64 65536, .int .i64 3] 3)) (b + 1) (.slice (some ⟨w6.heap.size, 0, none⟩) 3 3) 3 (-1) 65536 := ⟨_, [-1, 65536, 3], rfl, by have := D6.2.lt; omega, Sl_new _ _ _, by simp⟩
          clear S5 D5 r6 g6
          go_wp2_with fail
          refine (pick_c b _ _ _ (D6.2.ext e7) (by omega) (by omega) (by omega)).mono ?_
          rintro e w8 ⟨z, rfl, z0, z1, r8, g8⟩
          have S8 := (S6.ext e7).gr g8 hblt
          have D8 : DG w b (P + 2503) 0 0 w8 := ⟨grown_trans (grown_ext D6.1 e7) g8, r8.mono (by omega)⟩
          have s8 := s7.grown g8 (by omega)
          clear S6 D6 e7 s7 r8 g8
          generalize w6.heap.size = B at *
          obtain ⟨gg, l, hv, n5, s6, r6⟩ := s8
          simp only [Value.slice.injEq, Option.some.injEq, Addr.mk.injEq, and_true] at hv
          subst hv
          obtain ⟨g6, j6, y6, h6, n6, c6, y6a, y6b⟩ := SlR.at n5 s6 r6 (show z.toNat < 3 by omega)
          simp only [Value.pointer.injEq, Option.some.injEq, Addr.mk.injEq, and_true] at h6
          obtain ⟨rfl, rfl⟩ := h6
          obtain ⟨g, cap, hv⟩ : ∃ g cap, (Value.slice a3 L.length c3) = .slice (some ⟨g, 0, none⟩) L.length cap := by
            obtain ⟨cs, o9, -⟩ := S8
            rcases o9.2 with ⟨hv, h0'⟩ | ⟨g, cap, cur, hv, -⟩
            · omega
            · exact ⟨g, cap, hv⟩
          simp only [Value.slice.injEq, true_and] at hv
          obtain ⟨rfl, rfl⟩ := hv
          obtain ⟨S9, g9, hge, ⟨u, hu⟩, hfz⟩ := S8.set0 hjL y6
          have D9 := D8.own g9 (fun q hq => by cases hq; omega) hblt
          have HL9 : Hid (∀ x ∈ L.set j (y6, (sget L j).2), smpOk x) := Lib.hid (fun x hxm => by
            rcases List.mem_or_eq_of_mem_set hxm with h | h
            · exact HL.out x h
            · have hj := HL.out (sget L j) (by rw [sget_eq L j hjL]; exact List.getElem_mem _)
              rw [h]; exact ⟨by first | (simp; done) | (simp; omega), by first | (simp; done) | (simp; omega), hj.2.2⟩)
          clear D8 S8 s6 g9 HL
          go_wp2_with fail
          go_ret
          exact ⟨_, L.set j (y6, (sget L j).2), rfl, by simpa using S9, by simpa using hkl, HL9.out, D9.2.mono (by omega), D9.1⟩
end Go.Proofs.YtpjjadmjdafkeaaDoor
