/- Drawing: byte strings and lists of them. -/
import Derived.Test.YtmcdlkbofhdnlaaD4
import Derived.Test.YtmcdlkbofhdnlaaP0
namespace Go.Proofs.Ytmcdlkbofhdnlaa
open Go.RowKit
set_option maxHeartbeats 1000000

theorem l20Bytes_c (b P most : Nat) (w : World) (h : RdP w b P) (hp : P < 2^38) (hmost : most ≤ 100) :
    Calls Try.prog 68 #[.pointer (some ⟨b, 0, none⟩), .int .i64 most] w fun e w' => ∃ (v : Value) (xs : List Int), e = .returned v ∧ w'.ownsRow w.heap.size 5 1 v xs.length (xs.map (Value.int .u8)) ∧ xs.length ≤ most ∧ (∀ x ∈ xs, byt x) ∧ RdP w' b (P + 400) ∧ w.grownBy w' (some b) := by
  have hblt := h.lt
  go_enter Try.func68, Try.ntmps68
  have E1 : Ext w (w.alloc (.cells #[] 5)) := (Below.refl _ _).alloc (Nat.le_refl _) _
  have hown := World.ownsRow_made (base := w.heap.size) (e := 5) (size := 1) w #[] 0 (Nat.le_refl _) (by simp) rfl
  go_wp2_with fail
  refine (pick_c b P _ _ (h.ext E1) (by omega) (by omega) (by omega)).mono ?_
  rintro e w1 ⟨x, rfl, x0, x1, r1, g1⟩
  have D1 : DG w b (P + 1) 0 0 w1 := ⟨grown_trans (ext_gr E1) g1, by simpa using r1⟩
  have own1 := own_gr hown g1 hblt
  obtain ⟨k0, rfl⟩ := Int.eq_ofNat_of_zero_le x0
  have hk0 : k0 ≤ most := by omega
  clear hown E1 h r1 g1 x0 x1
  go_wp2_with fail
  go_loopw [5, 6] (fun v i wr => ∃ (k : Nat) (xs : List Int), k ≤ k0 ∧ i = .int .i64 k ∧ DG w b (P + 305 - 3 * k) 0 0 wr ∧ wr.ownsRow w.heap.size 5 1 v xs.length (xs.map (Value.int .u8)) ∧ Hid (xs.length + k = k0 ∧ ∀ x ∈ xs, byt x)) (fun _ i _ => (intOf i).toNat)
  case atStart => exact ⟨k0, [], by omega, rfl, ⟨D1.1, D1.2.mono (by omega)⟩, own1, Lib.hid ⟨by simp, by simp⟩⟩
  case round =>
    obtain ⟨k, xs, hk, rfl, D2, own2, hx⟩ := hrel
    clear own1 D1
    by_cases hlt : 0 < k
    · go_wp2_with fail
      refine (pick_c b _ 256 _ D2.2 (by omega) (by omega) (by omega)).mono ?_
      rintro e w2 ⟨y, rfl, y0, y1, r2, g2⟩
      have own3 := own_gr own2 g2 hblt
      have D3 : DG w b (P + 306 - 3 * k) 0 0 w2 := ⟨grown_trans D2.1 g2, r2.mono (by omega)⟩
      clear own2 D2 r2 g2
      go_wp2_with fail
      refine (pick_c b _ 256 _ D3.2 (by omega) (by omega) (by omega)).mono ?_
      rintro e w3 ⟨y', rfl, y0', y1', r3, g3⟩
      have own4 := own_gr own3 g3 hblt
      have D4 : DG w b (P + 307 - 3 * k) 0 0 w3 := ⟨grown_trans D3.1 g3, r3.mono (by omega)⟩
      have e4 := Ext.alloc w3 (.cells #[.int .i64 0, .int .i64 255, .int .i64 y, .int .i64 y'] 3)
      have s4 : SlR (w3.alloc (.cells #[.int .i64 0, .int .i64 255, .int .i64 y, .int .i64 y'] 3)) (b + 1) (.slice (some ⟨w3.heap.size, 0, none⟩) 4 4) 4 0 255 := ⟨_, [0, 255, y, y'], rfl, by have := D4.2.lt; omega, Sl_new _ _ _, by simp; omega⟩
      clear own3 D3 r3 g3
      go_wp2_with fail
      refine (pick_c b _ 4 _ (D4.2.ext e4) (by omega) (by omega) (by omega)).mono ?_
      rintro e w5 ⟨z, rfl, z0, z1, r5, g5⟩
      have own5 := own_gr (owns_ext own4 e4) g5 hblt
      have D5 : DG w b (P + 308 - 3 * k) 0 0 w5 := ⟨grown_trans (grown_ext D4.1 e4) g5, r5.mono (by omega)⟩
      have s5 := s4.grown g5 (by omega)
      clear own4 D4 e4 s4 r5 g5
      generalize w3.heap.size = B at *
      obtain ⟨gg, l, hv, n5, s6, r6⟩ := s5
      simp only [Value.slice.injEq, Option.some.injEq, Addr.mk.injEq, and_true] at hv
      subst hv
      obtain ⟨g6, j6, y6, h6, n6, c6, y6a, y6b⟩ := SlR.at n5 s6 r6 (show z.toNat < 4 by omega)
      simp only [Value.pointer.injEq, Option.some.injEq, Addr.mk.injEq, and_true] at h6
      obtain ⟨rfl, rfl⟩ := h6
      have hwr : IntKind.u8.wrap y6 = y6 := by rw [wrap_u8]; omega
      have hlen : xs.length ≤ 100 := by have := hx.out.1; omega
      have hwb : w.heap.size ≤ w5.heap.size := D5.1.size
      go_wp2_with (at_builtin; refine wpList_app _ own5 hwb _ rfl _ _ 22 rfl (.int .u8 0) 1 Try.underlying22 info_uint8 rfl rfl rfl rfl (by omega) (by omega) ?_; intro v2 w6 own6 gr6 _)
      have D6 := D5.own gr6 (owns_ge own5) hblt
      clear own5 D5 gr6 s6 hwr
      go_roundw
      case rel =>
        refine ⟨k - 1, xs ++ [y6], by omega, by go_num, ⟨D6.1, D6.2.mono (by omega)⟩, by simpa using own6, Lib.hid ⟨by have := hx.out.1; simp; omega, fun x hxm => ?_⟩⟩
        rcases List.mem_append.1 hxm with hxm | hxm
        · exact hx.out.2 x hxm
        · simp at hxm; subst hxm; exact ⟨by omega, by omega⟩
      case measure => simp [intOf]; omega
    · have hk0' : k = 0 := by omega
      have hlen : xs.length ≤ most := by have := hx.out.1; omega
      go_wp2
      go_ret
      exact ⟨_, xs, rfl, own2, hlen, hx.out.2, D2.2.mono (by omega), D2.1⟩
theorem owns_ne {w : World} {b1 b2 e1 e2 s1 s2 n1 n2 : Nat} {v1 v2 : Value} {x1 x2 : List Value} (h1 : w.ownsRow b1 e1 s1 v1 n1 x1) (h2 : w.ownsRow b2 e2 s2 v2 n2 x2) (hne : e1 ≠ e2) : v1.ownBlock = none ∨ v1.ownBlock ≠ v2.ownBlock := by
  rcases h1.2 with ⟨rfl, -⟩ | ⟨g, cap, cur, rfl, -, p1, -⟩
  · exact .inl rfl
  · right
    intro he
    rcases h2.2 with ⟨rfl, -⟩ | ⟨g', cap', cur', rfl, -, p2, -⟩
    · simp [Value.ownBlock] at he
    · simp [Value.ownBlock] at he
      subst he
      rw [p1] at p2
      simp at p2
      exact hne p2.2
/-- A list of byte strings in rows of the call's own. -/
def SSw (w : World) (lo : Nat) (v : Value) (L : List (List Int)) : Prop :=
  ∃ cs, w.ownsRow lo 22 1 v L.length cs ∧ ∀ i, i < L.length → ∃ (a' : Option Addr) (c' : Nat), cs[i]? = some (.slice a' (lget L i).length c') ∧ w.ownsRow lo 5 1 (.slice a' (lget L i).length c') (lget L i).length ((lget L i).map (Value.int .u8))
theorem SSw.gr {w w' : World} {lo b : Nat} {v : Value} {L : List (List Int)} (h : SSw w lo v L) (g : w.grownBy w' (some b)) (hb : b < lo) : SSw w' lo v L := by
  obtain ⟨cs, h1, h2⟩ := h
  refine ⟨cs, own_gr h1 g hb, fun i hi => ?_⟩
  obtain ⟨a', c', h3, h4⟩ := h2 i hi
  exact ⟨a', c', h3, own_gr h4 g hb⟩
theorem SSw.ext {w w' : World} {lo : Nat} {v : Value} {L : List (List Int)} (h : SSw w lo v L) (e : Ext w w') : SSw w' lo v L := by
  obtain ⟨cs, h1, h2⟩ := h
  refine ⟨cs, owns_ext h1 e, fun i hi => ?_⟩
  obtain ⟨a', c', h3, h4⟩ := h2 i hi
  exact ⟨a', c', h3, owns_ext h4 e⟩
theorem SSw.mono {w : World} {lo lo' : Nat} {v : Value} {L : List (List Int)} (h : SSw w lo v L) (hl : lo' ≤ lo) : SSw w lo' v L := by
  obtain ⟨cs, h1, h2⟩ := h
  refine ⟨cs, owns_mono h1 hl, fun i hi => ?_⟩
  obtain ⟨a', c', h3, h4⟩ := h2 i hi
  exact ⟨a', c', h3, owns_mono h4 hl⟩
theorem SSw.form {w : World} {lo : Nat} {v : Value} {L : List (List Int)} (h : SSw w lo v L) : ∃ a c, v = .slice a L.length c := by
  obtain ⟨cs, h1, -⟩ := h; exact owns_form h1
theorem SSw.toSS {w : World} {lo n c : Nat} {a : Option Addr} {L : List (List Int)} (h : SSw w lo (.slice a n c) L) : SS w a n L := by
  obtain ⟨cs, h1, h2⟩ := h
  obtain ⟨a2, c2, hv⟩ := owns_form h1
  simp only [Value.slice.injEq] at hv
  obtain ⟨rfl, rfl, rfl⟩ := hv
  have s := Sl.of_owns h1
  refine ⟨rfl, fun i hi => ?_⟩
  obtain ⟨b, off, ha, hc⟩ := s.2 i hi
  obtain ⟨a', c', h3, h4⟩ := h2 i hi
  exact ⟨b, off, ha, a', c', by rw [hc]; simp [List.getD, h3], Sl.of_owns h4, (owns_cap h4).1, (owns_cap h4).2⟩
theorem SSw.at {w : World} {lo n c : Nat} {a : Option Addr} {L : List (List Int)} (h : SSw w lo (.slice a n c) L) {i : Nat} (hi : i < n) : ∃ (b off : Nat) (a' : Option Addr) (c' : Nat), a = some ⟨b, off, none⟩ ∧ w.cell? ⟨b, off + i, none⟩ = some (.slice a' (lget L i).length c') ∧ w.ownsRow lo 5 1 (.slice a' (lget L i).length c') (lget L i).length ((lget L i).map (Value.int .u8)) := by
  obtain ⟨cs, h1, h2⟩ := h
  obtain ⟨a2, c2, hv⟩ := owns_form h1
  simp only [Value.slice.injEq] at hv
  obtain ⟨rfl, rfl, rfl⟩ := hv
  have s := Sl.of_owns h1
  obtain ⟨b, off, ha, hc⟩ := s.2 i hi
  obtain ⟨a', c', h3, h4⟩ := h2 i hi
  exact ⟨b, off, a', c', ha, by rw [hc]; simp [List.getD, h3], h4⟩
theorem SSw.len {w : World} {lo n c : Nat} {a : Option Addr} {L : List (List Int)} (h : SSw w lo (.slice a n c) L) : L.length = n := by
  obtain ⟨a2, c2, hv⟩ := h.form
  simp only [Value.slice.injEq] at hv
  exact hv.2.1.symm
theorem SSw.snoc {w w1 w' : World} {lo : Nat} {v v' : Value} {L : List (List Int)} {s : List Int} {a1 : Option Addr} {c1 : Nat} {cs : List Value} (h1 : w.ownsRow lo 22 1 v L.length cs)
    (h2 : ∀ i, i < L.length → ∃ (a' : Option Addr) (c' : Nat), cs[i]? = some (.slice a' (lget L i).length c') ∧ w.ownsRow lo 5 1 (.slice a' (lget L i).length c') (lget L i).length ((lget L i).map (Value.int .u8)))
    (h3 : w.ownsRow lo 5 1 (.slice a1 s.length c1) s.length (s.map (Value.int .u8)))
    (own : w'.ownsRow lo 22 1 v' (L.length + 1) (cs ++ [.slice a1 s.length c1])) (g : w.grownBy w' v.ownBlock) : SSw w' lo v' (L ++ [s]) := by
  have hcl : cs.length = L.length := by have := h1.1; omega
  refine ⟨cs ++ [.slice a1 s.length c1], by simpa using own, fun i hi => ?_⟩
  by_cases hil : i < L.length
  · obtain ⟨a', c', h4, h5⟩ := h2 i hil
    have he : lget (L ++ [s]) i = lget L i := by simp [lget, List.getElem?_append_left hil]
    rw [he]
    exact ⟨a', c', by rw [List.getElem?_append_left (by omega)]; exact h4, h5.kept g (owns_ne h5 h1 (by decide))⟩
  · have hie : i = L.length := by simp at hi; omega
    subst hie
    have he : lget (L ++ [s]) L.length = s := by simp [lget]
    rw [he]
    exact ⟨a1, c1, by rw [← hcl]; simp, h3.kept g (owns_ne h3 h1 (by decide))⟩
theorem info_BS : (Try.prog.info? 22).map (fun i => (i.zero, i.size, i.bytes)) = some (some (.slice none 0 0), 1, 24) := by kernel_rfl
/-- What a drawn list of strings is like. -/
def StrR (w : World) (b P : Nat) (e : Ending) (w' : World) : Prop :=
  ∃ (v : Value) (L : List (List Int)), e = .returned v ∧ SSw w' w.heap.size v L ∧ 1 ≤ L.length ∧ L.length ≤ 12 ∧ (∀ s ∈ L, s.length ≤ 300 ∧ ∀ z ∈ s, byt z) ∧ RdP w' b P ∧ w.grownBy w' (some b)
set_option maxRecDepth 100000 in
theorem l20Strings_c (b P : Nat) (n : Int) (w : World) (h : RdP w b P) (hp : P < 2^37) (hn0 : 1 ≤ n) (hn : n ≤ 1000000) :
    Calls Try.prog 60 #[.pointer (some ⟨b, 0, none⟩), .int .i64 n] w (StrR w b (P + 5000)) := by
  have hblt := h.lt
  go_enter Try.func60, Try.ntmps60
  have E1 : Ext w (w.alloc (.cells #[] 22)) := (Below.refl _ _).alloc (Nat.le_refl _) _
  have hown := World.ownsRow_made (base := w.heap.size) (e := 22) (size := 1) w #[] 0 (Nat.le_refl _) (by simp) rfl
  go_wp2_with fail
  refine (pick_c b P 6 _ (h.ext E1) (by omega) (by omega) (by omega)).mono ?_
  rintro e w1 ⟨x, rfl, x0, x1, r1, g1⟩
  have D1 : DG w b (P + 1) 0 0 w1 := ⟨grown_trans (ext_gr E1) g1, by simpa using r1⟩
  have S1 : SSw w1 w.heap.size (.slice (some ⟨w.heap.size, 0, none⟩) 0 0) [] := ⟨[], own_gr hown g1 hblt, fun i hi => by simp at hi⟩
  obtain ⟨k0, rfl⟩ := Int.eq_ofNat_of_zero_le x0
  have hk0 : k0 ≤ 5 := by omega
  clear hown E1 h r1 g1 x0 x1
  go_wp2_with fail
  go_loopw [5, 6] (fun v i wr => ∃ (k : Int) (L : List (List Int)), -1 ≤ k ∧ k ≤ k0 ∧ i = .int .i64 k ∧ DG w b (P + 4000 - 500 * (k + 1).toNat) 0 0 wr ∧ SSw wr w.heap.size v L ∧ Hid ((L.length : Int) + k = k0 ∧ ∀ s ∈ L, s.length ≤ 300 ∧ ∀ z ∈ s, byt z)) (fun _ i _ => (intOf i + 1).toNat)
  case atStart => exact ⟨k0, [], by omega, by omega, rfl, ⟨D1.1, D1.2.mono (by omega)⟩, S1, Lib.hid ⟨by simp, by simp⟩⟩
  case round =>
    obtain ⟨k, L, hk, hk1, rfl, D2, S2, hx⟩ := hrel
    clear S1 D1
    by_cases hlt : 0 ≤ k
    · go_wp2_with fail
      refine (l20Bytes_c b _ 9 _ D2.2 (by omega) (by omega)).mono ?_
      rintro e w2 ⟨v2, s, rfl, own2, hs1, hs2, r2, g2⟩
      obtain ⟨a2, c2, rfl⟩ := owns_form own2
      have S3 := S2.gr g2 hblt
      have hsz2 := D2.1.size
      have own3 := owns_mono own2 hsz2
      have D3 : DG w b (P + 4400 - 500 * (k + 1).toNat) 0 0 w2 := ⟨grown_trans D2.1 g2, r2.mono (by omega)⟩
      obtain ⟨cs, o3, q3⟩ := S3
      have Q3 := Lib.hid q3
      have hlen : L.length ≤ 6 := by have := hx.out.1; omega
      have hwb : w.heap.size ≤ w2.heap.size := D3.1.size
      clear own2 D2 S2 r2 g2 q3
      go_wp2_with (at_builtin; refine wpList_app _ o3 hwb _ rfl _ _ 53 rfl (.slice none 0 0) 24 Try.underlying53 info_BS rfl rfl rfl rfl (by omega) (by omega) ?_; intro v4 w4 own4 gr4 _)
      have D4 := D3.own gr4 (owns_ge o3) hblt
      have S4 := SSw.snoc (w1 := w2) o3 Q3.out own3 own4 gr4
      clear D3 o3 Q3 own3 own4 gr4
      go_roundw
      case rel =>
        refine ⟨k - 1, L ++ [s], by omega, by omega, by go_num, ⟨D4.1, D4.2.mono (by omega)⟩, S4, Lib.hid ⟨by have := hx.out.1; simp; omega, fun x hxm => ?_⟩⟩
        rcases List.mem_append.1 hxm with hxm | hxm
        · exact hx.out.2 x hxm
        · simp at hxm; subst hxm; exact ⟨by omega, hs2⟩
      case measure => simp [intOf]; omega
    · have hk0' : k = -1 := by omega
      have hlen : L.length ≤ 6 := by have := hx.out.1; omega
      have hlen1 : 1 ≤ L.length := by have := hx.out.1; omega
      have HL := Lib.hid hx.out.2
      have D3 : DG w b (P + 4000) 0 0 wr := ⟨D2.1, D2.2.mono (by omega)⟩
      clear D2 hx hk0'
      go_wp2_with fail
      refine (odd_c b _ n _ D3.2 (by omega) hn0 (by omega)).mono ?_
      rintro e w2 ⟨o, rfl, r2, g2⟩
      have S3 := S2.gr g2 hblt
      have D4 : DG w b (P + 4001) 0 0 w2 := ⟨grown_trans D3.1 g2, r2.mono (by omega)⟩
      clear S2 D3 r2 g2
      cases o
      · have SX := S3
        have DX : DG w b (P + 4100) 0 0 w2 := ⟨D4.1, D4.2.mono (by omega)⟩
        have HLX := HL
        have hl1 := hlen1
        have hl2 : L.length ≤ 7 := by omega
        clear S3 D4 HL
        go_wp2_with fail
        refine (odd_c b _ n _ DX.2 (by omega) hn0 (by omega)).mono ?_
        rintro e w8 ⟨o8, rfl, r8, g8⟩
        have SY := SX.gr g8 hblt
        have DY : DG w b (P + 4200) 0 0 w8 := ⟨grown_trans DX.1 g8, r8.mono (by omega)⟩
        clear SX DX r8 g8
        cases o8
        · go_wp2
          go_ret
          exact ⟨_, L, rfl, SY, hl1, by omega, HLX.out, DY.2.mono (by omega), DY.1⟩
        · go_wp2_with fail
          go_loopw [5] (fun v wr => ∃ L : List (List Int), 1 ≤ L.length ∧ L.length ≤ 12 ∧ DG w b (P + 4200) 0 0 wr ∧ SSw wr w.heap.size v L ∧ Hid (∀ s ∈ L, s.length ≤ 300 ∧ ∀ z ∈ s, byt z)) (fun v _ => match v with | .slice _ q _ => 20 - q | _ => 0)
          case atStart => exact ⟨L, hl1, by omega, DY, SY, HLX⟩
          case round =>
            obtain ⟨L9, hl9, hl9b, D9, S9, HL9⟩ := hrel
            clear SY DY
            obtain ⟨a9, c9, rfl⟩ := S9.form
            have hc9 : c9 ≤ 9223372036854775807 := by
              obtain ⟨cs, o9, -⟩ := S9
              have := (owns_cap o9).2
              unfold maxLen at this
              omega
            by_cases hlt9 : L9.length ≤ 8
            · have hsz9 := D9.1.size
              have eA := Ext.alloc wr (.cells #[] 5)
              have ownA := World.ownsRow_made (base := wr.heap.size) (e := 5) (size := 1) wr #[] 0 (Nat.le_refl _) (by simp) rfl
              have ownA2 := owns_mono ownA hsz9
              obtain ⟨cs, o9, q9⟩ := S9.ext eA
              have DA : DG w b (P + 4200) 0 0 (wr.alloc (.cells #[] 5)) := ⟨grown_ext D9.1 eA, D9.2.ext eA⟩
              have hbA : w.heap.size ≤ (wr.alloc (.cells #[] 5)).heap.size := by have := eA.size; omega
              have Q9 := Lib.hid q9
              clear S9 D9 q9 ownA
              generalize hwA : wr.alloc (.cells #[] 5) = wA at *
              have HwA := Lib.hid hwA
              go_wp2_with (at_builtin; refine wpList_app _ o9 hbA _ rfl _ _ 53 rfl (.slice none 0 0) 24 Try.underlying53 info_BS rfl rfl rfl rfl (by omega) (by omega) ?_; intro v10 w10 own10 gr10 _)
              have D10 := DA.own gr10 (owns_ge o9) hblt
              have S10 := SSw.snoc (w1 := wA) (s := []) o9 Q9.out ownA2 own10 gr10
              clear DA o9 Q9 own10 gr10 ownA2 hwA
              obtain ⟨a11, c11, rfl⟩ := S10.form
              go_roundw
              case rel =>
                refine ⟨L9 ++ [[]], by simp, by simp; omega, D10, S10, Lib.hid (fun x hxm => ?_)⟩
                rcases List.mem_append.1 hxm with hxm | hxm
                · exact HL9.out x hxm
                · simp at hxm; subst hxm; exact ⟨by simp, by simp⟩
              case measure => simp; omega
            · go_wp2
              go_ret
              exact ⟨_, L9, rfl, S9, hl9, hl9b, HL9.out, D9.2.mono (by omega), D9.1⟩
      · go_wp2_with fail
        refine (pick_c b _ 3 _ D4.2 (by omega) (by omega) (by omega)).mono ?_
        rintro e w5 ⟨y, rfl, y0, y1, r5, g5⟩
        obtain ⟨y, rfl⟩ := Int.eq_ofNat_of_zero_le y0
        have S5 := S3.gr g5 hblt
        have D5 : DG w b (P + 4002) 0 0 w5 := ⟨grown_trans D4.1 g5, r5.mono (by omega)⟩
        clear S3 D4 r5 g5
        go_wp2_with (at_make; refine wpList_mk _ rfl _ _ 22 rfl 5 (.int .u8 0) 1 Try.underlying22 info_uint8 rfl _ (254 + y) rfl rfl (by simp) (by omega) (by omega) ?_; intro w6 hown6 hgrow6; refine Hid.out ?_)
        have e56 : Ext w5 w6 := Ext.grown (Below.refl _ _) hgrow6 (by simp)
        have S6 := S5.ext e56
        have D6 : DG w b (P + 4003) 0 0 w6 := ⟨grown_ext D5.1 e56, (D5.2.ext e56).mono (by omega)⟩
        have hsz5 := D5.1.size
        obtain ⟨Z, hZ⟩ : ∃ Z, Z = List.replicate (254 + y) (0 : Int) := ⟨_, rfl⟩
        have hZl : Z.length = 254 + y := by rw [hZ]; simp
        have hZb : Z.length ≤ 300 ∧ ∀ z ∈ Z, byt z := ⟨by rw [hZl]; omega, fun z hz => by rw [hZ] at hz; rw [List.eq_of_mem_replicate hz]; exact ⟨by omega, by omega⟩⟩
        have own6 : w6.ownsRow w.heap.size 5 1 (.slice (some ⟨w5.heap.size, 0, none⟩) Z.length (254 + y)) Z.length (Z.map (Value.int .u8)) := by
          rw [hZl, hZ, List.map_replicate]
          exact owns_mono hown6 hsz5
        rw [← hZl] at own6 ⊢
        have HZb := Lib.hid hZb
        obtain ⟨cs, o6, q6⟩ := S6
        have Q6 := Lib.hid q6
        have hwb : w.heap.size ≤ w6.heap.size := D6.1.size
        clear hown6 hgrow6 e56 S5 D5 q6 hZ hZl hZb
        generalize w5.heap.size = B5 at *
        refine Lib.hid ?_
        go_wp2_with (at_builtin; refine wpList_app _ o6 hwb _ rfl _ _ 53 rfl (.slice none 0 0) 24 Try.underlying53 info_BS rfl rfl rfl rfl (by omega) (by omega) ?_; intro v7 w7 own7 gr7 _)
        have D7 := D6.own gr7 (owns_ge o6) hblt
        have SX := SSw.snoc (w1 := w6) o6 Q6.out own6 own7 gr7
        have HLX : Hid (∀ s ∈ L ++ [Z], s.length ≤ 300 ∧ ∀ z ∈ s, byt z) := Lib.hid (fun x hxm => by
          rcases List.mem_append.1 hxm with hxm | hxm
          · exact HL.out x hxm
          · simp at hxm; subst hxm; exact HZb.out)
        have hl1 : 1 ≤ (L ++ [Z]).length := by simp
        have hl2 : (L ++ [Z]).length ≤ 7 := by simp; omega
        have DX : DG w b (P + 4100) 0 0 w7 := ⟨D7.1, D7.2.mono (by omega)⟩
        clear D6 o6 Q6 own6 own7 gr7 D7 HL HZb hlen hlen1
        generalize L ++ [Z] = LX at *
        go_wp2_with fail
        refine (odd_c b _ n _ DX.2 (by omega) hn0 (by omega)).mono ?_
        rintro e w8 ⟨o8, rfl, r8, g8⟩
        have SY := SX.gr g8 hblt
        have DY : DG w b (P + 4200) 0 0 w8 := ⟨grown_trans DX.1 g8, r8.mono (by omega)⟩
        clear SX DX r8 g8
        cases o8
        · go_wp2
          go_ret
          exact ⟨_, LX, rfl, SY, hl1, by omega, HLX.out, DY.2.mono (by omega), DY.1⟩
        · go_wp2_with fail
          go_loopw [5] (fun v wr => ∃ L : List (List Int), 1 ≤ L.length ∧ L.length ≤ 12 ∧ DG w b (P + 4200) 0 0 wr ∧ SSw wr w.heap.size v L ∧ Hid (∀ s ∈ L, s.length ≤ 300 ∧ ∀ z ∈ s, byt z)) (fun v _ => match v with | .slice _ q _ => 20 - q | _ => 0)
          case atStart => exact ⟨LX, hl1, by omega, DY, SY, HLX⟩
          case round =>
            obtain ⟨L9, hl9, hl9b, D9, S9, HL9⟩ := hrel
            clear SY DY
            obtain ⟨a9, c9, rfl⟩ := S9.form
            have hc9 : c9 ≤ 9223372036854775807 := by
              obtain ⟨cs, o9, -⟩ := S9
              have := (owns_cap o9).2
              unfold maxLen at this
              omega
            by_cases hlt9 : L9.length ≤ 8
            · have hsz9 := D9.1.size
              have eA := Ext.alloc wr (.cells #[] 5)
              have ownA := World.ownsRow_made (base := wr.heap.size) (e := 5) (size := 1) wr #[] 0 (Nat.le_refl _) (by simp) rfl
              have ownA2 := owns_mono ownA hsz9
              obtain ⟨cs, o9, q9⟩ := S9.ext eA
              have DA : DG w b (P + 4200) 0 0 (wr.alloc (.cells #[] 5)) := ⟨grown_ext D9.1 eA, D9.2.ext eA⟩
              have hbA : w.heap.size ≤ (wr.alloc (.cells #[] 5)).heap.size := by have := eA.size; omega
              have Q9 := Lib.hid q9
              clear S9 D9 q9 ownA
              generalize hwA : wr.alloc (.cells #[] 5) = wA at *
              have HwA := Lib.hid hwA
              go_wp2_with (at_builtin; refine wpList_app _ o9 hbA _ rfl _ _ 53 rfl (.slice none 0 0) 24 Try.underlying53 info_BS rfl rfl rfl rfl (by omega) (by omega) ?_; intro v10 w10 own10 gr10 _)
              have D10 := DA.own gr10 (owns_ge o9) hblt
              have S10 := SSw.snoc (w1 := wA) (s := []) o9 Q9.out ownA2 own10 gr10
              clear DA o9 Q9 own10 gr10 ownA2 hwA
              obtain ⟨a11, c11, rfl⟩ := S10.form
              go_roundw
              case rel =>
                refine ⟨L9 ++ [[]], by simp, by simp; omega, D10, S10, Lib.hid (fun x hxm => ?_)⟩
                rcases List.mem_append.1 hxm with hxm | hxm
                · exact HL9.out x hxm
                · simp at hxm; subst hxm; exact ⟨by simp, by simp⟩
              case measure => simp; omega
            · go_wp2
              go_ret
              exact ⟨_, L9, rfl, S9, hl9, hl9b, HL9.out, D9.2.mono (by omega), D9.1⟩
end Go.Proofs.Ytmcdlkbofhdnlaa
