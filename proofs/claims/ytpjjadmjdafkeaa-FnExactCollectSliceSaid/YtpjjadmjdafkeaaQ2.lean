/- Lists of packets: size, equality, overwriting. -/
import Derived.Test.YtpjjadmjdafkeaaQ1
namespace Go.Proofs.Ytpjjadmjdafkeaa
open Go.RowKit
set_option maxHeartbeats 1000000
/-- szPacketS: negative, or all is small. -/
theorem szPacketS_any (a : Option Addr) (c n : Nat) (L : List Pkt) (w : World) (hn : n ≤ 9223372036854775807) (r : KP w a n L) :
    Calls Try.prog 31 #[.slice a n c, .int .i64 1048576] w fun e w' => ∃ x : Int, e = .returned (.int .i64 x) ∧ (0 ≤ x → n ≤ 1048576 ∧ ∀ y ∈ L, y.data.length ≤ 1048576) ∧ Ext w w' := by
  by_cases hbig : (1048576 : Int) - n < 0
  · have hd : decide ((1048576 : Int) - (n : Int) < 0) = true := by simpa using hbig
    go_enter Try.func31, Try.ntmps31
    go_wp2
    go_ret
    exact ⟨-1, rfl, by omega, Below.refl _ _⟩
  · have hd : decide ((1048576 : Int) - (n : Int) < 0) = false := by simpa using hbig
    go_enter Try.func31, Try.ntmps31
    go_wp2_with fail
    go_loopw [1, 5] (fun q i wr => ∃ (k : Nat) (x : Int), k ≤ n ∧ i = .int .i64 k ∧ q = .int .i64 x ∧ 0 ≤ x ∧ x ≤ 1048576 ∧ Ext w wr ∧ ∀ j, j < k → (kget L j).data.length ≤ 1048576) (fun _ i _ => n - (intOf i).toNat)
    case atStart => exact ⟨0, _, by omega, rfl, rfl, by omega, by omega, Below.refl _ _, fun j hj => by omega⟩
    case round =>
      obtain ⟨k, x, hk, rfl, rfl, hx0, hx1, E2, hall⟩ := hrel
      have Hall := Lib.hid hall
      clear hall
      by_cases hlt : k < n
      · obtain ⟨b1, o1, rfl, g1⟩ := (r.ext E2).2 k hlt
        obtain ⟨a2, n2, c2, ⟨h1, h2, h3, h4, h5, h6⟩, h7, h8, h9, -⟩ := g1
        have hm2 : n2 ≤ 9223372036854775807 := Nat.le_trans h8 h9
        go_wp2_with fail
        refine (szPacket_any _ _ _ _ _ a2 c2 n2 x wr hm2 hx0 hx1).mono ?_
        rintro e w2 ⟨rfl, e2⟩
        have E3 := E2.trans e2
        have h7' := Lib.hid h7.int_len
        clear e2 h1 h2 h3 h4 h5 h6 h7
        by_cases h : x - n2 < 0
        · rw [if_pos h]
          go_wp2
          go_ret
          exact ⟨-1, rfl, by omega, E3⟩
        · rw [if_neg h]
          have hd2 : decide (x - (n2 : Int) < 0) = false := by simpa using h
          go_wp2
          go_roundw
          case rel =>
            refine ⟨k + 1, _, by omega, by go_num, rfl, by omega, by omega, E3, fun j hj => ?_⟩
            by_cases hjk : j = k
            · subst hjk; have := h7'.out; omega
            · exact Hall.out j (by omega)
          case measure => simp [intOf]; omega
      · obtain rfl : k = n := by omega
        go_wp2
        go_ret
        refine ⟨_, rfl, fun _ => ⟨by omega, fun y hy => ?_⟩, E2⟩
        obtain ⟨j, hj, rfl⟩ := List.getElem_of_mem hy
        have := Hall.out j (by rw [r.1] at hj; exact hj)
        rw [kget_eq L j hj] at this
        exact this
theorem eqPacketS_same (a b : Option Addr) (c d n : Nat) (L : List Pkt) (w : World) (hn : n < 2^40) (hL : ∀ x ∈ L, x.data.length < 2^45) (r1 : KP w a n L) (r2 : KP w b n L) :
    Calls Try.prog 36 #[.slice a n c, .slice b n d] w fun e w' => e = .returned (.bool true) ∧ Ext w w' := by
  go_enter Try.func36, Try.ntmps36
  go_wp2_with fail
  go_loopw [5] (fun i wr => ∃ (k : Nat), k ≤ n ∧ i = .int .i64 k ∧ Ext w wr) (fun i _ => n - (intOf i).toNat)
  case atStart => exact ⟨0, by omega, rfl, Below.refl _ _⟩
  case round =>
    obtain ⟨k, hk, rfl, E2⟩ := hrel
    by_cases hlt : k < n
    · obtain ⟨b1, o1, rfl, g1⟩ := (r1.ext E2).2 k hlt
      obtain ⟨b2, o2, rfl, g2⟩ := (r2.ext E2).2 k hlt
      have hdl : (kget L k).data.length < 2^45 := by
        rw [kget_eq L k (by rw [r1.1]; exact hlt)]
        exact hL _ (List.getElem_mem _)
      generalize kget L k = P at *
      obtain ⟨num, fr, row, part, last, ds⟩ := P
      obtain ⟨a2, n2, c2, ⟨h1, h2, h3, h4, h5, h6⟩, h7, h8, h9, -⟩ := g1
      obtain ⟨a3, n3, c3, ⟨j1, j2, j3, j4, j5, j6⟩, j7, j8, j9, -⟩ := g2
      simp only at h1 h2 h3 h4 h5 h7 j1 j2 j3 j4 j5 j7 hdl
      obtain rfl : n2 = n3 := by rw [← h7.int_len, ← j7.int_len]
      have hn2 : n2 < 2^45 := by rw [← h7.int_len]; exact hdl
      clear r1 r2 hdl
      go_wp2_with fail
      have hext : ∀ (i : Nat) (own : Value) (ys : Nat → Value) (wa wb : World), Ext wa wb → (match i with | 0 => own = .slice (some ⟨b1, o1, none⟩) n c | 1 => own = .int .i64 k | 2 => own = .pointer (some ⟨b1, o1 + k * 6, none⟩) | 3 => own = .agg #[.int .i64 num, .int .i64 fr, .int .i64 row, .int .i64 part, .bool last, .slice a2 n2 c2] | 4 => own = .slice (some ⟨b2, o2, none⟩) n d | 5 => own = .int .i64 k | 6 => own = .pointer (some ⟨b2, o2 + k * 6, none⟩) | 7 => own = .agg #[.int .i64 num, .int .i64 fr, .int .i64 row, .int .i64 part, .bool last, .slice a3 n2 c3] | 8 => own = .bool true | 9 => own = .bool false | _ => True) → (match i with | 0 => own = .slice (some ⟨b1, o1, none⟩) n c | 1 => own = .int .i64 k | 2 => own = .pointer (some ⟨b1, o1 + k * 6, none⟩) | 3 => own = .agg #[.int .i64 num, .int .i64 fr, .int .i64 row, .int .i64 part, .bool last, .slice a2 n2 c2] | 4 => own = .slice (some ⟨b2, o2, none⟩) n d | 5 => own = .int .i64 k | 6 => own = .pointer (some ⟨b2, o2 + k * 6, none⟩) | 7 => own = .agg #[.int .i64 num, .int .i64 fr, .int .i64 row, .int .i64 part, .bool last, .slice a3 n2 c3] | 8 => own = .bool true | 9 => own = .bool false | _ => True) := by
        intro i own ys wa wb e h
        match i, h with
        | 0, h => exact h
        | 1, h => exact h
        | 2, h => exact h
        | 3, h => exact h
        | 4, h => exact h
        | 5, h => exact h
        | 6, h => exact h
        | 7, h => exact h
        | 8, h => exact h
        | 9, h => exact h
        | _ + 10, _ => trivial
      have Hext := Lib.hid hext
      clear hext
      refine wp_region_inv2 (by kernel_rfl) [(17, 0), (18, 1), (19, 2), (20, 3), (21, 4), (22, 5), (23, 6), (24, 7), (25, 8), (26, 9)] [[], [], [0, 1], [0, 1, 2], [], [], [4, 5], [4, 5, 6], [0, 1, 2, 3, 4, 5, 6, 7], [0, 1, 2, 3, 4, 5, 6, 7, 8]] (fun i own ys wx => match i with | 0 => own = .slice (some ⟨b1, o1, none⟩) n c | 1 => own = .int .i64 k | 2 => own = .pointer (some ⟨b1, o1 + k * 6, none⟩) | 3 => own = .agg #[.int .i64 num, .int .i64 fr, .int .i64 row, .int .i64 part, .bool last, .slice a2 n2 c2] | 4 => own = .slice (some ⟨b2, o2, none⟩) n d | 5 => own = .int .i64 k | 6 => own = .pointer (some ⟨b2, o2 + k * 6, none⟩) | 7 => own = .agg #[.int .i64 num, .int .i64 fr, .int .i64 row, .int .i64 part, .bool last, .slice a3 n2 c3] | 8 => own = .bool true | 9 => own = .bool false | _ => True) (fun kx wx => Ext wr wx) (by kernel_rfl) (by kernel_rfl) (by kernel_rfl) ?g0_r4 ?gop_r4 ?gend_r4
      case g0_r4 => exact Ext.drewN _ 1
      case gop_r4 =>
        refine ⟨?_, ?_, ?_, ?_, ?_, ?_, ?_, ?_, ?_, ?_, trivial⟩
        · intro kx xs wx hk hG hD hI Qo Kx hK hQo
          clear hD
          clear hI
          simp only [patchS, Nat.reduceAdd, Nat.reduceEqDiff, ↓reduceIte] at hQo ⊢
          go_wp2
          exact hK.out _ _ ⟨rfl, hG, fun _ _ _ _ _ _ h => h⟩
        · intro kx xs wx hk hG hD hI Qo Kx hK hQo
          clear hD
          clear hI
          simp only [patchS, Nat.reduceAdd, Nat.reduceEqDiff, ↓reduceIte] at hQo ⊢
          go_wp2
          exact hK.out _ _ ⟨rfl, hG, fun _ _ _ _ _ _ h => h⟩
        · intro kx xs wx hk hG hD hI Qo Kx hK hQo
          have d0 : (xs 0) = .slice (some ⟨b1, o1, none⟩) n c := hD 0 rfl
          have d1 : (xs 1) = .int .i64 k := hD 1 rfl
          clear hD
          clear hI
          simp only [patchS, Nat.reduceAdd, Nat.reduceEqDiff, ↓reduceIte] at hQo ⊢
          generalize xs 0 = y0 at *
          generalize xs 1 = y1 at *
          subst d0
          subst d1
          go_wp2
          exact hK.out _ _ ⟨rfl, hG, fun _ _ _ _ _ _ h => h⟩
        · intro kx xs wx hk hG hD hI Qo Kx hK hQo
          have d2 : (xs 2) = .pointer (some ⟨b1, o1 + k * 6, none⟩) := hD 2 rfl
          clear hD
          clear hI
          simp only [patchS, Nat.reduceAdd, Nat.reduceEqDiff, ↓reduceIte] at hQo ⊢
          generalize xs 2 = y2 at *
          subst d2
          have h1' := (cell_ext hG h1)
          have h2' := (cell_ext hG h2)
          have h3' := (cell_ext hG h3)
          have h4' := (cell_ext hG h4)
          have h5' := (cell_ext hG h5)
          have h6' := (cell_ext hG h6)
          go_wp2
          exact hK.out _ _ ⟨rfl, hG, fun _ _ _ _ _ _ h => h⟩
        · intro kx xs wx hk hG hD hI Qo Kx hK hQo
          clear hD
          clear hI
          simp only [patchS, Nat.reduceAdd, Nat.reduceEqDiff, ↓reduceIte] at hQo ⊢
          go_wp2
          exact hK.out _ _ ⟨rfl, hG, fun _ _ _ _ _ _ h => h⟩
        · intro kx xs wx hk hG hD hI Qo Kx hK hQo
          clear hD
          clear hI
          simp only [patchS, Nat.reduceAdd, Nat.reduceEqDiff, ↓reduceIte] at hQo ⊢
          go_wp2
          exact hK.out _ _ ⟨rfl, hG, fun _ _ _ _ _ _ h => h⟩
        · intro kx xs wx hk hG hD hI Qo Kx hK hQo
          have d4 : (xs 4) = .slice (some ⟨b2, o2, none⟩) n d := hD 4 rfl
          have d5 : (xs 5) = .int .i64 k := hD 5 rfl
          clear hD
          clear hI
          simp only [patchS, Nat.reduceAdd, Nat.reduceEqDiff, ↓reduceIte] at hQo ⊢
          generalize xs 4 = y4 at *
          generalize xs 5 = y5 at *
          subst d4
          subst d5
          go_wp2
          exact hK.out _ _ ⟨rfl, hG, fun _ _ _ _ _ _ h => h⟩
        · intro kx xs wx hk hG hD hI Qo Kx hK hQo
          have d6 : (xs 6) = .pointer (some ⟨b2, o2 + k * 6, none⟩) := hD 6 rfl
          clear hD
          clear hI
          simp only [patchS, Nat.reduceAdd, Nat.reduceEqDiff, ↓reduceIte] at hQo ⊢
          generalize xs 6 = y6 at *
          subst d6
          have h1' := (cell_ext hG j1)
          have h2' := (cell_ext hG j2)
          have h3' := (cell_ext hG j3)
          have h4' := (cell_ext hG j4)
          have h5' := (cell_ext hG j5)
          have h6' := (cell_ext hG j6)
          go_wp2
          exact hK.out _ _ ⟨rfl, hG, fun _ _ _ _ _ _ h => h⟩
        · intro kx xs wx hk hG hD hI Qo Kx hK hQo
          have d3 : (xs 3) = .agg #[.int .i64 num, .int .i64 fr, .int .i64 row, .int .i64 part, .bool last, .slice a2 n2 c2] := hD 3 rfl
          have d7 : (xs 7) = .agg #[.int .i64 num, .int .i64 fr, .int .i64 row, .int .i64 part, .bool last, .slice a3 n2 c3] := hD 7 rfl
          clear hD
          clear hI
          simp only [patchS, Nat.reduceAdd, Nat.reduceEqDiff, ↓reduceIte] at hQo ⊢
          generalize xs 3 = y3 at *
          generalize xs 7 = y7 at *
          subst d3
          subst d7
          go_wp2_with fail
          refine (eqPacket_same num fr row part last a2 a3 c2 c3 n2 ds _ hn2 (h7.ext hG) (j7.ext hG)).mono ?_
          rintro e w4 ⟨rfl, e4⟩
          go_wp2
          exact hK.out _ _ ⟨rfl, hG.trans e4, fun i _ _ _ own ys h => Hext.out i own ys _ _ e4 h⟩
        · intro kx xs wx hk hG hD hI Qo Kx hK hQo
          have d8 : (xs 8) = .bool true := hD 8 rfl
          clear hD
          clear hI
          simp only [patchS, Nat.reduceAdd, Nat.reduceEqDiff, ↓reduceIte] at hQo ⊢
          generalize xs 8 = y8 at *
          subst d8
          go_wp2
          exact hK.out _ _ ⟨rfl, hG, fun _ _ _ _ _ _ h => h⟩
      clear Hext
      intro xs wx hV hG
      have d0 : (xs 0) = .slice (some ⟨b1, o1, none⟩) n c := hV 0 (by decide)
      have d1 : (xs 1) = .int .i64 k := hV 1 (by decide)
      have d2 : (xs 2) = .pointer (some ⟨b1, o1 + k * 6, none⟩) := hV 2 (by decide)
      have d3 : (xs 3) = .agg #[.int .i64 num, .int .i64 fr, .int .i64 row, .int .i64 part, .bool last, .slice a2 n2 c2] := hV 3 (by decide)
      have d4 : (xs 4) = .slice (some ⟨b2, o2, none⟩) n d := hV 4 (by decide)
      have d5 : (xs 5) = .int .i64 k := hV 5 (by decide)
      have d6 : (xs 6) = .pointer (some ⟨b2, o2 + k * 6, none⟩) := hV 6 (by decide)
      have d7 : (xs 7) = .agg #[.int .i64 num, .int .i64 fr, .int .i64 row, .int .i64 part, .bool last, .slice a3 n2 c3] := hV 7 (by decide)
      have d8 : (xs 8) = .bool true := hV 8 (by decide)
      have d9 : (xs 9) = .bool false := hV 9 (by decide)
      clear hV
      simp only [patchS, Nat.reduceAdd, Nat.reduceEqDiff, ↓reduceIte]
      generalize xs 0 = y0 at *
      generalize xs 1 = y1 at *
      generalize xs 2 = y2 at *
      generalize xs 3 = y3 at *
      generalize xs 4 = y4 at *
      generalize xs 5 = y5 at *
      generalize xs 6 = y6 at *
      generalize xs 7 = y7 at *
      generalize xs 8 = y8 at *
      generalize xs 9 = y9 at *
      replace hG : Ext wr wx := hG
      subst d0
      subst d1
      subst d2
      subst d3
      subst d4
      subst d5
      subst d6
      subst d7
      subst d8
      subst d9
      go_wp2
      go_roundw
      case rel => exact ⟨k + 1, by omega, by go_num, E2.trans hG⟩
      case measure => simp [intOf]; omega
    · obtain rfl : k = n := by omega
      go_wp2
      go_ret
      exact ⟨rfl, E2⟩
theorem grown_s5 (w : World) (B i0 i1 i2 i3 i4 : Nat) (u0 u1 u2 u3 u4 : Value) : w.grownBy (((((w.setCell ⟨B, i0, none⟩ u0).setCell ⟨B, i1, none⟩ u1).setCell ⟨B, i2, none⟩ u2).setCell ⟨B, i3, none⟩ u3).setCell ⟨B, i4, none⟩ u4) (some B) :=
  grownBy_trans (grownBy_trans (grownBy_trans (grownBy_trans (grown_st1 _ _ _ _) (grown_st1 _ _ _ _)) (grown_st1 _ _ _ _)) (grown_st1 _ _ _ _)) (grown_st1 _ _ _ _)
set_option maxRecDepth 100000 in
theorem markPacketS_any (B hi n : Nat) (k0 : Int) (w : World) (hn : n ≤ 1048576) (hk0 : 0 ≤ k0) (hk1 : k0 ≤ 2^50) (r : RSo 5 27 w B hi n) (hh : hi ≤ w.heap.size) :
    Calls Try.prog 37 #[.slice (some ⟨B, 0, none⟩) n n, .int .i64 k0] w fun e w' => ∃ x : Int, e = .returned (.int .i64 x) ∧ 0 ≤ x ∧ x ≤ 2^51 ∧ Tch w w' B hi := by
  obtain ⟨⟨cs0, ownB⟩, bs, s⟩ := r
  have hBhi : B < hi := by have := s.mono n (Nat.le_refl _); have := s.2.1; omega
  have HS := Lib.hid s
  clear s
  go_enter Try.func37, Try.ntmps37
  go_wp2_with fail
  go_loopw [1, 5] (fun q i wr => ∃ (k : Nat) (x : Int) (cs : List Value), k ≤ n ∧ i = .int .i64 k ∧ q = .int .i64 x ∧ 0 ≤ x ∧ x ≤ 2^50 + k * 1048581 ∧ Tch w wr B hi ∧ wr.ownsRow B 27 6 (.slice (some ⟨B, 0, none⟩) n n) n cs ∧ Hid (RSm 5 w wr B k bs)) (fun _ i _ => n - (intOf i).toNat)
  case atStart => exact ⟨0, _, _, by omega, rfl, rfl, by omega, by omega, Tch.refl _ _ _, ownB, Lib.hid ⟨fun q _ => rfl, fun p _ _ => rfl⟩⟩
  case round =>
    obtain ⟨k, x, cs, hk, rfl, rfl, hx0, hx1, T2, ownR, hM⟩ := hrel
    clear ownB
    have hkm : (k : Int) * 1048581 ≤ 1048576 * 1048581 := by omega
    by_cases hlt : k < n
    · obtain ⟨a', l, c', xs, hl, g2, own2, hrow⟩ := RSm.at hM.out HS.out hlt
      have Hrow := Lib.hid hrow
      have hlo := HS.out.mono k hk
      obtain ⟨u0, d0, -⟩ := owns_at ownR (j := k * 6) (by omega)
      obtain ⟨u1, d1, -⟩ := owns_at ownR (j := k * 6 + 1) (by omega)
      obtain ⟨u2, d2, -⟩ := owns_at ownR (j := k * 6 + 2) (by omega)
      obtain ⟨u3, d3, -⟩ := owns_at ownR (j := k * 6 + 3) (by omega)
      obtain ⟨u4, d4, -⟩ := owns_at ownR (j := k * 6 + 4) (by omega)
      have f0 := ownR.frozenAt (k * 6)
      have f1 := ownR.frozenAt (k * 6 + 1)
      have f2 := ownR.frozenAt (k * 6 + 2)
      have f3 := ownR.frozenAt (k * 6 + 3)
      have f4 := ownR.frozenAt (k * 6 + 4)
      have hst : ∀ v0 v1 v2 v3 v4, ∃ cs', (((((wr.setCell ⟨B, k * 6, none⟩ v0).setCell ⟨B, k * 6 + 1, none⟩ v1).setCell ⟨B, k * 6 + 2, none⟩ v2).setCell ⟨B, k * 6 + 3, none⟩ v3).setCell ⟨B, k * 6 + 4, none⟩ v4).ownsRow B 27 6 (.slice (some ⟨B, 0, none⟩) n n) n cs' := fun v0 v1 v2 v3 v4 =>
        ⟨_, (((((ownR.stored (k * 6) v0).1.stored (k * 6 + 1) v1).1.stored (k * 6 + 2) v2).1.stored (k * 6 + 3) v3).1.stored (k * 6 + 4) v4).1⟩
      have Hst := Lib.hid hst
      have O2 := Lib.hid own2
      clear hst hrow own2 ownR
      go_wp2_with fail
      refine (markByteS_any _ l _ _ (bs k) _ (by omega) (by omega) (by omega) (own_gr O2.out (grown_s5 _ _ _ _ _ _ _ _ _ _ _ _) (by omega))).mono ?_
      rintro e w4 ⟨rfl, -, g4⟩
      obtain ⟨cs', oS⟩ := Hst.out (.int .i64 x) (.int .i64 (x + 1)) (.int .i64 (x + 1 + 1)) (.int .i64 (x + 1 + 1 + 1)) (.bool ((x + 1 + 1 + 1 + 1) % 3 == 0))
      have hR := RSm.step hM.out HS.out hlt hh T2 hBhi (grown_s5 _ _ _ _ _ _ _ _ _ _ _ _) (fun q hq => by
        rw [World.cell?_setCell_other _ _ _ _ (by intro e; simp at e <;> omega), World.cell?_setCell_other _ _ _ _ (by intro e; simp at e <;> omega), World.cell?_setCell_other _ _ _ _ (by intro e; simp at e <;> omega), World.cell?_setCell_other _ _ _ _ (by intro e; simp at e <;> omega), World.cell?_setCell_other _ _ _ _ (by intro e; simp at e <;> omega)]) g4 Hrow.out oS
      obtain ⟨hM4, T4, o4⟩ := hR
      have HM4 := Lib.hid hM4
      clear hM4 T2 g4 oS d0 d1 d2 d3 d4 f0 f1 f2 f3 f4 g2 hM
      go_wp2
      go_roundw
      case rel => exact ⟨k + 1, x + 1 + 1 + 1 + 1 + 1 + l, cs', by omega, by go_num, by first | rfl | go_num, by omega, by push_cast; omega, T4, o4, HM4⟩
      case measure => simp [intOf]; omega
    · obtain rfl : k = n := by omega
      go_wp2
      go_ret
      exact ⟨x, rfl, hx0, by omega, T2⟩
end Go.Proofs.Ytpjjadmjdafkeaa
