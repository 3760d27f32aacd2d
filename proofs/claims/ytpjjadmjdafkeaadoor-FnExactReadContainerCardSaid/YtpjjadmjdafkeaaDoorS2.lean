/- SamplesValid, SeekKey and the helpers over lists of entries. -/
import Derived.Test.YtpjjadmjdafkeaaDoorS1
import Derived.Test.YtpjjadmjdafkeaaDoorP2
import Derived.Test.YtpjjadmjdafkeaaDoorA2
namespace Go.Proofs.YtpjjadmjdafkeaaDoor
open Go.RowKit
set_option maxHeartbeats 400000

theorem eqSample_same (t : Int) (k : Bool) (a b : Option Addr) (c d n : Nat) (xs : List Int) (w : World) (hn : n < 2^45) (r1 : Sl w a n (xs.map (Value.int .u8))) (r2 : Sl w b n (xs.map (Value.int .u8))) :
    Calls Tryd.prog 31 #[.agg #[.int .i64 t, .bool k, .slice a n c], .agg #[.int .i64 t, .bool k, .slice b n d]] w fun e w' => e = .returned (.bool true) ∧ Ext w w' := by
  go_enter Tryd.func31, Tryd.ntmps31
  go_wp2_with fail
  refine (eqByteS_any a b c d n n xs xs _ (by omega) (by omega) (r1.ext (by (repeat (first | with_reducible exact Below.refl _ _ | assumption | with_reducible refine below_drewN ?_ _ | with_reducible refine Below.drew ?_ | with_reducible refine Below.setCell ?_ (by simp <;> omega) _ | with_reducible refine Ext.trans ?_ (Ext.alloc _ _))))) (r2.ext (by (repeat (first | with_reducible exact Below.refl _ _ | assumption | with_reducible refine below_drewN ?_ _ | with_reducible refine Below.drew ?_ | with_reducible refine Below.setCell ?_ (by simp <;> omega) _ | with_reducible refine Ext.trans ?_ (Ext.alloc _ _)))))).mono ?_
  rintro e w1 ⟨he, m, rfl⟩
  rw [decide_eq_true rfl] at he
  subst he
  go_wp2
  go_ret
  refine ⟨rfl, ?_⟩
  (repeat (first | with_reducible exact Below.refl _ _ | assumption | with_reducible refine below_drewN ?_ _ | with_reducible refine Below.drew ?_ | with_reducible refine Below.setCell ?_ (by simp <;> omega) _ | with_reducible refine Ext.trans ?_ (Ext.alloc _ _)))
theorem eqSampleS_same (a b : Option Addr) (c d n : Nat) (L : List Smp) (w : World) (hn : n < 2^40) (hL : ∀ x ∈ L, x.2.2.length < 2^45) (r1 : SP w a n L) (r2 : SP w b n L) :
    Calls Tryd.prog 15 #[.slice a n c, .slice b n d] w fun e w' => e = .returned (.bool true) ∧ Ext w w' := by
  go_enter Tryd.func15, Tryd.ntmps15
  go_wp2_with fail
  go_loopw [5] (fun i wr => ∃ (k : Nat), k ≤ n ∧ i = .int .i64 k ∧ Ext w wr) (fun i _ => n - (intOf i).toNat)
  case atStart => exact ⟨0, by omega, rfl, Below.refl _ _⟩
  case round =>
    obtain ⟨k, hk, rfl, E2⟩ := hrel
    by_cases hlt : k < n
    · obtain ⟨b1, o1, rfl, g1⟩ := (r1.ext E2).2 k hlt
      obtain ⟨a2, n2, c2, h1, h2, h3, h4, h5, h6, -⟩ := g1
      obtain ⟨b2, o2, rfl, g2⟩ := (r2.ext E2).2 k hlt
      obtain ⟨a3, n3, c3, j1, j2, j3, j4, j5, j6, -⟩ := g2
      obtain rfl : n2 = n3 := by rw [← h4.int_len, ← j4.int_len]
      have hn2 : n2 < 2^45 := by
        rw [← h4.int_len, sget_eq L k (by rw [r1.1]; exact hlt)]
        exact hL _ (List.getElem_mem _)
      clear r1 r2
      go_wp2_with fail
      have hext : ∀ (i : Nat) (own : Value) (ys : Nat → Value) (wa wb : World), Ext wa wb → (match i with | 0 => own = .slice (some ⟨b1, o1, none⟩) n c | 1 => own = .int .i64 k | 2 => own = .pointer (some ⟨b1, o1 + k * 3, none⟩) | 3 => own = .agg #[.int .i64 (sget L k).1, .bool (sget L k).2.1, .slice a2 n2 c2] | 4 => own = .slice (some ⟨b2, o2, none⟩) n d | 5 => own = .int .i64 k | 6 => own = .pointer (some ⟨b2, o2 + k * 3, none⟩) | 7 => own = .agg #[.int .i64 (sget L k).1, .bool (sget L k).2.1, .slice a3 n2 c3] | 8 => own = .bool true | 9 => own = .bool false | _ => True) → (match i with | 0 => own = .slice (some ⟨b1, o1, none⟩) n c | 1 => own = .int .i64 k | 2 => own = .pointer (some ⟨b1, o1 + k * 3, none⟩) | 3 => own = .agg #[.int .i64 (sget L k).1, .bool (sget L k).2.1, .slice a2 n2 c2] | 4 => own = .slice (some ⟨b2, o2, none⟩) n d | 5 => own = .int .i64 k | 6 => own = .pointer (some ⟨b2, o2 + k * 3, none⟩) | 7 => own = .agg #[.int .i64 (sget L k).1, .bool (sget L k).2.1, .slice a3 n2 c3] | 8 => own = .bool true | 9 => own = .bool false | _ => True) := by
        intro i own ys wa wb e h
        match i, h with
        | 0, h => exact h
        | 1, h => exact h
        | 2, h => exact h
        | 3, h => exact h
        | 4, h => exact h
        | 5, h => exact h
        | 6, h => exact h
        | 7, h => exact h
        | 8, h => exact h
        | 9, h => exact h
        | _ + 10, _ => trivial
      have Hext := Lib.hid hext
      clear hext
      refine wp_region_inv2 (by kernel_rfl) [(17, 0), (18, 1), (19, 2), (20, 3), (21, 4), (22, 5), (23, 6), (24, 7), (25, 8), (26, 9)] [[], [], [0, 1], [0, 1, 2], [], [], [4, 5], [4, 5, 6], [0, 1, 2, 3, 4, 5, 6, 7], [0, 1, 2, 3, 4, 5, 6, 7, 8]] (fun i own ys wx => match i with | 0 => own = .slice (some ⟨b1, o1, none⟩) n c | 1 => own = .int .i64 k | 2 => own = .pointer (some ⟨b1, o1 + k * 3, none⟩) | 3 => own = .agg #[.int .i64 (sget L k).1, .bool (sget L k).2.1, .slice a2 n2 c2] | 4 => own = .slice (some ⟨b2, o2, none⟩) n d | 5 => own = .int .i64 k | 6 => own = .pointer (some ⟨b2, o2 + k * 3, none⟩) | 7 => own = .agg #[.int .i64 (sget L k).1, .bool (sget L k).2.1, .slice a3 n2 c3] | 8 => own = .bool true | 9 => own = .bool false | _ => True) (fun kx wx => Ext wr wx) (by kernel_rfl) (by kernel_rfl) (by kernel_rfl) ?g0_r1 ?gop_r1 ?gend_r1
      case g0_r1 => exact Ext.drewN _ 1
      case gop_r1 =>
        refine ⟨?_, ?_, ?_, ?_, ?_, ?_, ?_, ?_, ?_, ?_, trivial⟩
        · intro kx xs wx hk hG hD hI Qo Kx hK hQo
          clear hD
          clear hI
          simp only [patchS, Nat.reduceAdd, Nat.reduceEqDiff, ↓reduceIte] at hQo ⊢
          go_wp2
          exact hK.out _ _ ⟨rfl, hG, fun _ _ _ _ _ _ h => h⟩
        · intro kx xs wx hk hG hD hI Qo Kx hK hQo
          clear hD
          clear hI
          simp only [patchS, Nat.reduceAdd, Nat.reduceEqDiff, ↓reduceIte] at hQo ⊢
          go_wp2
          exact hK.out _ _ ⟨rfl, hG, fun _ _ _ _ _ _ h => h⟩
        · intro kx xs wx hk hG hD hI Qo Kx hK hQo
          have d0 : (xs 0) = .slice (some ⟨b1, o1, none⟩) n c := hD 0 rfl
          have d1 : (xs 1) = .int .i64 k := hD 1 rfl
          clear hD
          clear hI
          simp only [patchS, Nat.reduceAdd, Nat.reduceEqDiff, ↓reduceIte] at hQo ⊢
          generalize xs 0 = y0 at *
          generalize xs 1 = y1 at *
          subst d0
          subst d1
          go_wp2
          exact hK.out _ _ ⟨rfl, hG, fun _ _ _ _ _ _ h => h⟩
        · intro kx xs wx hk hG hD hI Qo Kx hK hQo
          have d2 : (xs 2) = .pointer (some ⟨b1, o1 + k * 3, none⟩) := hD 2 rfl
          clear hD
          clear hI
          simp only [patchS, Nat.reduceAdd, Nat.reduceEqDiff, ↓reduceIte] at hQo ⊢
          generalize xs 2 = y2 at *
          subst d2
          have h1' := (cell_ext hG h1)
          have h2' := (cell_ext hG h2)
          have h3' := (cell_ext hG h3)
          go_wp2
          exact hK.out _ _ ⟨rfl, hG, fun _ _ _ _ _ _ h => h⟩
        · intro kx xs wx hk hG hD hI Qo Kx hK hQo
          clear hD
          clear hI
          simp only [patchS, Nat.reduceAdd, Nat.reduceEqDiff, ↓reduceIte] at hQo ⊢
          go_wp2
          exact hK.out _ _ ⟨rfl, hG, fun _ _ _ _ _ _ h => h⟩
        · intro kx xs wx hk hG hD hI Qo Kx hK hQo
          clear hD
          clear hI
          simp only [patchS, Nat.reduceAdd, Nat.reduceEqDiff, ↓reduceIte] at hQo ⊢
          go_wp2
          exact hK.out _ _ ⟨rfl, hG, fun _ _ _ _ _ _ h => h⟩
        · intro kx xs wx hk hG hD hI Qo Kx hK hQo
          have d4 : (xs 4) = .slice (some ⟨b2, o2, none⟩) n d := hD 4 rfl
          have d5 : (xs 5) = .int .i64 k := hD 5 rfl
          clear hD
          clear hI
          simp only [patchS, Nat.reduceAdd, Nat.reduceEqDiff, ↓reduceIte] at hQo ⊢
          generalize xs 4 = y4 at *
          generalize xs 5 = y5 at *
          subst d4
          subst d5
          go_wp2
          exact hK.out _ _ ⟨rfl, hG, fun _ _ _ _ _ _ h => h⟩
        · intro kx xs wx hk hG hD hI Qo Kx hK hQo
          have d6 : (xs 6) = .pointer (some ⟨b2, o2 + k * 3, none⟩) := hD 6 rfl
          clear hD
          clear hI
          simp only [patchS, Nat.reduceAdd, Nat.reduceEqDiff, ↓reduceIte] at hQo ⊢
          generalize xs 6 = y6 at *
          subst d6
          have h1' := (cell_ext hG j1)
          have h2' := (cell_ext hG j2)
          have h3' := (cell_ext hG j3)
          go_wp2
          exact hK.out _ _ ⟨rfl, hG, fun _ _ _ _ _ _ h => h⟩
        · intro kx xs wx hk hG hD hI Qo Kx hK hQo
          have d3 : (xs 3) = .agg #[.int .i64 (sget L k).1, .bool (sget L k).2.1, .slice a2 n2 c2] := hD 3 rfl
          have d7 : (xs 7) = .agg #[.int .i64 (sget L k).1, .bool (sget L k).2.1, .slice a3 n2 c3] := hD 7 rfl
          clear hD
          clear hI
          simp only [patchS, Nat.reduceAdd, Nat.reduceEqDiff, ↓reduceIte] at hQo ⊢
          generalize xs 3 = y3 at *
          generalize xs 7 = y7 at *
          subst d3
          subst d7
          go_wp2_with fail
          refine (eqSample_same _ _ a2 a3 c2 c3 n2 _ _ hn2 (h4.ext hG) (j4.ext hG)).mono ?_
          rintro e w4 ⟨rfl, e4⟩
          go_wp2
          exact hK.out _ _ ⟨rfl, hG.trans e4, fun i _ _ _ own ys h => Hext.out i own ys _ _ e4 h⟩
        · intro kx xs wx hk hG hD hI Qo Kx hK hQo
          have d8 : (xs 8) = .bool true := hD 8 rfl
          clear hD
          clear hI
          simp only [patchS, Nat.reduceAdd, Nat.reduceEqDiff, ↓reduceIte] at hQo ⊢
          generalize xs 8 = y8 at *
          subst d8
          go_wp2
          exact hK.out _ _ ⟨rfl, hG, fun _ _ _ _ _ _ h => h⟩
      clear Hext
      intro xs wx hV hG
      have d0 : (xs 0) = .slice (some ⟨b1, o1, none⟩) n c := hV 0 (by decide)
      have d1 : (xs 1) = .int .i64 k := hV 1 (by decide)
      have d2 : (xs 2) = .pointer (some ⟨b1, o1 + k * 3, none⟩) := hV 2 (by decide)
      have d3 : (xs 3) = .agg #[.int .i64 (sget L k).1, .bool (sget L k).2.1, .slice a2 n2 c2] := hV 3 (by decide)
      have d4 : (xs 4) = .slice (some ⟨b2, o2, none⟩) n d := hV 4 (by decide)
      have d5 : (xs 5) = .int .i64 k := hV 5 (by decide)
      have d6 : (xs 6) = .pointer (some ⟨b2, o2 + k * 3, none⟩) := hV 6 (by decide)
      have d7 : (xs 7) = .agg #[.int .i64 (sget L k).1, .bool (sget L k).2.1, .slice a3 n2 c3] := hV 7 (by decide)
      have d8 : (xs 8) = .bool true := hV 8 (by decide)
      have d9 : (xs 9) = .bool false := hV 9 (by decide)
      clear hV
      simp only [patchS, Nat.reduceAdd, Nat.reduceEqDiff, ↓reduceIte]
      generalize xs 0 = y0 at *
      generalize xs 1 = y1 at *
      generalize xs 2 = y2 at *
      generalize xs 3 = y3 at *
      generalize xs 4 = y4 at *
      generalize xs 5 = y5 at *
      generalize xs 6 = y6 at *
      generalize xs 7 = y7 at *
      generalize xs 8 = y8 at *
      generalize xs 9 = y9 at *
      replace hG : Ext wr wx := hG
      subst d0
      subst d1
      subst d2
      subst d3
      subst d4
      subst d5
      subst d6
      subst d7
      subst d8
      subst d9
      go_wp2
      go_roundw
      case rel => exact ⟨k + 1, by omega, by go_num, E2.trans hG⟩
      case measure => simp [intOf]; omega
    · obtain rfl : k = n := by omega
      go_wp2
      go_ret
      exact ⟨rfl, E2⟩
end Go.Proofs.YtpjjadmjdafkeaaDoor
