/- FnSamplesValid: the walk of the law. -/
import Derived.Test.YtmcdlkbofhdnlaaLawH1
import Derived.Test.YtmcdlkbofhdnlaaKeep
namespace Go.Proofs.Ytmcdlkbofhdnlaa
open Go.RowKit
set_option maxHeartbeats 400000
theorem DrawSamplesValid_any (a : Option Addr) (c n : Nat) (zs : List Int) (w : World) (hc : n ≤ c) (hc2 : c ≤ 9223372036854775807) (r : Sl w a n (zs.map (Value.int .u8))) (hz : ∀ z ∈ zs, 0 ≤ z ∧ z ≤ 255) :
    Calls Try.prog 13 #[.slice a n c] w fun e w' => ∃ (a : Option Addr) (c : Nat) (L : List Smp), e = .returned (.slice a L.length c) ∧ SE w' w.heap.size (.slice a L.length c) L ∧ L.length ≤ 5 ∧ (∀ x ∈ L, smpOk x) ∧ Ext w w' := by
  go_enter Try.func13, Try.ntmps13
  go_wp2_with fail
  refine (open_any a c n zs _ hc hc2 r hz).mono ?_
  rintro e w1 ⟨b, rfl, rd, e1, hb⟩
  have hrd : RdP w1 b 0 := ⟨0, Nat.le_refl _, rd⟩
  clear r hz rd
  go_wp2_with fail
  refine (l20Entries_c b 0 2 _ hrd (by omega) (by omega) (by omega)).mono ?_
  rintro e w2 ⟨v, L, rfl, S2, h1, h2, r2, g2⟩
  obtain ⟨a2, c2, rfl⟩ := S2.form
  have hs1 := e1.size
  have HL := Lib.hid h2
  have EE : Ext w w2 := Ext.grown e1 g2 (fun k hk => by simp at hk; omega)
  clear h2 hrd g2 r2 e1
  go_wp2
  go_ret
  exact ⟨a2, c2, L, rfl, S2.mono hs1, h1, HL.out, EE⟩
theorem svalid_take {L : List Smp} (h : svalid L = true) (m : Nat) : svalid (L.take m) = true := by
  obtain ⟨h1, h2⟩ := svalid_iff.1 h
  refine svalid_yes (by rw [List.length_take]; omega) fun j hj => ?_
  rw [List.length_take] at hj
  have hg : ∀ i, i ≤ j → sget (L.take m) i = sget L i := fun i hi => by simp [sget, List.getElem?_take, show i < m by omega]
  have := h2 j (by omega)
  unfold sok at this ⊢
  rw [hg j (Nat.le_refl _), hg (j - 1) (by omega)]
  exact this
theorem svalid_again {L : List Smp} (h : svalid L = true) (h0 : 0 < L.length) : svalid (L ++ [sget L 0]) = false := by
  obtain ⟨h1, h2⟩ := svalid_iff.1 h
  have hmono : ∀ j, j < L.length → (sget L 0).1 ≤ (sget L j).1 := by
    intro j
    induction j with
    | zero => intro _; exact Int.le_refl _
    | succ j ih =>
      intro hj
      have := ih (by omega)
      have := (h2 (j + 1) hj).2.2.2 (by omega)
      simp at this
      omega
  refine svalid_no (k := L.length) (by simp) fun hs => ?_
  have h3 := hs.2.2.2 h0
  have e1 : sget (L ++ [sget L 0]) L.length = sget L 0 := by simp [sget]
  have e2 : sget (L ++ [sget L 0]) (L.length - 1) = sget L (L.length - 1) := by simp [sget, List.getElem?_append_left (show L.length - 1 < L.length by omega)]
  rw [e1, e2] at h3
  have := hmono (L.length - 1) (by omega)
  omega
theorem SP.take {w : World} {a : Option Addr} {n m : Nat} {L : List Smp} (h : SP w a n L) (hm : m ≤ n) : SP w a m (L.take m) := by
  refine ⟨by rw [List.length_take, h.1]; omega, fun i hi => ?_⟩
  have e : sget (L.take m) i = sget L i := by simp [sget, List.getElem?_take, hi]
  rw [e]
  exact h.2 i (by omega)
theorem SE.app0 {w w' : World} {lo : Nat} {L : List Smp} {cs : List Value} {v' u0 u1 u2 : Value} (q : ∀ i, i < L.length → SEa w lo cs i (sget L i)) (hcl : cs.length = L.length * 3)
    (hu : cs[0]? = some u0 ∧ cs[1]? = some u1 ∧ cs[2]? = some u2) (h0 : 0 < L.length) (own : w'.ownsRow lo 28 3 v' (L.length + 1) (cs ++ [u0, u1, u2])) (e : Ext w w') : SE w' lo v' (L ++ [sget L 0]) := by
  refine ⟨cs ++ [u0, u1, u2], by simpa using own, fun i hi => ?_⟩
  by_cases hil : i < L.length
  · obtain ⟨a', c', h4, h5, h6, h7⟩ := q i hil
    have he : sget (L ++ [sget L 0]) i = sget L i := by simp [sget, List.getElem?_append_left hil]
    rw [he]
    exact ⟨a', c', by rw [List.getElem?_append_left (by omega)]; exact h4, by rw [List.getElem?_append_left (by omega)]; exact h5, by rw [List.getElem?_append_left (by omega)]; exact h6, owns_ext h7 e⟩
  · have hie : i = L.length := by simp at hi; omega
    subst hie
    obtain ⟨a', c', h4, h5, h6, h7⟩ := q 0 h0
    have he : sget (L ++ [sget L 0]) L.length = sget L 0 := by simp [sget]
    rw [he]
    rw [Nat.zero_mul, hu.1] at h4
    rw [Nat.zero_mul, Nat.zero_add, hu.2.1] at h5
    rw [Nat.zero_mul, Nat.zero_add, hu.2.2] at h6
    refine ⟨a', c', ?_, ?_, ?_, owns_ext h7 e⟩
    · rw [List.getElem?_append_right (by omega), show L.length * 3 - cs.length = 0 by omega]; exact h4
    · rw [List.getElem?_append_right (by omega), show L.length * 3 + 1 - cs.length = 1 by omega]; exact h5
    · rw [List.getElem?_append_right (by omega), show L.length * 3 + 2 - cs.length = 2 by omega]; exact h6
set_option maxRecDepth 100000 in
set_option maxHeartbeats 4000000 in
theorem law_FnSamplesValid (a : Option Addr) (c n : Nat) (zs : List Int) (w : World) (hn0 : n ≤ c ∧ c ≤ maxLen) (sl : Sl w a n (zs.map (Value.int .u8))) (wf : ∀ z ∈ zs, (Lit.int .u8 z).wf = true) :
    Calls Try.prog 3 #[.slice a n c] w fun e w' => e = .returned (.bool true) ∧ Ext w w' := by
  have hn : n ≤ c ∧ c ≤ 9223372036854775807 := ⟨hn0.1, hn0.2⟩
  clear hn0
  have hz := Lib.hid (byte_range4 wf)
  clear wf
  by_cases hbig : 1048576 < n
  · go_enter Try.func3, Try.ntmps3
    go_wp2
    go_ret
    refine ⟨rfl, ?_⟩
    (repeat (first | with_reducible exact Below.refl _ _ | assumption | with_reducible refine below_drewN ?_ _ | with_reducible refine Below.drew ?_ | with_reducible refine Below.setCell ?_ (by simp <;> omega) _ | with_reducible refine Ext.trans ?_ (Ext.alloc _ _)))
  go_enter Try.func3, Try.ntmps3
  go_wp2_with fail
  refine (DrawSamplesValid_any a c n zs _ hn.1 hn.2 (sl.ext (by (repeat (first | with_reducible exact Below.refl _ _ | assumption | with_reducible refine below_drewN ?_ _ | with_reducible refine Below.drew ?_ | with_reducible refine Below.setCell ?_ (by simp <;> omega) _ | with_reducible refine Ext.trans ?_ (Ext.alloc _ _))))) hz.out).mono ?_
  rintro e w1 ⟨a1, c1, L, rfl, S1, hl1, hL, e1⟩
  have E1 : Ext w w1 := by refine Ext.trans ?_ e1; (repeat (first | with_reducible exact Below.refl _ _ | assumption | with_reducible refine below_drewN ?_ _ | with_reducible refine Below.drew ?_ | with_reducible refine Below.setCell ?_ (by simp <;> omega) _ | with_reducible refine Ext.trans ?_ (Ext.alloc _ _)))
  clear sl hz e1 hL
  obtain ⟨N, hN⟩ : ∃ N, N = L.length := ⟨_, rfl⟩
  rw [← hN] at S1 hl1 ⊢
  have sp := S1.toSP
  have HN := Lib.hid hN
  clear hN
  go_wp2_with fail
  refine (impl_SamplesValid_any a1 c1 N L _ (by omega) sp).mono ?_
  rintro e w2 ⟨rfl, e2⟩
  have E2 := E1.trans e2
  have S2 := S1.ext e2
  clear E1 e2 sp S1
  have sp2 := S2.toSP
  go_wp2_with fail
  refine (spec_SamplesValid_any a1 c1 N L _ (by omega) sp2).mono ?_
  rintro e w3 ⟨rfl, m, rfl⟩
  have E3 : Ext w (w2.drewN m) := below_drewN E2 m
  have S3 : SE (w2.drewN m) w.heap.size (.slice a1 N c1) L := S2.ext (Ext.drewN w2 m)
  clear E2 S2 sp2
  generalize w2.drewN m = w4 at *
  by_cases hv : svalid L = true
  · rw [hv]
    by_cases h0 : N = 0
    · subst h0
      go_wp2_with fail
      refine (alive_any _).mono ?_
      rintro e w5 ⟨rfl, e5⟩
      go_wp2
      go_ret
      exact ⟨rfl, E3.trans e5⟩
    · obtain ⟨M, rfl⟩ : ∃ M, N = M + 1 := ⟨N - 1, by omega⟩
      have hb0 : (((M + 1 : Nat) : Int) == 0) = false := by simp; omega
      have hM1 : ((M + 1 : Nat) : Int) - 1 = (M : Int) := by omega
      have htk := svalid_take hv M
      have hag := svalid_again hv (by rw [← HN.out]; omega)
      have Htk := Lib.hid htk
      have Hag := Lib.hid hag
      have hLN : L.length = M + 1 := HN.out.symm
      have spT := (S3.toSP).take (show M ≤ M + 1 by omega)
      obtain ⟨cs, o4, q4⟩ := S3
      rw [hLN] at o4 q4
      have hcl : cs.length = (M + 1) * 3 := o4.1
      obtain ⟨g, cap, hvv⟩ : ∃ g cap, (Value.slice a1 (M + 1) c1) = .slice (some ⟨g, 0, none⟩) (M + 1) cap := by
        rcases id o4.2 with ⟨hv, h0'⟩ | ⟨g, cap, cur, hv, -⟩
        · omega
        · exact ⟨g, cap, hv⟩
      simp only [Value.slice.injEq, true_and] at hvv
      obtain ⟨rfl, rfl⟩ := hvv
      have hcap := owns_cap o4
      unfold maxLen at hcap
      obtain ⟨hcap1, hcap2⟩ := hcap
      obtain ⟨u0, hu0⟩ : ∃ u, cs[0]? = some u := ⟨_, List.getElem?_eq_getElem (by omega)⟩
      obtain ⟨u1, hu1⟩ : ∃ u, cs[1]? = some u := ⟨_, List.getElem?_eq_getElem (by omega)⟩
      obtain ⟨u2, hu2⟩ : ∃ u, cs[2]? = some u := ⟨_, List.getElem?_eq_getElem (by omega)⟩
      obtain ⟨b0, b1, b2⟩ : w4.cell? ⟨g, 0, none⟩ = some u0 ∧ w4.cell? ⟨g, 1, none⟩ = some u1 ∧ w4.cell? ⟨g, 2, none⟩ = some u2 := by
        refine ⟨?_, ?_, ?_⟩
        · rw [o4.cellAt 0 (by omega)]; exact hu0
        · rw [o4.cellAt 1 (by omega)]; exact hu1
        · rw [o4.cellAt 2 (by omega)]; exact hu2
      have hone : ∀ u ∈ cs, u.oneCell' = true := by
        intro u hu
        obtain ⟨i, hi, rfl⟩ := List.getElem_of_mem hu
        obtain ⟨a5, c5, k0, k1, k2, -⟩ := q4 (i / 3) (by omega)
        have hi3 : i % 3 = 0 ∨ i % 3 = 1 ∨ i % 3 = 2 := by omega
        rcases hi3 with h | h | h
        · rw [show i / 3 * 3 = i by omega, List.getElem?_eq_getElem hi] at k0
          simp only [Option.some.injEq] at k0; rw [k0]; rfl
        · rw [show i / 3 * 3 + 1 = i by omega, List.getElem?_eq_getElem hi] at k1
          simp only [Option.some.injEq] at k1; rw [k1]; rfl
        · rw [show i / 3 * 3 + 2 = i by omega, List.getElem?_eq_getElem hi] at k2
          simp only [Option.some.injEq] at k2; rw [k2]; rfl
      obtain ⟨a5, c5, k0, k1, k2, -⟩ := q4 0 (by omega)
      rw [Nat.zero_mul, hu0] at k0
      rw [Nat.zero_mul, Nat.zero_add, hu1] at k1
      rw [Nat.zero_mul, Nat.zero_add, hu2] at k2
      simp only [Option.some.injEq] at k0 k1 k2
      subst k0 k1 k2
      have Hcu := Lib.hid (And.intro hu0 (And.intro hu1 hu2))
      generalize (sget L 0).1 = T0 at *
      generalize (sget L 0).2.1 = K0 at *
      generalize (sget L 0).2.2.length = l0 at *
      have Q4 := Lib.hid q4
      have Hcl := Lib.hid hcl
      have Hone := Lib.hid hone
      have HLN := Lib.hid hLN
      have hB : w.heap.size ≤ w4.heap.size := E3.size
      clear htk hag hv q4 hcl hone hLN hu0 hu1 hu2 HN
      go_wp2_with fail
      have hext : ∀ (i : Nat) (own : Value) (ys : Nat → Value) (wa wb : World), Ext wa wb → (match i with | 0 => own = .slice (some ⟨g, 0, none⟩) (M + 1) c1 | 1 => own = .slice (some ⟨g, 0, none⟩) (M + 1) c1 | 2 => own = .int .i64 ((M + 1 : Nat) : Int) | 3 => own = .int .i64 (M : Int) | 4 => own = .slice (some ⟨g, 0, none⟩) M c1 | 5 => own = .bool true | 6 => own = .bool true | 7 => ∃ (g7 : Nat), own = .slice (some ⟨g7, 0, none⟩) 0 0 ∧ wa.ownsRow w4.heap.size 28 3 (.slice (some ⟨g7, 0, none⟩) 0 0) 0 [] | 8 => own = .slice (some ⟨g, 0, none⟩) (M + 1) c1 | 9 => ∃ (g9 c9 : Nat), own = .slice (some ⟨g9, 0, none⟩) (M + 1) c9 ∧ wa.ownsRow w4.heap.size 28 3 (.slice (some ⟨g9, 0, none⟩) (M + 1) c9) (M + 1) cs | 10 => own = .slice (some ⟨g, 0, none⟩) (M + 1) c1 | 11 => own = .pointer (some ⟨g, 0, none⟩) | 12 => own = .agg #[.int .i64 T0, .bool K0, .slice a5 l0 c5] | 13 => ∃ (q : Nat), own = .slice (some ⟨q, 0, none⟩) 1 1 ∧ wa.ownsRow w4.heap.size 28 3 (.slice (some ⟨q, 0, none⟩) 1 1) 1 [.int .i64 T0, .bool K0, .slice a5 l0 c5] | 14 => ∃ (a14 : Option Addr) (c14 : Nat), own = .slice a14 (M + 1 + 1) c14 ∧ wa.ownsRow w4.heap.size 28 3 (.slice a14 (M + 1 + 1) c14) (M + 1 + 1) (cs ++ [.int .i64 T0, .bool K0, .slice a5 l0 c5]) | 15 => own = .bool false | 16 => own = .bool true | 17 => own = .bool true | 18 => own = .bool true | _ => True) → (match i with | 0 => own = .slice (some ⟨g, 0, none⟩) (M + 1) c1 | 1 => own = .slice (some ⟨g, 0, none⟩) (M + 1) c1 | 2 => own = .int .i64 ((M + 1 : Nat) : Int) | 3 => own = .int .i64 (M : Int) | 4 => own = .slice (some ⟨g, 0, none⟩) M c1 | 5 => own = .bool true | 6 => own = .bool true | 7 => ∃ (g7 : Nat), own = .slice (some ⟨g7, 0, none⟩) 0 0 ∧ wb.ownsRow w4.heap.size 28 3 (.slice (some ⟨g7, 0, none⟩) 0 0) 0 [] | 8 => own = .slice (some ⟨g, 0, none⟩) (M + 1) c1 | 9 => ∃ (g9 c9 : Nat), own = .slice (some ⟨g9, 0, none⟩) (M + 1) c9 ∧ wb.ownsRow w4.heap.size 28 3 (.slice (some ⟨g9, 0, none⟩) (M + 1) c9) (M + 1) cs | 10 => own = .slice (some ⟨g, 0, none⟩) (M + 1) c1 | 11 => own = .pointer (some ⟨g, 0, none⟩) | 12 => own = .agg #[.int .i64 T0, .bool K0, .slice a5 l0 c5] | 13 => ∃ (q : Nat), own = .slice (some ⟨q, 0, none⟩) 1 1 ∧ wb.ownsRow w4.heap.size 28 3 (.slice (some ⟨q, 0, none⟩) 1 1) 1 [.int .i64 T0, .bool K0, .slice a5 l0 c5] | 14 => ∃ (a14 : Option Addr) (c14 : Nat), own = .slice a14 (M + 1 + 1) c14 ∧ wb.ownsRow w4.heap.size 28 3 (.slice a14 (M + 1 + 1) c14) (M + 1 + 1) (cs ++ [.int .i64 T0, .bool K0, .slice a5 l0 c5]) | 15 => own = .bool false | 16 => own = .bool true | 17 => own = .bool true | 18 => own = .bool true | _ => True) := by
        intro i own ys wa wb e h
        match i, h with
        | 0, h => exact h
        | 1, h => exact h
        | 2, h => exact h
        | 3, h => exact h
        | 4, h => exact h
        | 5, h => exact h
        | 6, h => exact h
        | 7, h => obtain ⟨g7, h1, h2⟩ := h; exact ⟨g7, h1, owns_ext h2 e⟩
        | 8, h => exact h
        | 9, h => obtain ⟨g9, c9, h1, h2⟩ := h; exact ⟨g9, c9, h1, owns_ext h2 e⟩
        | 10, h => exact h
        | 11, h => exact h
        | 12, h => exact h
        | 13, h => obtain ⟨q, h1, h2⟩ := h; exact ⟨q, h1, owns_ext h2 e⟩
        | 14, h => obtain ⟨a14, c14, h1, h2⟩ := h; exact ⟨a14, c14, h1, owns_ext h2 e⟩
        | 15, h => exact h
        | 16, h => exact h
        | 17, h => exact h
        | 18, h => exact h
        | _ + 19, _ => trivial
      have Hext := Lib.hid hext
      clear hext
      refine wp_region_inv2 (by kernel_rfl) [(2, 18), (24, 0), (25, 1), (26, 2), (27, 3), (28, 4), (29, 5), (30, 6), (31, 7), (32, 8), (33, 9), (34, 10), (35, 11), (36, 12), (37, 13), (38, 14), (39, 15), (40, 16), (41, 17)] [[], [], [1], [1, 2], [0, 1, 2, 3], [0, 1, 2, 3, 4], [0, 1, 2, 3, 4, 5], [0, 1, 2, 3, 4, 5, 6], [0, 1, 2, 3, 4, 5, 6], [0, 1, 2, 3, 4, 5, 6, 7, 8], [0, 1, 2, 3, 4, 5, 6], [0, 1, 2, 3, 4, 5, 6, 10], [0, 1, 2, 3, 4, 5, 6, 10, 11], [0, 1, 2, 3, 4, 5, 6, 10, 11, 12], [0, 1, 2, 3, 4, 5, 6, 7, 8, 9, 10, 11, 12, 13], [0, 1, 2, 3, 4, 5, 6, 7, 8, 9, 10, 11, 12, 13, 14], [0, 1, 2, 3, 4, 5, 6, 7, 8, 9, 10, 11, 12, 13, 14, 15], [0, 1, 2, 3, 4, 5, 6, 7, 8, 9, 10, 11, 12, 13, 14, 15, 16], [0, 1, 2, 3, 4, 5, 6, 7, 8, 9, 10, 11, 12, 13, 14, 15, 16, 17]] (fun i own ys wx => match i with | 0 => own = .slice (some ⟨g, 0, none⟩) (M + 1) c1 | 1 => own = .slice (some ⟨g, 0, none⟩) (M + 1) c1 | 2 => own = .int .i64 ((M + 1 : Nat) : Int) | 3 => own = .int .i64 (M : Int) | 4 => own = .slice (some ⟨g, 0, none⟩) M c1 | 5 => own = .bool true | 6 => own = .bool true | 7 => ∃ (g7 : Nat), own = .slice (some ⟨g7, 0, none⟩) 0 0 ∧ wx.ownsRow w4.heap.size 28 3 (.slice (some ⟨g7, 0, none⟩) 0 0) 0 [] | 8 => own = .slice (some ⟨g, 0, none⟩) (M + 1) c1 | 9 => ∃ (g9 c9 : Nat), own = .slice (some ⟨g9, 0, none⟩) (M + 1) c9 ∧ wx.ownsRow w4.heap.size 28 3 (.slice (some ⟨g9, 0, none⟩) (M + 1) c9) (M + 1) cs | 10 => own = .slice (some ⟨g, 0, none⟩) (M + 1) c1 | 11 => own = .pointer (some ⟨g, 0, none⟩) | 12 => own = .agg #[.int .i64 T0, .bool K0, .slice a5 l0 c5] | 13 => ∃ (q : Nat), own = .slice (some ⟨q, 0, none⟩) 1 1 ∧ wx.ownsRow w4.heap.size 28 3 (.slice (some ⟨q, 0, none⟩) 1 1) 1 [.int .i64 T0, .bool K0, .slice a5 l0 c5] | 14 => ∃ (a14 : Option Addr) (c14 : Nat), own = .slice a14 (M + 1 + 1) c14 ∧ wx.ownsRow w4.heap.size 28 3 (.slice a14 (M + 1 + 1) c14) (M + 1 + 1) (cs ++ [.int .i64 T0, .bool K0, .slice a5 l0 c5]) | 15 => own = .bool false | 16 => own = .bool true | 17 => own = .bool true | 18 => own = .bool true | _ => True) (fun kx wx => Ext w4 wx) (by kernel_rfl) (by kernel_rfl) (by kernel_rfl) ?g0_r1 ?gop_r1 ?gend_r1
      case g0_r1 => exact Ext.drewN _ 1
      case gop_r1 =>
        refine ⟨?_, ?_, ?_, ?_, ?_, ?_, ?_, ?_, ?_, ?_, ?_, ?_, ?_, ?_, ?_, ?_, ?_, ?_, ?_, trivial⟩
        · intro kx xs wx hk hG hD Qo Kx hK hQo
          clear hD
          simp only [patchS, Nat.reduceAdd, Nat.reduceEqDiff, ↓reduceIte] at hQo ⊢
          go_wp2
          exact hK.out _ _ ⟨rfl, hG, fun _ _ _ _ _ _ h => h⟩
        · intro kx xs wx hk hG hD Qo Kx hK hQo
          clear hD
          simp only [patchS, Nat.reduceAdd, Nat.reduceEqDiff, ↓reduceIte] at hQo ⊢
          go_wp2
          exact hK.out _ _ ⟨rfl, hG, fun _ _ _ _ _ _ h => h⟩
        · intro kx xs wx hk hG hD Qo Kx hK hQo
          have d1 : (xs 1) = .slice (some ⟨g, 0, none⟩) (M + 1) c1 := hD 1 rfl
          clear hD
          simp only [patchS, Nat.reduceAdd, Nat.reduceEqDiff, ↓reduceIte] at hQo ⊢
          generalize xs 1 = y1 at *
          subst d1
          go_wp2
          exact hK.out _ _ ⟨rfl, hG, fun _ _ _ _ _ _ h => h⟩
        · intro kx xs wx hk hG hD Qo Kx hK hQo
          have d2 : (xs 2) = .int .i64 ((M + 1 : Nat) : Int) := hD 2 rfl
          clear hD
          simp only [patchS, Nat.reduceAdd, Nat.reduceEqDiff, ↓reduceIte] at hQo ⊢
          generalize xs 2 = y2 at *
          subst d2
          go_wp2
          exact hK.out _ _ ⟨by first | rfl | (simp; done) | (congr 1; omega), hG, fun _ _ _ _ _ _ h => h⟩
        · intro kx xs wx hk hG hD Qo Kx hK hQo
          have d0 : (xs 0) = .slice (some ⟨g, 0, none⟩) (M + 1) c1 := hD 0 rfl
          have d3 : (xs 3) = .int .i64 (M : Int) := hD 3 rfl
          clear hD
          simp only [patchS, Nat.reduceAdd, Nat.reduceEqDiff, ↓reduceIte] at hQo ⊢
          generalize xs 0 = y0 at *
          generalize xs 3 = y3 at *
          subst d0
          subst d3
          go_wp2
          exact hK.out _ _ ⟨rfl, hG, fun _ _ _ _ _ _ h => h⟩
        · intro kx xs wx hk hG hD Qo Kx hK hQo
          have d4 : (xs 4) = .slice (some ⟨g, 0, none⟩) M c1 := hD 4 rfl
          clear hD
          simp only [patchS, Nat.reduceAdd, Nat.reduceEqDiff, ↓reduceIte] at hQo ⊢
          generalize xs 4 = y4 at *
          subst d4
          go_wp2_with fail
          refine (impl_SamplesValid_any (some ⟨g, 0, none⟩) c1 M (L.take M) _ (by omega) (spT.ext hG)).mono ?_
          rintro e w6 ⟨rfl, e6⟩
          rw [Htk.out]
          go_wp2
          exact hK.out _ _ ⟨rfl, hG.trans e6, fun i _ _ _ own ys h => Hext.out i own ys _ _ e6 h⟩
        · intro kx xs wx hk hG hD Qo Kx hK hQo
          have d5 : (xs 5) = .bool true := hD 5 rfl
          clear hD
          simp only [patchS, Nat.reduceAdd, Nat.reduceEqDiff, ↓reduceIte] at hQo ⊢
          generalize xs 5 = y5 at *
          subst d5
          go_wp2
          exact hK.out _ _ ⟨rfl, hG, fun _ _ _ _ _ _ h => h⟩
        · intro kx xs wx hk hG hD Qo Kx hK hQo
          have d6 : (xs 6) = .bool true := hD 6 rfl
          clear hD
          simp only [patchS, Nat.reduceAdd, Nat.reduceEqDiff, ↓reduceIte] at hQo ⊢
          generalize xs 6 = y6 at *
          subst d6
          have e5 := Ext.alloc wx (.cells #[] 28)
          have o5 := World.ownsRow_made (base := w4.heap.size) (e := 28) (size := 3) wx #[] 0 hG.size (by simp) rfl
          go_wp2
          exact hK.out _ _ ⟨⟨_, rfl, o5⟩, hG.trans e5, fun i _ _ _ own ys h => Hext.out i own ys _ _ e5 h⟩
        · intro kx xs wx hk hG hD Qo Kx hK hQo
          have d6 : (xs 6) = .bool true := hD 6 rfl
          clear hD
          simp only [patchS, Nat.reduceAdd, Nat.reduceEqDiff, ↓reduceIte] at hQo ⊢
          generalize xs 6 = y6 at *
          subst d6
          go_wp2
          exact hK.out _ _ ⟨rfl, hG, fun _ _ _ _ _ _ h => h⟩
        · intro kx xs wx hk hG hD Qo Kx hK hQo
          have d7 : ∃ (g7 : Nat), (xs 7) = .slice (some ⟨g7, 0, none⟩) 0 0 ∧ wx.ownsRow w4.heap.size 28 3 (.slice (some ⟨g7, 0, none⟩) 0 0) 0 [] := hD 7 rfl
          have d8 : (xs 8) = .slice (some ⟨g, 0, none⟩) (M + 1) c1 := hD 8 rfl
          have d6 : (xs 6) = .bool true := hD 6 rfl
          clear hD
          simp only [patchS, Nat.reduceAdd, Nat.reduceEqDiff, ↓reduceIte] at hQo ⊢
          generalize xs 7 = y7 at *
          generalize xs 8 = y8 at *
          generalize xs 6 = y6 at *
          obtain ⟨g7, rfl, o7⟩ := d7
          subst d8
          subst d6
          have o4x := owns_ext o4 hG
          refine wpList_appn _ rfl o7 hG.size _ _ _ rfl (.agg #[.int .i64 0, .bool false, .slice none 0 0]) 40 Try.underlying23 info_Sample rfl (by decide) rfl ⟨g, 0, none⟩ (M + 1) c1 cs rfl Hcl.out (o4x.cells rfl) Hone.out (by omega) (by omega) (by omega) ?_
          intro v9 w9 own9 e9
          rw [Nat.zero_add, List.nil_append] at own9
          obtain ⟨g9, c9, hv9⟩ : ∃ g9 c9, v9 = .slice (some ⟨g9, 0, none⟩) (M + 1) c9 := by
            rcases id own9.2 with ⟨hv, h0'⟩ | ⟨g, cap, cur, hv, -⟩
            · omega
            · exact ⟨g, cap, hv⟩
          subst hv9
          exact hQo _ _ (hK.out _ _ ⟨⟨_, _, rfl, own9⟩, hG.trans e9, fun i _ _ _ own ys h => Hext.out i own ys _ _ e9 h⟩)
        · intro kx xs wx hk hG hD Qo Kx hK hQo
          have d6 : (xs 6) = .bool true := hD 6 rfl
          clear hD
          simp only [patchS, Nat.reduceAdd, Nat.reduceEqDiff, ↓reduceIte] at hQo ⊢
          generalize xs 6 = y6 at *
          subst d6
          go_wp2
          exact hK.out _ _ ⟨rfl, hG, fun _ _ _ _ _ _ h => h⟩
        · intro kx xs wx hk hG hD Qo Kx hK hQo
          have d10 : (xs 10) = .slice (some ⟨g, 0, none⟩) (M + 1) c1 := hD 10 rfl
          have d6 : (xs 6) = .bool true := hD 6 rfl
          clear hD
          simp only [patchS, Nat.reduceAdd, Nat.reduceEqDiff, ↓reduceIte] at hQo ⊢
          generalize xs 10 = y10 at *
          generalize xs 6 = y6 at *
          subst d10
          subst d6
          go_wp2
          exact hK.out _ _ ⟨rfl, hG, fun _ _ _ _ _ _ h => h⟩
        · intro kx xs wx hk hG hD Qo Kx hK hQo
          have d11 : (xs 11) = .pointer (some ⟨g, 0, none⟩) := hD 11 rfl
          have d6 : (xs 6) = .bool true := hD 6 rfl
          clear hD
          simp only [patchS, Nat.reduceAdd, Nat.reduceEqDiff, ↓reduceIte] at hQo ⊢
          generalize xs 11 = y11 at *
          generalize xs 6 = y6 at *
          subst d11
          subst d6
          have f0 := cell_ext hG b0
          have f1 := cell_ext hG b1
          have f2 := cell_ext hG b2
          go_wp2
          exact hK.out _ _ ⟨rfl, hG, fun _ _ _ _ _ _ h => h⟩
        · intro kx xs wx hk hG hD Qo Kx hK hQo
          have d12 : (xs 12) = .agg #[.int .i64 T0, .bool K0, .slice a5 l0 c5] := hD 12 rfl
          have d6 : (xs 6) = .bool true := hD 6 rfl
          clear hD
          simp only [patchS, Nat.reduceAdd, Nat.reduceEqDiff, ↓reduceIte] at hQo ⊢
          generalize xs 12 = y12 at *
          generalize xs 6 = y6 at *
          subst d12
          subst d6
          have e5 := Ext.alloc wx (.cells #[.int .i64 T0, .bool K0, .slice a5 l0 c5] 28)
          have o5 := World.ownsRow_lit (base := w4.heap.size) (e := 28) (size := 3) wx #[.int .i64 T0, .bool K0, .slice a5 l0 c5] 1 hG.size (by unfold maxLen; omega) rfl
          go_wp2
          exact hK.out _ _ ⟨⟨_, rfl, o5⟩, hG.trans e5, fun i _ _ _ own ys h => Hext.out i own ys _ _ e5 h⟩
        · intro kx xs wx hk hG hD Qo Kx hK hQo
          have d9 : ∃ (g9 c9 : Nat), (xs 9) = .slice (some ⟨g9, 0, none⟩) (M + 1) c9 ∧ wx.ownsRow w4.heap.size 28 3 (.slice (some ⟨g9, 0, none⟩) (M + 1) c9) (M + 1) cs := hD 9 rfl
          have d13 : ∃ (q : Nat), (xs 13) = .slice (some ⟨q, 0, none⟩) 1 1 ∧ wx.ownsRow w4.heap.size 28 3 (.slice (some ⟨q, 0, none⟩) 1 1) 1 [.int .i64 T0, .bool K0, .slice a5 l0 c5] := hD 13 rfl
          have d6 : (xs 6) = .bool true := hD 6 rfl
          clear hD
          simp only [patchS, Nat.reduceAdd, Nat.reduceEqDiff, ↓reduceIte] at hQo ⊢
          generalize xs 9 = y9 at *
          generalize xs 13 = y13 at *
          generalize xs 6 = y6 at *
          obtain ⟨g9, c9, rfl, o9⟩ := d9
          obtain ⟨q, rfl, o13⟩ := d13
          subst d6
          refine wpList_appk _ rfl o9 hG.size _ _ _ rfl (.agg #[.int .i64 0, .bool false, .slice none 0 0]) 40 Try.underlying23 info_Sample rfl (by decide) rfl ⟨q, 0, none⟩ 1 1 _ rfl rfl (o13.cells rfl) (by intro u hu; simp at hu; rcases hu with rfl | rfl | rfl <;> rfl) (by omega) (by omega) ?_
          intro v14 w14 own14 gr14 keep14
          obtain ⟨a14, c14, rfl⟩ := owns_form own14
          have hst : ∀ (wy : World), (∀ b' n' own xs', n' ≤ M + 1 → wx.ownsRow b' 28 3 own n' xs' → wy.ownsRow b' 28 3 own n' xs') → ∀ (ii : Nat), ii < 19 → ii ≠ 14 → ([[], [], [1], [1, 2], [0, 1, 2, 3], [0, 1, 2, 3, 4], [0, 1, 2, 3, 4, 5], [0, 1, 2, 3, 4, 5, 6], [0, 1, 2, 3, 4, 5, 6], [0, 1, 2, 3, 4, 5, 6, 7, 8], [0, 1, 2, 3, 4, 5, 6], [0, 1, 2, 3, 4, 5, 6, 10], [0, 1, 2, 3, 4, 5, 6, 10, 11], [0, 1, 2, 3, 4, 5, 6, 10, 11, 12], [0, 1, 2, 3, 4, 5, 6, 7, 8, 9, 10, 11, 12, 13], [0, 1, 2, 3, 4, 5, 6, 7, 8, 9, 10, 11, 12, 13, 14], [0, 1, 2, 3, 4, 5, 6, 7, 8, 9, 10, 11, 12, 13, 14, 15], [0, 1, 2, 3, 4, 5, 6, 7, 8, 9, 10, 11, 12, 13, 14, 15, 16], [0, 1, 2, 3, 4, 5, 6, 7, 8, 9, 10, 11, 12, 13, 14, 15, 16, 17]].getD ii []).contains 14 = false → ∀ (own : Value) (ys : Nat → Value), (match ii with | 0 => own = .slice (some ⟨g, 0, none⟩) (M + 1) c1 | 1 => own = .slice (some ⟨g, 0, none⟩) (M + 1) c1 | 2 => own = .int .i64 ((M + 1 : Nat) : Int) | 3 => own = .int .i64 (M : Int) | 4 => own = .slice (some ⟨g, 0, none⟩) M c1 | 5 => own = .bool true | 6 => own = .bool true | 7 => ∃ (g7 : Nat), own = .slice (some ⟨g7, 0, none⟩) 0 0 ∧ wx.ownsRow w4.heap.size 28 3 (.slice (some ⟨g7, 0, none⟩) 0 0) 0 [] | 8 => own = .slice (some ⟨g, 0, none⟩) (M + 1) c1 | 9 => ∃ (g9 c9 : Nat), own = .slice (some ⟨g9, 0, none⟩) (M + 1) c9 ∧ wx.ownsRow w4.heap.size 28 3 (.slice (some ⟨g9, 0, none⟩) (M + 1) c9) (M + 1) cs | 10 => own = .slice (some ⟨g, 0, none⟩) (M + 1) c1 | 11 => own = .pointer (some ⟨g, 0, none⟩) | 12 => own = .agg #[.int .i64 T0, .bool K0, .slice a5 l0 c5] | 13 => ∃ (q : Nat), own = .slice (some ⟨q, 0, none⟩) 1 1 ∧ wx.ownsRow w4.heap.size 28 3 (.slice (some ⟨q, 0, none⟩) 1 1) 1 [.int .i64 T0, .bool K0, .slice a5 l0 c5] | 14 => ∃ (a14 : Option Addr) (c14 : Nat), own = .slice a14 (M + 1 + 1) c14 ∧ wx.ownsRow w4.heap.size 28 3 (.slice a14 (M + 1 + 1) c14) (M + 1 + 1) (cs ++ [.int .i64 T0, .bool K0, .slice a5 l0 c5]) | 15 => own = .bool false | 16 => own = .bool true | 17 => own = .bool true | 18 => own = .bool true | _ => True) → (match ii with | 0 => own = .slice (some ⟨g, 0, none⟩) (M + 1) c1 | 1 => own = .slice (some ⟨g, 0, none⟩) (M + 1) c1 | 2 => own = .int .i64 ((M + 1 : Nat) : Int) | 3 => own = .int .i64 (M : Int) | 4 => own = .slice (some ⟨g, 0, none⟩) M c1 | 5 => own = .bool true | 6 => own = .bool true | 7 => ∃ (g7 : Nat), own = .slice (some ⟨g7, 0, none⟩) 0 0 ∧ wy.ownsRow w4.heap.size 28 3 (.slice (some ⟨g7, 0, none⟩) 0 0) 0 [] | 8 => own = .slice (some ⟨g, 0, none⟩) (M + 1) c1 | 9 => ∃ (g9 c9 : Nat), own = .slice (some ⟨g9, 0, none⟩) (M + 1) c9 ∧ wy.ownsRow w4.heap.size 28 3 (.slice (some ⟨g9, 0, none⟩) (M + 1) c9) (M + 1) cs | 10 => own = .slice (some ⟨g, 0, none⟩) (M + 1) c1 | 11 => own = .pointer (some ⟨g, 0, none⟩) | 12 => own = .agg #[.int .i64 T0, .bool K0, .slice a5 l0 c5] | 13 => ∃ (q : Nat), own = .slice (some ⟨q, 0, none⟩) 1 1 ∧ wy.ownsRow w4.heap.size 28 3 (.slice (some ⟨q, 0, none⟩) 1 1) 1 [.int .i64 T0, .bool K0, .slice a5 l0 c5] | 14 => ∃ (a14 : Option Addr) (c14 : Nat), own = .slice a14 (M + 1 + 1) c14 ∧ wy.ownsRow w4.heap.size 28 3 (.slice a14 (M + 1 + 1) c14) (M + 1 + 1) (cs ++ [.int .i64 T0, .bool K0, .slice a5 l0 c5]) | 15 => own = .bool false | 16 => own = .bool true | 17 => own = .bool true | 18 => own = .bool true | _ => True) := by
            intro wy hy ii hii hne hc own ys h
            match ii, h with
            | 0, h => exact h
            | 1, h => exact h
            | 2, h => exact h
            | 3, h => exact h
            | 4, h => exact h
            | 5, h => exact h
            | 6, h => exact h
            | 7, h => obtain ⟨g7, h1, h2⟩ := h; exact ⟨g7, h1, hy _ _ _ _ (by omega) h2⟩
            | 8, h => exact h
            | 9, h => obtain ⟨g9, c9, h1, h2⟩ := h; exact ⟨g9, c9, h1, hy _ _ _ _ (by omega) h2⟩
            | 10, h => exact h
            | 11, h => exact h
            | 12, h => exact h
            | 13, h => obtain ⟨q, h1, h2⟩ := h; exact ⟨q, h1, hy _ _ _ _ (by omega) h2⟩
            | 14, h => exact absurd rfl hne
            | 15, h => exact absurd hc (by decide)
            | 16, h => exact absurd hc (by decide)
            | 17, h => exact absurd hc (by decide)
            | 18, h => exact absurd hc (by decide)
            | _ + 19, _ => trivial
          exact hQo _ _ (hK.out _ _ ⟨⟨_, _, rfl, own14⟩, Ext.grown hG gr14 (owns_ge o9), hst _ keep14⟩)
        · intro kx xs wx hk hG hD Qo Kx hK hQo
          have d14 : ∃ (a14 : Option Addr) (c14 : Nat), (xs 14) = .slice a14 (M + 1 + 1) c14 ∧ wx.ownsRow w4.heap.size 28 3 (.slice a14 (M + 1 + 1) c14) (M + 1 + 1) (cs ++ [.int .i64 T0, .bool K0, .slice a5 l0 c5]) := hD 14 rfl
          have d6 : (xs 6) = .bool true := hD 6 rfl
          clear hD
          simp only [patchS, Nat.reduceAdd, Nat.reduceEqDiff, ↓reduceIte] at hQo ⊢
          generalize xs 14 = y14 at *
          generalize xs 6 = y6 at *
          obtain ⟨a14, c14, rfl, o14⟩ := d14
          subst d6
          have S15 := SE.app0 (w' := wx) (v' := .slice a14 (M + 1 + 1) c14) (by rw [HLN.out]; exact Q4.out) (by rw [HLN.out]; exact Hcl.out) Hcu.out (by rw [HLN.out]; omega) (by rw [HLN.out]; exact owns_mono o14 hB) hG
          go_wp2_with fail
          refine (impl_SamplesValid_any a14 c14 (M + 1 + 1) (L ++ [sget L 0]) _ (by omega) S15.toSP).mono ?_
          rintro e w6 ⟨rfl, e6⟩
          rw [Hag.out]
          go_wp2
          exact hK.out _ _ ⟨rfl, hG.trans e6, fun i _ _ _ own ys h => Hext.out i own ys _ _ e6 h⟩
        · intro kx xs wx hk hG hD Qo Kx hK hQo
          have d15 : (xs 15) = .bool false := hD 15 rfl
          have d6 : (xs 6) = .bool true := hD 6 rfl
          clear hD
          simp only [patchS, Nat.reduceAdd, Nat.reduceEqDiff, ↓reduceIte] at hQo ⊢
          generalize xs 15 = y15 at *
          generalize xs 6 = y6 at *
          subst d15
          subst d6
          go_wp2
          exact hK.out _ _ ⟨rfl, hG, fun _ _ _ _ _ _ h => h⟩
        · intro kx xs wx hk hG hD Qo Kx hK hQo
          have d6 : (xs 6) = .bool true := hD 6 rfl
          have d16 : (xs 16) = .bool true := hD 16 rfl
          clear hD
          simp only [patchS, Nat.reduceAdd, Nat.reduceEqDiff, ↓reduceIte] at hQo ⊢
          generalize xs 6 = y6 at *
          generalize xs 16 = y16 at *
          subst d6
          subst d16
          go_wp2
          exact hK.out _ _ ⟨rfl, hG, fun _ _ _ _ _ _ h => h⟩
        · intro kx xs wx hk hG hD Qo Kx hK hQo
          have d17 : (xs 17) = .bool true := hD 17 rfl
          clear hD
          simp only [patchS, Nat.reduceAdd, Nat.reduceEqDiff, ↓reduceIte] at hQo ⊢
          generalize xs 17 = y17 at *
          subst d17
          go_wp2
          exact hK.out _ _ ⟨rfl, hG, fun _ _ _ _ _ _ h => h⟩
      clear Hext
      intro xs wx hV hG
      have d0 : (xs 0) = .slice (some ⟨g, 0, none⟩) (M + 1) c1 := hV 0 (by decide)
      have d1 : (xs 1) = .slice (some ⟨g, 0, none⟩) (M + 1) c1 := hV 1 (by decide)
      have d2 : (xs 2) = .int .i64 ((M + 1 : Nat) : Int) := hV 2 (by decide)
      have d3 : (xs 3) = .int .i64 (M : Int) := hV 3 (by decide)
      have d4 : (xs 4) = .slice (some ⟨g, 0, none⟩) M c1 := hV 4 (by decide)
      have d5 : (xs 5) = .bool true := hV 5 (by decide)
      have d6 : (xs 6) = .bool true := hV 6 (by decide)
      have d7 : ∃ (g7 : Nat), (xs 7) = .slice (some ⟨g7, 0, none⟩) 0 0 ∧ wx.ownsRow w4.heap.size 28 3 (.slice (some ⟨g7, 0, none⟩) 0 0) 0 [] := hV 7 (by decide)
      have d8 : (xs 8) = .slice (some ⟨g, 0, none⟩) (M + 1) c1 := hV 8 (by decide)
      have d9 : ∃ (g9 c9 : Nat), (xs 9) = .slice (some ⟨g9, 0, none⟩) (M + 1) c9 ∧ wx.ownsRow w4.heap.size 28 3 (.slice (some ⟨g9, 0, none⟩) (M + 1) c9) (M + 1) cs := hV 9 (by decide)
      have d10 : (xs 10) = .slice (some ⟨g, 0, none⟩) (M + 1) c1 := hV 10 (by decide)
      have d11 : (xs 11) = .pointer (some ⟨g, 0, none⟩) := hV 11 (by decide)
      have d12 : (xs 12) = .agg #[.int .i64 T0, .bool K0, .slice a5 l0 c5] := hV 12 (by decide)
      have d13 : ∃ (q : Nat), (xs 13) = .slice (some ⟨q, 0, none⟩) 1 1 ∧ wx.ownsRow w4.heap.size 28 3 (.slice (some ⟨q, 0, none⟩) 1 1) 1 [.int .i64 T0, .bool K0, .slice a5 l0 c5] := hV 13 (by decide)
      have d14 : ∃ (a14 : Option Addr) (c14 : Nat), (xs 14) = .slice a14 (M + 1 + 1) c14 ∧ wx.ownsRow w4.heap.size 28 3 (.slice a14 (M + 1 + 1) c14) (M + 1 + 1) (cs ++ [.int .i64 T0, .bool K0, .slice a5 l0 c5]) := hV 14 (by decide)
      have d15 : (xs 15) = .bool false := hV 15 (by decide)
      have d16 : (xs 16) = .bool true := hV 16 (by decide)
      have d17 : (xs 17) = .bool true := hV 17 (by decide)
      have d18 : (xs 18) = .bool true := hV 18 (by decide)
      clear hV
      simp only [patchS, Nat.reduceAdd, Nat.reduceEqDiff, ↓reduceIte]
      generalize xs 0 = y0 at *
      generalize xs 1 = y1 at *
      generalize xs 2 = y2 at *
      generalize xs 3 = y3 at *
      generalize xs 4 = y4 at *
      generalize xs 5 = y5 at *
      generalize xs 6 = y6 at *
      generalize xs 7 = y7 at *
      generalize xs 8 = y8 at *
      generalize xs 9 = y9 at *
      generalize xs 10 = y10 at *
      generalize xs 11 = y11 at *
      generalize xs 12 = y12 at *
      generalize xs 13 = y13 at *
      generalize xs 14 = y14 at *
      generalize xs 15 = y15 at *
      generalize xs 16 = y16 at *
      generalize xs 17 = y17 at *
      generalize xs 18 = y18 at *
      replace hG : Ext w4 wx := hG
      subst d0
      subst d1
      subst d2
      subst d3
      subst d4
      subst d5
      subst d6
      obtain ⟨g7, rfl, o7⟩ := d7
      subst d8
      obtain ⟨g9, c9, rfl, o9⟩ := d9
      subst d10
      subst d11
      subst d12
      obtain ⟨q, rfl, o13⟩ := d13
      obtain ⟨a14, c14, rfl, o14⟩ := d14
      subst d15
      subst d16
      subst d17
      subst d18
      go_wp2
      go_ret
      exact ⟨rfl, E3.trans hG⟩
  · have hv0 : svalid L = false := by simpa using hv
    rw [hv0]
    clear hv hv0
    go_wp2_with fail
    refine (alive_any _).mono ?_
    rintro e w5 ⟨rfl, e5⟩
    go_wp2
    go_ret
    exact ⟨rfl, E3.trans e5⟩
end Go.Proofs.Ytmcdlkbofhdnlaa
