/- ReadContainer: what is drawn for its law, and plain facts on longer and shorter bytes. -/
import Derived.Test.YtpjjadmjdafkeaaDoorRh
import Derived.Test.YtpjjadmjdafkeaaDoorW2
import Derived.Test.YtpjjadmjdafkeaaDoorD7
namespace Go.Proofs.YtpjjadmjdafkeaaDoor
open Go.RowKit
set_option maxHeartbeats 2000000
/-- Two byte strings that agree as far as the heads reach. -/
theorem cAt_agree {d d' : List Int} (hn : cNum d' = cNum d) (h : ∀ i, i < 1 + 5 * cNum d → nth d' i = nth d i) : ∀ k, k ≤ cNum d → cAt d' k = cAt d k
  | 0, _ => by simp only [cAt, hn]
  | k + 1, hk => by
    simp only [cAt, cAt_agree hn h k (by omega), cN]
    rw [h (1 + 5 * k + 3) (by omega), h (1 + 5 * k + 4) (by omega)]
theorem nth_app (d e : List Int) {i : Nat} (h : i < d.length) : nth (d ++ e) i = nth d i := by
  simp [nth, List.getElem?_append_left h]
theorem rc_more {d : List Int} (h : rcOk d) (z : Int) : ¬ rcOk (d ++ [z]) := fun h' => by
  have hl := h.1.2.1
  have hn : cNum (d ++ [z]) = cNum d := by unfold cNum; rw [nth_app _ _ h.1.1]
  have h1 := cAt_agree hn (fun i hi => nth_app _ _ (by omega)) (cNum d) (Nat.le_refl _)
  have h2 := h'.2.1
  have h3 := h.2.1
  rw [hn, h1, List.length_append] at h2
  simp at h2
  omega
theorem rc_less {d : List Int} (h : rcOk d) : ¬ rcOk (d.take (d.length - 1)) := fun h' => by
  have hd := h.1.1
  have hl1 := h'.1.1
  have hl2 := h'.1.2.1
  have hlen : (d.take (d.length - 1)).length = d.length - 1 := by rw [List.length_take]; omega
  have hn : cNum (d.take (d.length - 1)) = cNum d := by unfold cNum; rw [nth_take _ (by omega)]
  rw [hn, hlen] at hl2
  have h1 := cAt_agree hn (fun i hi => nth_take _ (by omega)) (cNum d) (Nat.le_refl _)
  have h2 := h'.2.1
  have h3 := h.2.1
  rw [hn, h1, hlen] at h2
  omega
/-- A shorter part of an own row. -/
theorem owns_cut {w : World} {base e g n m c : Nat} {xs : List Value} (h : w.ownsRow base e 1 (.slice (some ⟨g, 0, none⟩) n c) n xs) (hm : m ≤ n) : w.ownsRow base e 1 (.slice (some ⟨g, 0, none⟩) m c) m (xs.take m) := by
  obtain ⟨h1, h2⟩ := h
  rcases h2 with ⟨hv, -⟩ | ⟨g', cap, cur, hv, hb, hg, hn, hm', hs, ht⟩
  · cases hv
  · simp only [Value.slice.injEq, Option.some.injEq, Addr.mk.injEq, and_true, true_and] at hv
    obtain ⟨rfl, rfl⟩ := hv
    refine ⟨by rw [List.length_take]; omega, .inr ⟨g, c, cur, rfl, hb, hg, by omega, hm', hs, ?_⟩⟩
    rw [← ht, List.take_take]
    congr 1
    omega
/-- Entries whose times ascend, the next time being t. -/
def asc (L : List Smp) (t : Nat) : Prop := ∀ j, j < L.length → 0 ≤ (sget L j).1 ∧ (sget L j).1 < t ∧ (sget L j).2.2.length ≤ 9 ∧ (0 < j → (sget L (j - 1)).1 < (sget L j).1)
theorem asc.snoc {L : List Smp} {t t' : Nat} {k : Bool} {ds : List Int} (h : asc L t) (ht : t < t') (hd : ds.length ≤ 9) : asc (L ++ [((t : Int), k, ds)]) t' := by
  intro j hj
  have hg : ∀ i, i < L.length → sget (L ++ [((t : Int), k, ds)]) i = sget L i := fun i hi => by simp [sget, List.getElem?_append_left hi]
  have hl : sget (L ++ [((t : Int), k, ds)]) L.length = ((t : Int), k, ds) := by simp [sget]
  by_cases hjl : j < L.length
  · obtain ⟨h1, h2, h3, h4⟩ := h j hjl
    rw [hg j hjl]
    refine ⟨h1, by omega, h3, fun h0 => ?_⟩
    rw [hg (j - 1) (by omega)]
    exact h4 h0
  · obtain rfl : j = L.length := by simp at hj; omega
    rw [hl]
    refine ⟨by simp, by simp; omega, hd, fun h0 => ?_⟩
    rw [hg (L.length - 1) (by omega)]
    exact (h (L.length - 1) (by omega)).2.1
theorem asc.svalid {L : List Smp} {t : Nat} (h : asc L t) (ht : t ≤ 65535) (hl : L.length ≤ 5) : svalid L = true :=
  svalid_yes (by omega) (fun j hj => by
    obtain ⟨h1, h2, h3, h4⟩ := h j hj
    exact ⟨h1, by omega, by omega, h4⟩)
set_option maxRecDepth 100000 in
theorem l20Entries_0 (b P : Nat) (w : World) (h : RdP w b P) (hp : P < 2^37) :
    Calls Tryd.prog 22 #[.pointer (some ⟨b, 0, none⟩), .int .i64 0] w fun e w' => ∃ (v : Value) (L : List Smp), e = .returned v ∧ SE w' w.heap.size v L ∧ L.length ≤ 5 ∧ (∀ x ∈ L, smpOk x) ∧ svalid L = true ∧ RdP w' b (P + 5000) ∧ w.grownBy w' (some b) := by
  have hblt := h.lt
  go_enter Tryd.func22, Tryd.ntmps22
  have E1 : Ext w (w.alloc (.cells #[] 40)) := (Below.refl _ _).alloc (Nat.le_refl _) _
  have hown := World.ownsRow_made (base := w.heap.size) (e := 40) (size := 3) w #[] 0 (Nat.le_refl _) (by simp) rfl
  go_wp2_with fail
  refine (pick_c b P _ _ (h.ext E1) (by omega) (by omega) (by omega)).mono ?_
  rintro e w1 ⟨x, rfl, x0, x1, r1, g1⟩
  obtain ⟨t0, rfl⟩ := Int.eq_ofNat_of_zero_le x0
  have D1 : DG w b (P + 1) 0 0 w1 := ⟨grown_trans (ext_gr E1) g1, by simpa using r1⟩
  have own1 := own_gr hown g1 hblt
  clear hown E1 h r1 g1
  go_wp2_with fail
  refine (pick_c b _ _ _ D1.2 (by omega) (by omega) (by omega)).mono ?_
  rintro e w2 ⟨y, rfl, y0, y1, r2, g2⟩
  obtain ⟨k0, rfl⟩ := Int.eq_ofNat_of_zero_le y0
  have D2 : DG w b (P + 2) 0 0 w2 := ⟨grown_trans D1.1 g2, r2.mono (by omega)⟩
  have S2 : SE w2 w.heap.size (.slice (some ⟨w.heap.size, 0, none⟩) 0 0) [] := ⟨[], own_gr own1 g2 hblt, fun i hi => by simp at hi⟩
  clear own1 D1 r2 g2
  go_wp2_with fail
  go_loopw [5, 6, 7] (fun v i q wr => ∃ (k t : Nat) (L : List Smp), k ≤ 5 ∧ q = .int .i64 k ∧ i = .int .i64 t ∧ t ≤ 5 + 301 * L.length ∧ L.length + k ≤ 5 ∧ DG w b (P + 2500 - 450 * k) 0 0 wr ∧ SE wr w.heap.size v L ∧ Hid ((∀ x ∈ L, smpOk x) ∧ asc L t)) (fun _ _ q _ => (intOf q).toNat)
  case atStart => exact ⟨k0, t0, [], by omega, rfl, rfl, by omega, by simp; omega, ⟨D2.1, D2.2.mono (by omega)⟩, S2, Lib.hid ⟨by simp, fun j hj => by simp at hj⟩⟩
  case round =>
    obtain ⟨k, t, L, hk, rfl, rfl, ht, hkl, D3, S3, HL⟩ := hrel
    clear D2 S2
    obtain ⟨a3, c3, rfl⟩ := S3.form
    by_cases hlt : 0 < k
    · go_wp2_with fail
      refine (pick_c b _ _ _ D3.2 (by omega) (by omega) (by omega)).mono ?_
      rintro e w4 ⟨z, rfl, z0, z1, r4, g4⟩
      have S4 := S3.gr g4 hblt
      have D4 : DG w b (P + 2501 - 450 * k) 0 0 w4 := ⟨grown_trans D3.1 g4, r4.mono (by omega)⟩
      clear S3 D3 r4 g4
      go_wp2_with fail
      refine (l20Bytes_c b _ 9 _ D4.2 (by omega) (by omega)).mono ?_
      rintro e w5 ⟨v5, xs, rfl, own5, hxl, hxb, r5, g5⟩
      have D5 : DG w b (P + 2901 - 450 * k) 0 0 w5 := ⟨grown_trans D4.1 g5, r5.mono (by omega)⟩
      obtain ⟨a5, c5, rfl⟩ := owns_form own5
      have own5' := owns_mono own5 D4.1.size
      obtain ⟨cs, o5, q5⟩ := S4.gr g5 hblt
      have Q5 := Lib.hid q5
      have HX := Lib.hid hxb
      have hwb : w.heap.size ≤ w5.heap.size := D5.1.size
      clear S4 own5 D4 r5 g5 q5 hxb
      go_wp2_with (at_builtin; refine wpList_app3 _ o5 hwb _ _ _ rfl _ _ 23 rfl (.agg #[.int .i64 0, .bool false, .slice none 0 0]) 40 Tryd.underlying23 info_Sample rfl rfl rfl rfl (by omega) (by omega) ?_; intro v6 w6 own6 gr6; refine Hid.out ?_)
      have D6 := D5.own gr6 (owns_ge o5) hblt
      have S6 := SE.snoc o5 Q5.out own5' own6 gr6
      have HA6 : Hid (∀ t' : Nat, t < t' → asc (L ++ [((t : Int), (z == 0 : Bool), xs)]) t') := Lib.hid (fun t' ht' => HL.out.2.snoc ht' hxl)
      have HL6 : Hid (∀ x ∈ L ++ [((t : Int), (z == 0 : Bool), xs)], smpOk x) := Lib.hid (fun x hxm => by
        rcases List.mem_append.1 hxm with hxm | hxm
        · exact HL.out.1 x hxm
        · simp at hxm; subst hxm; exact ⟨by first | (simp; done) | (simp; omega), by first | (simp; done) | (simp; omega), by simpa using hxl, HX.out⟩)
      clear o5 Q5 own5' own6 gr6 D5 HL HX
      refine Lib.hid ?_
      go_wp2_with fail
      refine (pick_c b _ _ _ D6.2 (by omega) (by omega) (by omega)).mono ?_
      rintro e w7 ⟨y, rfl, y0, y1, r7, g7⟩
      obtain ⟨y, rfl⟩ := Int.eq_ofNat_of_zero_le y0
      have S7 := S6.gr g7 hblt
      have D7 : DG w b (P + 2902 - 450 * k) 0 0 w7 := ⟨grown_trans D6.1 g7, r7.mono (by omega)⟩
      have HA7 := Lib.hid (HA6.out (t + 1 + y) (by omega))
      clear S6 D6 r7 g7 HA6
      go_wp2_with fail
      go_roundw
      case rel => exact ⟨k - 1, t + 1 + y, _, by omega, by go_num, by go_num, by simp; omega, by simp; omega, ⟨D7.1, D7.2.mono (by omega)⟩, S7, Lib.hid ⟨HL6.out, HA7.out⟩⟩
      case measure => simp [intOf]; omega
    · obtain rfl : k = 0 := by omega
      have D4 : DG w b (P + 2500) 0 0 wr := ⟨D3.1, D3.2.mono (by omega)⟩
      have hsv := HL.out.2.svalid (by omega) (by omega)
      have HSV := Lib.hid hsv
      clear D3 hsv
      by_cases h0 : L.length = 0
      · obtain rfl : L = [] := List.eq_nil_of_length_eq_zero h0
        clear h0
        go_wp2_with fail
        go_ret
        exact ⟨_, [], rfl, S3, by simp, by simp, HSV.out, D4.2.mono (by omega), D4.1⟩
      · have hd0 : decide (0 < (L.length : Int)) = true := by rw [decide_eq_true_iff]; omega
        go_wp2_with fail
        refine (odd_0 b 0 _ (by omega)).mono ?_
        rintro e w5 ⟨rfl, rfl⟩
        go_wp2_with fail
        go_ret
        exact ⟨_, L, rfl, S3, by omega, HL.out.1, HSV.out, D4.2.mono (by omega), D4.1⟩
set_option maxRecDepth 100000 in
theorem DrawReadContainer_any (a : Option Addr) (c n : Nat) (zs : List Int) (w : World) (hc : n ≤ c) (hc2 : c ≤ 9223372036854775807) (r : Sl w a n (zs.map (Value.int .u8))) (hz : ∀ z ∈ zs, 0 ≤ z ∧ z ≤ 255) :
    Calls Tryd.prog 20 #[.slice a n c] w fun e w' => ∃ (g m c : Nat) (d : List Int), e = .returned (.slice (some ⟨g, 0, none⟩) m c) ∧ w'.ownsRow w.heap.size 5 1 (.slice (some ⟨g, 0, none⟩) m c) m (d.map (Value.int .u8)) ∧ m ≤ 30000000 ∧ bys d ∧ Ext w w' := by
  go_enter Tryd.func20, Tryd.ntmps20
  go_wp2_with fail
  refine (open_any a c n zs _ hc hc2 r hz).mono ?_
  rintro e w1 ⟨b, rfl, rd, e1, hb⟩
  have hrd : RdP w1 b 0 := ⟨0, Nat.le_refl _, rd⟩
  clear r hz rd
  go_wp2_with fail
  refine (l20Entries_0 b 0 _ hrd (by omega)).mono ?_
  rintro e w2 ⟨v, L, rfl, S2, h1, h2, h3, r2, g2⟩
  obtain ⟨a2, c2, rfl⟩ := S2.form
  have hs1 := e1.size
  have hblt : b < w2.heap.size := r2.lt
  have E2 : Ext w w2 := Ext.grown e1 g2 (fun k hk => by simp at hk; omega)
  have sp := S2.toSP
  have hwl := wcont_len L
  have hwp : 1 ≤ (wcont L).length := by rw [wcont_yes h3]; unfold wall; rw [List.length_append, wpre_len L _ (Nat.le_refl _)]; omega
  have hwb : bys (wcont L) := wcont_bys0 (fun x hx => (h2 x hx).2.2.2)
  obtain ⟨B, hB⟩ : ∃ B, B = wcont L := ⟨_, rfl⟩
  rw [← hB] at hwl hwp hwb
  have hW := fun (w : World) (r : SP w a2 L.length L) => spec_WriteContainer_any a2 c2 L.length L w (by omega) r
  obtain ⟨N, hN⟩ : ∃ N, N = B.length := ⟨_, rfl⟩
  rw [← hN] at hwl hwp
  simp only [← hB, ← hN] at hW
  have HW := Lib.hid hW
  have HN := Lib.hid hN
  have HWB := Lib.hid hwb
  clear hrd g2 e1 h2 h3 S2 hB hN hwb hW
  go_wp2_with fail
  refine (HW.out _ sp).mono ?_
  rintro e w3 ⟨a3, c3, rfl, own3, e3⟩
  obtain ⟨g, cap, hv⟩ : ∃ g cap, (Value.slice a3 N c3) = .slice (some ⟨g, 0, none⟩) N cap := by
    rcases id own3.2 with ⟨hv, h0'⟩ | ⟨g, cap, cur, hv, -⟩
    · omega
    · exact ⟨g, cap, hv⟩
  simp only [Value.slice.injEq, true_and] at hv
  obtain ⟨rfl, rfl⟩ := hv
  have R3 : RdP w3 b 5000 := r2.ext e3
  have E3 := E2.trans e3
  have hge3 := owns_ge own3 g rfl
  have hs2 := E2.size
  clear e3 r2 sp HW E2
  go_wp2_with fail
  refine (pick_c b _ _ _ R3 (by omega) (by omega) (by omega)).mono ?_
  rintro e w4 ⟨x, rfl, x0, x1, r4, g4⟩
  have own4 := own_gr own3 g4 hblt
  have E4 : Ext w w4 := Ext.grown E3 g4 (fun k hk => by simp at hk; omega)
  clear own3 E3 g4 R3
  by_cases hx0 : x = 0
  · subst hx0
    go_wp2_with fail
    refine (pick_c b _ _ _ r4 (by omega) (by omega) (by omega)).mono ?_
    rintro e w5 ⟨y, rfl, y0, y1, r5, g5⟩
    obtain ⟨y, rfl⟩ := Int.eq_ofNat_of_zero_le y0
    have own5 := own_gr own4 g5 hblt
    have E5 : Ext w w5 := Ext.grown E4 g5 (fun k hk => by simp at hk; omega)
    clear own4 E4 g5 r4
    go_wp2_with fail
    refine (pick_c b _ _ _ r5 (by omega) (by omega) (by omega)).mono ?_
    rintro e w6 ⟨z, rfl, z0, z1, r6, g6⟩
    have own6 := own_gr own5 g6 hblt
    have E6 : Ext w w6 := Ext.grown E5 g6 (fun k hk => by simp at hk; omega)
    obtain ⟨u2, d2, -⟩ := owns_get own6 (j := y) (by omega)
    have f2 := own6.frozenAt y
    obtain ⟨o7, g7⟩ := own6.stored y (.int .u8 z)
    have E7 : Ext w (w6.setCell ⟨g, y, none⟩ (.int .u8 z)) := Ext.grown E6 g7 (fun k hk => by cases hk; omega)
    have HB7 : Hid (bys (B.set y z)) := Lib.hid (fun q hq => by
      rcases List.mem_or_eq_of_mem_set hq with h | h
      · exact HWB.out q h
      · rw [h]; omega)
    have o8 : (w6.setCell ⟨g, y, none⟩ (.int .u8 z)).ownsRow w.heap.size 5 1 (.slice (some ⟨g, 0, none⟩) N c3) N ((B.set y z).map (Value.int .u8)) := by rw [List.map_set]; exact owns_mono o7 hs2
    clear own5 E5 own6 E6 g6 g7 o7 r6
    go_wp2
    go_ret
    exact ⟨g, N, c3, _, rfl, o8, by omega, HB7.out, E7⟩
  by_cases hx1 : x = 1
  · subst hx1
    have hcap := owns_cap own4
    have hN1 : (0 : Int) ≤ (N : Int) - 1 := by omega
    have o5 := owns_mono (owns_cut own4 (m := N - 1) (by omega)) hs2
    rw [← List.map_take] at o5
    have HB7 : Hid (bys (B.take (N - 1))) := Lib.hid (fun q hq => HWB.out q (List.mem_of_mem_take hq))
    have hNt : ((N : Int) - 1).toNat = N - 1 := by omega
    have u1 : IntKind.i64.wrap ((N : Int) - 1) = (N : Int) - 1 := IntWalk.i64_in _ (by unfold maxLen at hcap; omega)
    unfold maxLen at hcap
    clear own4
    go_wp2
    go_ret
    exact ⟨g, N - 1, c3, _, rfl, o5, by omega, HB7.out, E4⟩
  · have o5 := owns_mono own4 hs2
    have hd0 : (x == 0) = false := by simpa using hx0
    have hd1 : (x == 1) = false := by simpa using hx1
    clear own4
    go_wp2
    go_ret
    exact ⟨g, N, c3, _, rfl, o5, by omega, HWB.out, E4⟩
theorem spec_ReadContainer_any (a : Option Addr) (c n : Nat) (d : List Int) (w : World) (hc : n ≤ c ∧ c ≤ 9223372036854775807) (hn45 : n < 2^45) (r : Sl w a n (d.map (Value.int .u8))) (hb : bys d) :
    Calls Tryd.prog 13 #[.slice a n c] w (RcR w d) := by
  by_cases hs : n = 0 ∨ 100 < cNum d ∨ n < 1 + 5 * cNum d
  · exact spec_ReadContainer_short a c n d w hc r hb hs
  · obtain ⟨b, o, rfl, -⟩ := r.int (i := 0) (by omega)
    exact spec_ReadContainer_long b o c n _ d w hc hn45 r hb rfl (by omega) (by omega)
end Go.Proofs.YtpjjadmjdafkeaaDoor
