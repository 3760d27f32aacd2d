/- FnParityOf: the walk of the law. -/
import Derived.Test.YtmcdlkbofhdnlaaP1
import Derived.Test.YtmcdlkbofhdnlaaM3
import Derived.Test.YtmcdlkbofhdnlaaD6
import Derived.Test.YtmcdlkbofhdnlaaConv
import Derived.Test.YtmcdlkbofhdnlaaV
namespace Go.Proofs.Ytmcdlkbofhdnlaa
open Go.RowKit
set_option maxHeartbeats 400000
theorem byte_range3 {zs : List Int} (h : ∀ z ∈ zs, (Lit.int .u8 z).wf = true) : ∀ z ∈ zs, 0 ≤ z ∧ z ≤ 255 := by
  intro z hz
  have := h z hz
  simp [Lit.wf, IntKind.min, IntKind.max, IntKind.signed, IntKind.bits] at this
  omega
def DrawR (w : World) (e : Ending) (w' : World) : Prop :=
  ∃ (a : Option Addr) (c : Nat) (L : List (List Int)), e = .returned (.slice a L.length c) ∧ SSw w' w.heap.size (.slice a L.length c) L ∧ 1 ≤ L.length ∧ L.length ≤ 12 ∧ (∀ s ∈ L, s.length ≤ 300 ∧ ∀ z ∈ s, byt z) ∧ Ext w w'
theorem DrawParityOf_any (a : Option Addr) (c n : Nat) (zs : List Int) (w : World) (hc : n ≤ c) (hc2 : c ≤ 9223372036854775807) (r : Sl w a n (zs.map (Value.int .u8))) (hz : ∀ z ∈ zs, 0 ≤ z ∧ z ≤ 255) :
    Calls Try.prog 31 #[.slice a n c] w (DrawR w) := by
  go_enter Try.func31, Try.ntmps31
  go_wp2_with fail
  refine (open_any a c n zs _ hc hc2 r hz).mono ?_
  rintro e w1 ⟨b, rfl, rd, e1, hb⟩
  have hrd : RdP w1 b 0 := ⟨0, Nat.le_refl _, rd⟩
  clear r hz rd
  go_wp2_with fail
  refine (l20Strings_c b 0 12 _ hrd (by omega) (by omega) (by omega)).mono ?_
  rintro e w2 ⟨v, L, rfl, S2, h1, h2, h3, -, g2⟩
  obtain ⟨a2, c2, rfl⟩ := S2.form
  have hs1 := e1.size
  have E2 : Ext w w2 := Ext.grown e1 g2 (fun k hk => by simp at hk; omega)
  have S3 := S2.mono hs1
  clear S2 hrd e1 g2
  go_wp2
  go_ret
  exact ⟨a2, c2, L, rfl, S3, h1, h2, h3, E2⟩
theorem SS_pair {w : World} {a' : Option Addr} {c' : Nat} {s : List Int} (h : Sl w a' s.length (s.map (Value.int .u8))) (hc : s.length ≤ c' ∧ c' ≤ maxLen) (t : Nat) :
    SS (w.alloc (.cells #[.slice a' s.length c', .slice a' s.length c'] t)) (some ⟨w.heap.size, 0, none⟩) 2 [s, s] := by
  have e := Ext.alloc w (.cells #[.slice a' s.length c', .slice a' s.length c'] t)
  refine ⟨rfl, fun i hi => ⟨_, 0, rfl, a', c', ?_, ?_⟩⟩
  · match i, hi with
    | 0, _ => exact World.cell?_alloc_at _ _ _ _ rfl
    | 1, _ => exact World.cell?_alloc_at _ _ _ _ rfl
  · match i, hi with
    | 0, _ => exact ⟨h.ext e, hc.1, hc.2⟩
    | 1, _ => exact ⟨h.ext e, hc.1, hc.2⟩
set_option maxRecDepth 100000 in
set_option maxHeartbeats 4000000 in
theorem law_FnParityOf (a : Option Addr) (c n : Nat) (zs : List Int) (w : World) (hn0 : n ≤ c ∧ c ≤ maxLen) (sl : Sl w a n (zs.map (Value.int .u8))) (wf : ∀ z ∈ zs, (Lit.int .u8 z).wf = true) :
    Calls Try.prog 9 #[.slice a n c] w fun e w' => e = .returned (.bool true) ∧ Ext w w' := by
  have hn : n ≤ c ∧ c ≤ 9223372036854775807 := ⟨hn0.1, hn0.2⟩
  clear hn0
  have hz := Lib.hid (byte_range3 wf)
  clear wf
  by_cases hbig : 1048576 < n
  · go_enter Try.func9, Try.ntmps9
    go_wp2
    go_ret
    refine ⟨rfl, ?_⟩
    (repeat (first | with_reducible exact Below.refl _ _ | assumption | with_reducible refine below_drewN ?_ _ | with_reducible refine Below.drew ?_ | with_reducible refine Below.setCell ?_ (by simp <;> omega) _ | with_reducible refine Ext.trans ?_ (Ext.alloc _ _)))
  go_enter Try.func9, Try.ntmps9
  go_wp2_with fail
  refine (DrawParityOf_any a c n zs _ hn.1 hn.2 (sl.ext (by (repeat (first | with_reducible exact Below.refl _ _ | assumption | with_reducible refine below_drewN ?_ _ | with_reducible refine Below.drew ?_ | with_reducible refine Below.setCell ?_ (by simp <;> omega) _ | with_reducible refine Ext.trans ?_ (Ext.alloc _ _))))) hz.out).mono ?_
  rintro e w1 ⟨a1, c1, L, rfl, S1, hl1, hl2, hL, e1⟩
  have E1 : Ext w w1 := by refine Ext.trans ?_ e1; (repeat (first | with_reducible exact Below.refl _ _ | assumption | with_reducible refine below_drewN ?_ _ | with_reducible refine Below.drew ?_ | with_reducible refine Below.setCell ?_ (by simp <;> omega) _ | with_reducible refine Ext.trans ?_ (Ext.alloc _ _)))
  clear sl hz e1
  have hLb : ∀ s ∈ L, ∀ z ∈ s, byt z := fun s hs => (hL s hs).2
  have HL := Lib.hid hL
  have HLb := Lib.hid hLb
  obtain ⟨N, hN⟩ : ∃ N, N = L.length := ⟨_, rfl⟩
  rw [← hN] at S1 hl1 hl2 ⊢
  have HN := Lib.hid hN
  clear hL hLb hN
  go_wp2_with fail
  refine (impl_ParityOf_any a1 c1 N L _ (by omega) HLb.out S1.toSS).mono ?_
  rintro e w2 ⟨v2, rfl, own2, e2⟩
  obtain ⟨a2, c2, rfl⟩ := owns_form own2
  have E2 := E1.trans e2
  have S2 := S1.ext e2
  clear S1 E1 e2
  go_wp2_with fail
  have hext : ∀ (i : Nat) (own : Value) (ys : Nat → Value) (wa wb : World), Ext wa wb → (match i with | 0 => own = .slice a2 (parity L).length c2 | 1 => own = .string (strOfNums (parity L)) | 2 => own = .slice a1 N c1 | 3 => ∃ (a3 : Option Addr) (c3 : Nat), own = .slice a3 (parity L).length c3 ∧ wa.ownsRow w2.heap.size 5 1 (.slice a3 (parity L).length c3) (parity L).length ((parity L).map (Value.int .u8)) | 4 => own = .string (strOfNums (parity L)) | 5 => own = .bool false | _ => True) → (match i with | 0 => own = .slice a2 (parity L).length c2 | 1 => own = .string (strOfNums (parity L)) | 2 => own = .slice a1 N c1 | 3 => ∃ (a3 : Option Addr) (c3 : Nat), own = .slice a3 (parity L).length c3 ∧ wb.ownsRow w2.heap.size 5 1 (.slice a3 (parity L).length c3) (parity L).length ((parity L).map (Value.int .u8)) | 4 => own = .string (strOfNums (parity L)) | 5 => own = .bool false | _ => True) := by
    intro i own ys wa wb e h
    match i, h with
    | 0, h => exact h
    | 1, h => exact h
    | 2, h => exact h
    | 3, h => obtain ⟨a3, c3, h1, h2⟩ := h; exact ⟨a3, c3, h1, owns_ext h2 e⟩
    | 4, h => exact h
    | 5, h => exact h
    | _ + 6, _ => trivial
  have Hext := Lib.hid hext
  clear hext
  refine wp_region_inv2 (by kernel_rfl) [(17, 0), (18, 1), (19, 2), (20, 3), (21, 4), (22, 5)] [[], [0], [], [2], [2, 3], [0, 1, 2, 3, 4]] (fun i own ys wx => match i with | 0 => own = .slice a2 (parity L).length c2 | 1 => own = .string (strOfNums (parity L)) | 2 => own = .slice a1 N c1 | 3 => ∃ (a3 : Option Addr) (c3 : Nat), own = .slice a3 (parity L).length c3 ∧ wx.ownsRow w2.heap.size 5 1 (.slice a3 (parity L).length c3) (parity L).length ((parity L).map (Value.int .u8)) | 4 => own = .string (strOfNums (parity L)) | 5 => own = .bool false | _ => True) (fun kx wx => Ext w2 wx) (by kernel_rfl) (by kernel_rfl) (by kernel_rfl) ?g0_r1 ?gop_r1 ?gend_r1
  case g0_r1 => exact Ext.drewN _ 1
  case gop_r1 =>
    refine ⟨?_, ?_, ?_, ?_, ?_, ?_, trivial⟩
    · intro kx xs wx hk hG hD Qo Kx hK hQo
      clear hD
      simp only [patchS, Nat.reduceAdd, Nat.reduceEqDiff, ↓reduceIte] at hQo ⊢
      go_wp2
      exact hK.out _ _ ⟨rfl, hG, fun _ _ _ _ _ _ h => h⟩
    · intro kx xs wx hk hG hD Qo Kx hK hQo
      have d0 : (xs 0) = .slice a2 (parity L).length c2 := hD 0 rfl
      clear hD
      simp only [patchS, Nat.reduceAdd, Nat.reduceEqDiff, ↓reduceIte] at hQo ⊢
      generalize xs 0 = y0 at *
      subst d0
      have hcv := conv_own wx _ a2 _ c2 _ (owns_ext own2 hG)
      go_wp2
      exact hK.out _ _ ⟨rfl, hG, fun _ _ _ _ _ _ h => h⟩
    · intro kx xs wx hk hG hD Qo Kx hK hQo
      clear hD
      simp only [patchS, Nat.reduceAdd, Nat.reduceEqDiff, ↓reduceIte] at hQo ⊢
      go_wp2
      exact hK.out _ _ ⟨rfl, hG, fun _ _ _ _ _ _ h => h⟩
    · intro kx xs wx hk hG hD Qo Kx hK hQo
      have d2 : (xs 2) = .slice a1 N c1 := hD 2 rfl
      clear hD
      simp only [patchS, Nat.reduceAdd, Nat.reduceEqDiff, ↓reduceIte] at hQo ⊢
      generalize xs 2 = y2 at *
      subst d2
      go_wp2_with fail
      refine (spec_ParityOf_any a1 c1 N L _ (by omega) HLb.out (S2.ext hG).toSS).mono ?_
      rintro e w4 ⟨v4, rfl, own4, e4⟩
      obtain ⟨a4, c4, rfl⟩ := owns_form own4
      go_wp2
      exact hK.out _ _ ⟨⟨_, _, rfl, owns_mono own4 hG.size⟩, hG.trans e4, fun i _ _ _ own ys h => Hext.out i own ys _ _ e4 h⟩
    · intro kx xs wx hk hG hD Qo Kx hK hQo
      have d3 : ∃ (a3 : Option Addr) (c3 : Nat), (xs 3) = .slice a3 (parity L).length c3 ∧ wx.ownsRow w2.heap.size 5 1 (.slice a3 (parity L).length c3) (parity L).length ((parity L).map (Value.int .u8)) := hD 3 rfl
      clear hD
      simp only [patchS, Nat.reduceAdd, Nat.reduceEqDiff, ↓reduceIte] at hQo ⊢
      generalize xs 3 = y3 at *
      obtain ⟨a3, c3, rfl, o3⟩ := d3
      have hcv := conv_own wx _ a3 _ c3 _ o3
      go_wp2
      exact hK.out _ _ ⟨rfl, hG, fun _ _ _ _ _ _ h => h⟩
    · intro kx xs wx hk hG hD Qo Kx hK hQo
      have d1 : (xs 1) = .string (strOfNums (parity L)) := hD 1 rfl
      have d4 : (xs 4) = .string (strOfNums (parity L)) := hD 4 rfl
      clear hD
      simp only [patchS, Nat.reduceAdd, Nat.reduceEqDiff, ↓reduceIte] at hQo ⊢
      generalize xs 1 = y1 at *
      generalize xs 4 = y4 at *
      subst d1
      subst d4
      go_wp2
      exact hK.out _ _ ⟨rfl, hG, fun _ _ _ _ _ _ h => h⟩
  clear Hext
  intro xs wx hV hG
  have d0 : (xs 0) = .slice a2 (parity L).length c2 := hV 0 (by decide)
  have d1 : (xs 1) = .string (strOfNums (parity L)) := hV 1 (by decide)
  have d2 : (xs 2) = .slice a1 N c1 := hV 2 (by decide)
  have d3 : ∃ (a3 : Option Addr) (c3 : Nat), (xs 3) = .slice a3 (parity L).length c3 ∧ wx.ownsRow w2.heap.size 5 1 (.slice a3 (parity L).length c3) (parity L).length ((parity L).map (Value.int .u8)) := hV 3 (by decide)
  have d4 : (xs 4) = .string (strOfNums (parity L)) := hV 4 (by decide)
  have d5 : (xs 5) = .bool false := hV 5 (by decide)
  clear hV
  simp only [patchS, Nat.reduceAdd, Nat.reduceEqDiff, ↓reduceIte]
  generalize xs 0 = y0 at *
  generalize xs 1 = y1 at *
  generalize xs 2 = y2 at *
  generalize xs 3 = y3 at *
  generalize xs 4 = y4 at *
  generalize xs 5 = y5 at *
  replace hG : Ext w2 wx := hG
  clear d0 d1 d2 d3 d4
  subst d5
  have E3 := E2.trans hG
  have S3 := S2.ext hG
  have own3 := owns_ext own2 hG
  clear E2 S2 own2 hG
  have hN2 : L.length = N := HN.out.symm
  by_cases hg : gvalid L = true
  · obtain ⟨hp, hp1⟩ := parity_pos hg
    obtain ⟨m, hm⟩ : ∃ m, m = (parity L).length := ⟨_, rfl⟩
    rw [← hm] at hp1
    have hmz : m = sizeT L N := by rw [hm, hp, tab_len, hN2]
    have hm256 : m ≤ 256 := by rw [hm]; exact parity_len HLb.out
    have hrv := parity_reverse HLb.out
    have hrs : sizeT L.reverse N = m := by
      rw [hmz]
      have := sizeT_perm (L := L.reverse) (M := L) (by simp)
      rw [List.length_reverse, hN2] at this
      exact this
    have hlr : ∀ j, j < N → lget L.reverse j = lget L (N - 1 - j) := fun j hj => by
      simp [lget, List.getElem?_reverse (show j < L.length by omega), hN2]
    have hl255 : ∀ i, i < N → (lget L i).length ≤ 255 := fun i hi => (gvalid_iff.1 hg).2.2 _ (lget_mem L i (by omega))
    have h0 := parity_twice (HLb.out _ (lget_mem L 0 (by omega))) (hl255 0 (by omega))
    have Hm := Lib.hid hm
    have Hrv := Lib.hid hrv
    have Hrs := Lib.hid hrs
    have Hlr := Lib.hid hlr
    have Hl255 := Lib.hid hl255
    have H0 := Lib.hid h0
    have HN2 := Lib.hid hN2
    rw [← hm] at own3 ⊢
    clear hg hp hm hmz hrv hrs hlr hl255 h0 hN2
    have hb0 : ((m : Int) == 0) = false := by simp; omega
    have hB0 : w.heap.size ≤ wx.heap.size := E3.size
    have e4 := Ext.alloc wx (.cells #[] 22)
    have ownT := World.ownsRow_made (base := wx.heap.size) (e := 22) (size := 1) wx #[] 0 (Nat.le_refl _) (by simp) rfl
    generalize wx = w3 at *
    go_wp2_with fail
    go_loopw [5, 6, 7] (fun v q i wr => ∃ (j : Nat), j ≤ N ∧ i = .int .i64 ((N : Int) - 1 - j) ∧ q = .int .i64 ((sizeT L.reverse j - 1 : Nat) : Int) ∧ Ext w3 wr ∧ Hid (∃ cs, wr.ownsRow w3.heap.size 22 1 v j cs ∧ ∀ i, i < j → ∃ (a' : Option Addr) (c' : Nat), cs[i]? = some (.slice a' (lget L.reverse i).length c') ∧ w3.ownsRow w.heap.size 5 1 (.slice a' (lget L.reverse i).length c') (lget L.reverse i).length ((lget L.reverse i).map (Value.int .u8)))) (fun _ _ i _ => (intOf i + 1).toNat)
    case atStart => exact ⟨0, by omega, by simp, rfl, e4, Lib.hid ⟨_, ownT, fun i hi => by omega⟩⟩
    case round =>
      obtain ⟨j, hj, rfl, rfl, e5, hT⟩ := hrel
      clear ownT e4
      by_cases hjN : j < N
      · obtain ⟨k, hk⟩ : ∃ k : Nat, k = N - 1 - j := ⟨_, rfl⟩
        have hkI : (N : Int) - 1 - j = (k : Int) := by omega
        have hkN : k < N := by omega
        have hlk : lget L.reverse j = lget L k := by rw [hk]; exact Hlr.out j hjN
        have hs255 : (lget L k).length ≤ 255 := Hl255.out k hkN
        have hq255 : sizeT L.reverse j ≤ 256 := by
          refine sizeT_ub _ _ _ fun i hi => ?_
          rw [Hlr.out i (by omega)]
          have := Hl255.out (N - 1 - i) (by omega)
          omega
        obtain ⟨b, off, a', c', hab, g1, g2⟩ := S3.at hkN
        subst hab
        have g1r := cell_ext e5 g1
        obtain ⟨cs, oT, qT⟩ := hT.out
        have QT := Lib.hid qT
        have Hk := Lib.hid hk
        have Hlk := Lib.hid hlk
        have hwb : w3.heap.size ≤ wr.heap.size := e5.size
        have g2c := (owns_cap g2).2
        unfold maxLen at g2c
        obtain ⟨Q, hQ⟩ : ∃ Q, Q = sizeT L.reverse j := ⟨_, rfl⟩
        obtain ⟨ln, hln⟩ : ∃ ln, ln = (lget L k).length := ⟨_, rfl⟩
        have HQ := Lib.hid hQ
        have Hln := Lib.hid hln
        rw [← hQ] at hq255 ⊢
        rw [← hln] at hs255 g1 g1r
        rw [hkI]
        clear qT hT hk hlk hQ hln hkI
        go_wp2_with (at_builtin; refine wpList_app _ oT hwb _ rfl _ _ 53 rfl (.slice none 0 0) 24 Try.underlying53 info_BS rfl rfl rfl rfl (by omega) (by omega) ?_; intro v7 w7 own7 gr7 _; refine Hid.out ?_)
        have E7 : Ext w3 w7 := Ext.grown e5 gr7 (owns_ge oT)
        have g1s := cell_ext E7 g1
        refine Lib.hid ?_
        clear g1r gr7
        go_wp2_with fail
        go_roundw
        case rel =>
          refine ⟨j + 1, by omega, ?_, ?_, E7, Lib.hid ⟨_, own7, fun i hi => ?_⟩⟩
          · have := Hk.out
            first | (simp; done) | (simp; omega)
          · have h1 := HQ.out
            have h2 := Hln.out
            have h3 := Hlk.out
            simp only [sizeT, h3, ← h1, ← h2]
            first | (congr 1; omega) | (simp; omega)
          · have hcl : cs.length = j := by have := oT.1; omega
            by_cases hij : i < j
            · obtain ⟨a4, c4, h1, h2⟩ := QT.out i hij
              exact ⟨a4, c4, by rw [List.getElem?_append_left (by omega)]; exact h1, h2⟩
            · obtain rfl : i = j := by omega
              rw [Hlk.out]
              refine ⟨a', c', by rw [← hcl, List.getElem?_append_right (by omega)]; simp [← Hln.out], g2⟩
        case measure =>
          have := Hk.out
          first | (simp [intOf]; done) | (simp [intOf]; omega)
      · obtain rfl : N = j := by omega
        obtain ⟨cs, oT, qT⟩ := hT.out
        obtain ⟨a5, c5, rfl⟩ := owns_form oT
        have sT : SSw wr w.heap.size (.slice a5 N c5) L.reverse := by
          have hl : L.reverse.length = N := by rw [List.length_reverse, HN2.out]
          refine ⟨cs, ?_, fun i hi => ?_⟩
          · rw [hl]; exact owns_mono oT hB0
          · obtain ⟨a4, c4, h1, h2⟩ := qT i (by omega)
            exact ⟨a4, c4, h1, owns_ext h2 e5⟩
        have own4 := owns_ext own3 e5
        have E4 := E3.trans e5
        have S4 := S3.ext e5
        rw [Hrs.out]
        clear hT oT qT E3 S3 own3 e5 hjN hj
        generalize wr = w4 at *
        have hNI : ((N : Int) - 1 - N) = -1 := by omega
        rw [hNI]
        clear hNI
        obtain ⟨b, off, a', c', hab, g1, g2⟩ := S4.at (show 0 < N by omega)
        subst hab
        rw [Nat.add_zero] at g1
        obtain ⟨Z, hZ⟩ : ∃ Z, Z = lget L 0 := ⟨_, rfl⟩
        have hZb : ∀ z ∈ Z, byt z := by rw [hZ]; exact HLb.out _ (lget_mem L 0 (by rw [HN2.out]; omega))
        have hZl : Z.length ≤ 255 := by rw [hZ]; exact Hl255.out 0 (by omega)
        have hZZ : parity [Z, Z] = tab (Z.length + 1) (fun _ => 0) := by rw [hZ]; exact H0.out
        rw [← hZ] at g1 g2
        have hg2 := owns_cap g2
        have HZZ := Lib.hid hZZ
        have HZb := Lib.hid hZb
        obtain ⟨T, hT⟩ : ∃ T, T = tab (Z.length + 1) (fun _ => 0) := ⟨_, rfl⟩
        have hTl : T.length = Z.length + 1 := by rw [hT, tab_len]
        have hT0 : ∀ i, i < Z.length + 1 → nth T i = 0 := fun i hi => by rw [hT]; exact nth_tab _ _ _ hi
        have HT := Lib.hid hT
        have HT0 := Lib.hid hT0
        have HTl := Lib.hid hTl
        have Hg2 := Lib.hid hg2
        clear hZ hZb hZZ hT hT0 hTl H0 hg2
        go_wp2_with fail
        have hext : ∀ (i : Nat) (own : Value) (ys : Nat → Value) (wa wb : World), Ext wa wb → (match i with | 0 => own = .slice (some ⟨b, off, none⟩) N c1 | 1 => own = .pointer (some ⟨b, off, none⟩) | 2 => own = .slice a' Z.length c' | 3 => own = .slice (some ⟨b, off, none⟩) N c1 | 4 => own = .pointer (some ⟨b, off, none⟩) | 5 => own = .slice a' Z.length c' | 6 => ∃ (a7 : Option Addr), own = .slice a7 2 2 ∧ SS wa a7 2 [Z, Z] | 7 => ∃ (a8 : Option Addr) (c8 : Nat), own = .slice a8 (Z.length + 1) c8 ∧ wa.ownsRow w4.heap.size 5 1 (.slice a8 (Z.length + 1) c8) (Z.length + 1) (T.map (Value.int .u8)) | 8 => ∃ (a8 : Option Addr) (c8 : Nat), own = .slice a8 (Z.length + 1) c8 ∧ wa.ownsRow w4.heap.size 5 1 (.slice a8 (Z.length + 1) c8) (Z.length + 1) (T.map (Value.int .u8)) | _ => True) → (match i with | 0 => own = .slice (some ⟨b, off, none⟩) N c1 | 1 => own = .pointer (some ⟨b, off, none⟩) | 2 => own = .slice a' Z.length c' | 3 => own = .slice (some ⟨b, off, none⟩) N c1 | 4 => own = .pointer (some ⟨b, off, none⟩) | 5 => own = .slice a' Z.length c' | 6 => ∃ (a7 : Option Addr), own = .slice a7 2 2 ∧ SS wb a7 2 [Z, Z] | 7 => ∃ (a8 : Option Addr) (c8 : Nat), own = .slice a8 (Z.length + 1) c8 ∧ wb.ownsRow w4.heap.size 5 1 (.slice a8 (Z.length + 1) c8) (Z.length + 1) (T.map (Value.int .u8)) | 8 => ∃ (a8 : Option Addr) (c8 : Nat), own = .slice a8 (Z.length + 1) c8 ∧ wb.ownsRow w4.heap.size 5 1 (.slice a8 (Z.length + 1) c8) (Z.length + 1) (T.map (Value.int .u8)) | _ => True) := by
          intro i own ys wa wb e h
          match i, h with
          | 0, h => exact h
          | 1, h => exact h
          | 2, h => exact h
          | 3, h => exact h
          | 4, h => exact h
          | 5, h => exact h
          | 6, h => obtain ⟨a7, h1, h2⟩ := h; exact ⟨a7, h1, h2.ext e⟩
          | 7, h => obtain ⟨a8, c8, h1, h2⟩ := h; exact ⟨a8, c8, h1, owns_ext h2 e⟩
          | 8, h => obtain ⟨a8, c8, h1, h2⟩ := h; exact ⟨a8, c8, h1, owns_ext h2 e⟩
          | _ + 9, _ => trivial
        have Hext := Lib.hid hext
        clear hext
        refine wp_region_inv2 (by kernel_rfl) [(8, 8), (49, 0), (50, 1), (51, 2), (52, 3), (53, 4), (54, 5), (55, 6), (56, 7)] [[], [0], [0, 1], [], [3], [3, 4], [0, 1, 2, 3, 4, 5], [0, 1, 2, 3, 4, 5, 6], [0, 1, 2, 3, 4, 5, 6, 7]] (fun i own ys wx => match i with | 0 => own = .slice (some ⟨b, off, none⟩) N c1 | 1 => own = .pointer (some ⟨b, off, none⟩) | 2 => own = .slice a' Z.length c' | 3 => own = .slice (some ⟨b, off, none⟩) N c1 | 4 => own = .pointer (some ⟨b, off, none⟩) | 5 => own = .slice a' Z.length c' | 6 => ∃ (a7 : Option Addr), own = .slice a7 2 2 ∧ SS wx a7 2 [Z, Z] | 7 => ∃ (a8 : Option Addr) (c8 : Nat), own = .slice a8 (Z.length + 1) c8 ∧ wx.ownsRow w4.heap.size 5 1 (.slice a8 (Z.length + 1) c8) (Z.length + 1) (T.map (Value.int .u8)) | 8 => ∃ (a8 : Option Addr) (c8 : Nat), own = .slice a8 (Z.length + 1) c8 ∧ wx.ownsRow w4.heap.size 5 1 (.slice a8 (Z.length + 1) c8) (Z.length + 1) (T.map (Value.int .u8)) | _ => True) (fun kx wx => Ext w4 wx) (by kernel_rfl) (by kernel_rfl) (by kernel_rfl) ?g0_r2 ?gop_r2 ?gend_r2
        case g0_r2 => exact Ext.drewN _ 1
        case gop_r2 =>
          refine ⟨?_, ?_, ?_, ?_, ?_, ?_, ?_, ?_, ?_, trivial⟩
          · intro kx xs wx hk hG hD Qo Kx hK hQo
            clear hD
            simp only [patchS, Nat.reduceAdd, Nat.reduceEqDiff, ↓reduceIte] at hQo ⊢
            go_wp2
            exact hK.out _ _ ⟨rfl, hG, fun _ _ _ _ _ _ h => h⟩
          · intro kx xs wx hk hG hD Qo Kx hK hQo
            have d0 : (xs 0) = .slice (some ⟨b, off, none⟩) N c1 := hD 0 rfl
            clear hD
            simp only [patchS, Nat.reduceAdd, Nat.reduceEqDiff, ↓reduceIte] at hQo ⊢
            generalize xs 0 = y0 at *
            subst d0
            go_wp2
            exact hK.out _ _ ⟨rfl, hG, fun _ _ _ _ _ _ h => h⟩
          · intro kx xs wx hk hG hD Qo Kx hK hQo
            have d1 : (xs 1) = .pointer (some ⟨b, off, none⟩) := hD 1 rfl
            clear hD
            simp only [patchS, Nat.reduceAdd, Nat.reduceEqDiff, ↓reduceIte] at hQo ⊢
            generalize xs 1 = y1 at *
            subst d1
            have g3 := cell_ext hG g1
            go_wp2
            exact hK.out _ _ ⟨rfl, hG, fun _ _ _ _ _ _ h => h⟩
          · intro kx xs wx hk hG hD Qo Kx hK hQo
            clear hD
            simp only [patchS, Nat.reduceAdd, Nat.reduceEqDiff, ↓reduceIte] at hQo ⊢
            go_wp2
            exact hK.out _ _ ⟨rfl, hG, fun _ _ _ _ _ _ h => h⟩
          · intro kx xs wx hk hG hD Qo Kx hK hQo
            have d3 : (xs 3) = .slice (some ⟨b, off, none⟩) N c1 := hD 3 rfl
            clear hD
            simp only [patchS, Nat.reduceAdd, Nat.reduceEqDiff, ↓reduceIte] at hQo ⊢
            generalize xs 3 = y3 at *
            subst d3
            go_wp2
            exact hK.out _ _ ⟨rfl, hG, fun _ _ _ _ _ _ h => h⟩
          · intro kx xs wx hk hG hD Qo Kx hK hQo
            have d4 : (xs 4) = .pointer (some ⟨b, off, none⟩) := hD 4 rfl
            clear hD
            simp only [patchS, Nat.reduceAdd, Nat.reduceEqDiff, ↓reduceIte] at hQo ⊢
            generalize xs 4 = y4 at *
            subst d4
            have g3 := cell_ext hG g1
            go_wp2
            exact hK.out _ _ ⟨rfl, hG, fun _ _ _ _ _ _ h => h⟩
          · intro kx xs wx hk hG hD Qo Kx hK hQo
            have d2 : (xs 2) = .slice a' Z.length c' := hD 2 rfl
            have d5 : (xs 5) = .slice a' Z.length c' := hD 5 rfl
            clear hD
            simp only [patchS, Nat.reduceAdd, Nat.reduceEqDiff, ↓reduceIte] at hQo ⊢
            generalize xs 2 = y2 at *
            generalize xs 5 = y5 at *
            subst d2
            subst d5
            have e5 := Ext.alloc wx (.cells #[.slice a' Z.length c', .slice a' Z.length c'] 22)
            have s5 := SS_pair ((Sl.of_owns g2).ext hG) Hg2.out 22
            go_wp2
            exact hK.out _ _ ⟨⟨_, rfl, s5⟩, hG.trans e5, fun i _ _ _ own ys h => Hext.out i own ys _ _ e5 h⟩
          · intro kx xs wx hk hG hD Qo Kx hK hQo
            have d6 : ∃ (a7 : Option Addr), (xs 6) = .slice a7 2 2 ∧ SS wx a7 2 [Z, Z] := hD 6 rfl
            clear hD
            simp only [patchS, Nat.reduceAdd, Nat.reduceEqDiff, ↓reduceIte] at hQo ⊢
            generalize xs 6 = y6 at *
            obtain ⟨a7, rfl, s7⟩ := d6
            go_wp2_with fail
            refine (impl_ParityOf_any a7 2 2 [Z, Z] _ (by omega) (by intro s hs; simp at hs; subst hs; exact HZb.out) s7).mono ?_
            rintro e w6 ⟨v6, rfl, own6, e6⟩
            rw [HZZ.out, ← HT.out, HTl.out] at own6
            obtain ⟨a6, c6, rfl⟩ := owns_form own6
            go_wp2
            exact hK.out _ _ ⟨⟨_, _, rfl, owns_mono own6 hG.size⟩, hG.trans e6, fun i _ _ _ own ys h => Hext.out i own ys _ _ e6 h⟩
          · intro kx xs wx hk hG hD Qo Kx hK hQo
            have d7 : ∃ (a8 : Option Addr) (c8 : Nat), (xs 7) = .slice a8 (Z.length + 1) c8 ∧ wx.ownsRow w4.heap.size 5 1 (.slice a8 (Z.length + 1) c8) (Z.length + 1) (T.map (Value.int .u8)) := hD 7 rfl
            clear hD
            simp only [patchS, Nat.reduceAdd, Nat.reduceEqDiff, ↓reduceIte] at hQo ⊢
            generalize xs 7 = y7 at *
            obtain ⟨a8, c8, rfl, o8⟩ := d7
            go_wp2
            exact hK.out _ _ ⟨⟨_, _, rfl, o8⟩, hG, fun _ _ _ _ _ _ h => h⟩
        clear Hext
        intro xs wx hV hG
        have d0 : (xs 0) = .slice (some ⟨b, off, none⟩) N c1 := hV 0 (by decide)
        have d1 : (xs 1) = .pointer (some ⟨b, off, none⟩) := hV 1 (by decide)
        have d2 : (xs 2) = .slice a' Z.length c' := hV 2 (by decide)
        have d3 : (xs 3) = .slice (some ⟨b, off, none⟩) N c1 := hV 3 (by decide)
        have d4 : (xs 4) = .pointer (some ⟨b, off, none⟩) := hV 4 (by decide)
        have d5 : (xs 5) = .slice a' Z.length c' := hV 5 (by decide)
        have d6 : ∃ (a7 : Option Addr), (xs 6) = .slice a7 2 2 ∧ SS wx a7 2 [Z, Z] := hV 6 (by decide)
        have d7 : ∃ (a8 : Option Addr) (c8 : Nat), (xs 7) = .slice a8 (Z.length + 1) c8 ∧ wx.ownsRow w4.heap.size 5 1 (.slice a8 (Z.length + 1) c8) (Z.length + 1) (T.map (Value.int .u8)) := hV 7 (by decide)
        have d8 : ∃ (a8 : Option Addr) (c8 : Nat), (xs 8) = .slice a8 (Z.length + 1) c8 ∧ wx.ownsRow w4.heap.size 5 1 (.slice a8 (Z.length + 1) c8) (Z.length + 1) (T.map (Value.int .u8)) := hV 8 (by decide)
        clear hV
        simp only [patchS, Nat.reduceAdd, Nat.reduceEqDiff, ↓reduceIte]
        generalize xs 0 = y0 at *
        generalize xs 1 = y1 at *
        generalize xs 2 = y2 at *
        generalize xs 3 = y3 at *
        generalize xs 4 = y4 at *
        generalize xs 5 = y5 at *
        generalize xs 6 = y6 at *
        generalize xs 7 = y7 at *
        generalize xs 8 = y8 at *
        replace hG : Ext w4 wx := hG
        clear d0 d1 d2 d3 d4 d5 d6 d7
        obtain ⟨a8, c8, rfl, o8⟩ := d8
        have E5 := E4.trans hG
        have own5 := owns_ext own4 hG
        have sT5 := sT.ext hG
        have sZ := Sl.of_owns o8
        clear E4 own4 sT hG g1 g2 HZZ HZb S4 o8
        generalize wx = w5 at *
        go_wp2_with fail
        go_loop [9] (fun i => ∃ k : Nat, k ≤ Z.length + 1 ∧ i = .int .i64 k) (fun i => Z.length + 1 - (intOf i).toNat)
        case atStart => exact ⟨0, by omega, rfl⟩
        case round =>
          obtain ⟨k, hk, rfl⟩ := hrel
          by_cases hlt : k < Z.length + 1
          · obtain ⟨b8, o8, rfl, g8⟩ := sZ.int hlt
            rw [HT0.out k hlt] at g8
            go_wp2
            go_round
            case rel => exact ⟨k + 1, by omega, by go_num⟩
            case measure => simp [intOf]; omega
          · obtain rfl : k = Z.length + 1 := by omega
            go_wp2_with fail
            have hext : ∀ (i : Nat) (own : Value) (ys : Nat → Value) (wa wb : World), Ext wa wb → (match i with | 0 => own = .slice a5 N c5 | 1 => ∃ (a9 : Option Addr) (c9 : Nat), own = .slice a9 m c9 ∧ wa.ownsRow w5.heap.size 5 1 (.slice a9 m c9) m ((parity L).map (Value.int .u8)) | 2 => own = .string (strOfNums (parity L)) | 3 => own = .slice a2 m c2 | 4 => own = .string (strOfNums (parity L)) | 5 => own = .bool true | 6 => own = .bool true | 7 => own = .slice a2 m c2 | 8 => own = .int .i64 m | 9 => own = .int .i64 ((m - 1 : Nat) : Int) | 10 => own = .int .i64 (((m - 1 : Nat) : Int) + 1) | 11 => own = .bool true | 12 => own = .bool true | 13 => own = .bool true | _ => True) → (match i with | 0 => own = .slice a5 N c5 | 1 => ∃ (a9 : Option Addr) (c9 : Nat), own = .slice a9 m c9 ∧ wb.ownsRow w5.heap.size 5 1 (.slice a9 m c9) m ((parity L).map (Value.int .u8)) | 2 => own = .string (strOfNums (parity L)) | 3 => own = .slice a2 m c2 | 4 => own = .string (strOfNums (parity L)) | 5 => own = .bool true | 6 => own = .bool true | 7 => own = .slice a2 m c2 | 8 => own = .int .i64 m | 9 => own = .int .i64 ((m - 1 : Nat) : Int) | 10 => own = .int .i64 (((m - 1 : Nat) : Int) + 1) | 11 => own = .bool true | 12 => own = .bool true | 13 => own = .bool true | _ => True) := by
              intro i own ys wa wb e h
              match i, h with
              | 0, h => exact h
              | 1, h => obtain ⟨a9, c9, h1, h2⟩ := h; exact ⟨a9, c9, h1, owns_ext h2 e⟩
              | 2, h => exact h
              | 3, h => exact h
              | 4, h => exact h
              | 5, h => exact h
              | 6, h => exact h
              | 7, h => exact h
              | 8, h => exact h
              | 9, h => exact h
              | 10, h => exact h
              | 11, h => exact h
              | 12, h => exact h
              | 13, h => exact h
              | _ + 14, _ => trivial
            have Hext := Lib.hid hext
            clear hext
            refine wp_region_inv2 (by kernel_rfl) [(2, 13), (68, 0), (69, 1), (70, 2), (71, 3), (72, 4), (73, 5), (74, 6), (75, 7), (76, 8), (77, 9), (78, 10), (79, 11), (80, 12)] [[], [0], [0, 1], [], [3], [0, 1, 2, 3, 4], [0, 1, 2, 3, 4, 5], [0, 1, 2, 3, 4, 5, 6], [0, 1, 2, 3, 4, 5, 6, 7], [0, 1, 2, 3, 4, 5, 6], [0, 1, 2, 3, 4, 5, 6, 9], [0, 1, 2, 3, 4, 5, 6, 7, 8, 9, 10], [0, 1, 2, 3, 4, 5, 6, 7, 8, 9, 10, 11], [0, 1, 2, 3, 4, 5, 6, 7, 8, 9, 10, 11, 12]] (fun i own ys wx => match i with | 0 => own = .slice a5 N c5 | 1 => ∃ (a9 : Option Addr) (c9 : Nat), own = .slice a9 m c9 ∧ wx.ownsRow w5.heap.size 5 1 (.slice a9 m c9) m ((parity L).map (Value.int .u8)) | 2 => own = .string (strOfNums (parity L)) | 3 => own = .slice a2 m c2 | 4 => own = .string (strOfNums (parity L)) | 5 => own = .bool true | 6 => own = .bool true | 7 => own = .slice a2 m c2 | 8 => own = .int .i64 m | 9 => own = .int .i64 ((m - 1 : Nat) : Int) | 10 => own = .int .i64 (((m - 1 : Nat) : Int) + 1) | 11 => own = .bool true | 12 => own = .bool true | 13 => own = .bool true | _ => True) (fun kx wx => Ext w5 wx) (by kernel_rfl) (by kernel_rfl) (by kernel_rfl) ?g0_r3 ?gop_r3 ?gend_r3
            case g0_r3 => exact Ext.drewN _ 1
            case gop_r3 =>
              refine ⟨?_, ?_, ?_, ?_, ?_, ?_, ?_, ?_, ?_, ?_, ?_, ?_, ?_, ?_, trivial⟩
              · intro kx xs wx hk hG hD Qo Kx hK hQo
                clear hD
                simp only [patchS, Nat.reduceAdd, Nat.reduceEqDiff, ↓reduceIte] at hQo ⊢
                go_wp2
                exact hK.out _ _ ⟨rfl, hG, fun _ _ _ _ _ _ h => h⟩
              · intro kx xs wx hk hG hD Qo Kx hK hQo
                have d0 : (xs 0) = .slice a5 N c5 := hD 0 rfl
                clear hD
                simp only [patchS, Nat.reduceAdd, Nat.reduceEqDiff, ↓reduceIte] at hQo ⊢
                generalize xs 0 = y0 at *
                subst d0
                go_wp2_with fail
                refine (impl_ParityOf_any a5 c5 N L.reverse _ (by omega) (fun s hs => HLb.out s (by simpa using hs)) (sT5.ext hG).toSS).mono ?_
                rintro e w6 ⟨v6, rfl, own6, e6⟩
                rw [Hrv.out, ← Hm.out] at own6
                obtain ⟨a6, c6, rfl⟩ := owns_form own6
                go_wp2
                exact hK.out _ _ ⟨⟨_, _, rfl, owns_mono own6 hG.size⟩, hG.trans e6, fun i _ _ _ own ys h => Hext.out i own ys _ _ e6 h⟩
              · intro kx xs wx hk hG hD Qo Kx hK hQo
                have d1 : ∃ (a9 : Option Addr) (c9 : Nat), (xs 1) = .slice a9 m c9 ∧ wx.ownsRow w5.heap.size 5 1 (.slice a9 m c9) m ((parity L).map (Value.int .u8)) := hD 1 rfl
                clear hD
                simp only [patchS, Nat.reduceAdd, Nat.reduceEqDiff, ↓reduceIte] at hQo ⊢
                generalize xs 1 = y1 at *
                obtain ⟨a9, c9, rfl, o9⟩ := d1
                have hcv := conv_own wx _ a9 _ c9 _ o9
                go_wp2
                exact hK.out _ _ ⟨rfl, hG, fun _ _ _ _ _ _ h => h⟩
              · intro kx xs wx hk hG hD Qo Kx hK hQo
                clear hD
                simp only [patchS, Nat.reduceAdd, Nat.reduceEqDiff, ↓reduceIte] at hQo ⊢
                go_wp2
                exact hK.out _ _ ⟨rfl, hG, fun _ _ _ _ _ _ h => h⟩
              · intro kx xs wx hk hG hD Qo Kx hK hQo
                have d3 : (xs 3) = .slice a2 m c2 := hD 3 rfl
                clear hD
                simp only [patchS, Nat.reduceAdd, Nat.reduceEqDiff, ↓reduceIte] at hQo ⊢
                generalize xs 3 = y3 at *
                subst d3
                have hcv := conv_own wx _ a2 _ c2 _ (owns_ext own5 hG)
                go_wp2
                exact hK.out _ _ ⟨rfl, hG, fun _ _ _ _ _ _ h => h⟩
              · intro kx xs wx hk hG hD Qo Kx hK hQo
                have d2 : (xs 2) = .string (strOfNums (parity L)) := hD 2 rfl
                have d4 : (xs 4) = .string (strOfNums (parity L)) := hD 4 rfl
                clear hD
                simp only [patchS, Nat.reduceAdd, Nat.reduceEqDiff, ↓reduceIte] at hQo ⊢
                generalize xs 2 = y2 at *
                generalize xs 4 = y4 at *
                subst d2
                subst d4
                go_wp2
                exact hK.out _ _ ⟨by first | rfl | simp, hG, fun _ _ _ _ _ _ h => h⟩
              · intro kx xs wx hk hG hD Qo Kx hK hQo
                have d5 : (xs 5) = .bool true := hD 5 rfl
                clear hD
                simp only [patchS, Nat.reduceAdd, Nat.reduceEqDiff, ↓reduceIte] at hQo ⊢
                generalize xs 5 = y5 at *
                subst d5
                go_wp2
                exact hK.out _ _ ⟨rfl, hG, fun _ _ _ _ _ _ h => h⟩
              · intro kx xs wx hk hG hD Qo Kx hK hQo
                have d6 : (xs 6) = .bool true := hD 6 rfl
                clear hD
                simp only [patchS, Nat.reduceAdd, Nat.reduceEqDiff, ↓reduceIte] at hQo ⊢
                generalize xs 6 = y6 at *
                subst d6
                go_wp2
                exact hK.out _ _ ⟨rfl, hG, fun _ _ _ _ _ _ h => h⟩
              · intro kx xs wx hk hG hD Qo Kx hK hQo
                have d7 : (xs 7) = .slice a2 m c2 := hD 7 rfl
                have d6 : (xs 6) = .bool true := hD 6 rfl
                clear hD
                simp only [patchS, Nat.reduceAdd, Nat.reduceEqDiff, ↓reduceIte] at hQo ⊢
                generalize xs 7 = y7 at *
                generalize xs 6 = y6 at *
                subst d7
                subst d6
                go_wp2
                exact hK.out _ _ ⟨rfl, hG, fun _ _ _ _ _ _ h => h⟩
              · intro kx xs wx hk hG hD Qo Kx hK hQo
                have d6 : (xs 6) = .bool true := hD 6 rfl
                clear hD
                simp only [patchS, Nat.reduceAdd, Nat.reduceEqDiff, ↓reduceIte] at hQo ⊢
                generalize xs 6 = y6 at *
                subst d6
                go_wp2
                exact hK.out _ _ ⟨rfl, hG, fun _ _ _ _ _ _ h => h⟩
              · intro kx xs wx hk hG hD Qo Kx hK hQo
                have d9 : (xs 9) = .int .i64 ((m - 1 : Nat) : Int) := hD 9 rfl
                have d6 : (xs 6) = .bool true := hD 6 rfl
                clear hD
                simp only [patchS, Nat.reduceAdd, Nat.reduceEqDiff, ↓reduceIte] at hQo ⊢
                generalize xs 9 = y9 at *
                generalize xs 6 = y6 at *
                subst d9
                subst d6
                go_wp2
                exact hK.out _ _ ⟨rfl, hG, fun _ _ _ _ _ _ h => h⟩
              · intro kx xs wx hk hG hD Qo Kx hK hQo
                have d8 : (xs 8) = .int .i64 m := hD 8 rfl
                have d10 : (xs 10) = .int .i64 (((m - 1 : Nat) : Int) + 1) := hD 10 rfl
                have d6 : (xs 6) = .bool true := hD 6 rfl
                clear hD
                simp only [patchS, Nat.reduceAdd, Nat.reduceEqDiff, ↓reduceIte] at hQo ⊢
                generalize xs 8 = y8 at *
                generalize xs 10 = y10 at *
                generalize xs 6 = y6 at *
                subst d8
                subst d10
                subst d6
                go_wp2
                exact hK.out _ _ ⟨by first | rfl | (simp; done) | (simp; omega), hG, fun _ _ _ _ _ _ h => h⟩
              · intro kx xs wx hk hG hD Qo Kx hK hQo
                have d6 : (xs 6) = .bool true := hD 6 rfl
                have d11 : (xs 11) = .bool true := hD 11 rfl
                clear hD
                simp only [patchS, Nat.reduceAdd, Nat.reduceEqDiff, ↓reduceIte] at hQo ⊢
                generalize xs 6 = y6 at *
                generalize xs 11 = y11 at *
                subst d6
                subst d11
                go_wp2
                exact hK.out _ _ ⟨rfl, hG, fun _ _ _ _ _ _ h => h⟩
              · intro kx xs wx hk hG hD Qo Kx hK hQo
                have d12 : (xs 12) = .bool true := hD 12 rfl
                clear hD
                simp only [patchS, Nat.reduceAdd, Nat.reduceEqDiff, ↓reduceIte] at hQo ⊢
                generalize xs 12 = y12 at *
                subst d12
                go_wp2
                exact hK.out _ _ ⟨rfl, hG, fun _ _ _ _ _ _ h => h⟩
            clear Hext
            intro xs wx hV hG
            have d0 : (xs 0) = .slice a5 N c5 := hV 0 (by decide)
            have d1 : ∃ (a9 : Option Addr) (c9 : Nat), (xs 1) = .slice a9 m c9 ∧ wx.ownsRow w5.heap.size 5 1 (.slice a9 m c9) m ((parity L).map (Value.int .u8)) := hV 1 (by decide)
            have d2 : (xs 2) = .string (strOfNums (parity L)) := hV 2 (by decide)
            have d3 : (xs 3) = .slice a2 m c2 := hV 3 (by decide)
            have d4 : (xs 4) = .string (strOfNums (parity L)) := hV 4 (by decide)
            have d5 : (xs 5) = .bool true := hV 5 (by decide)
            have d6 : (xs 6) = .bool true := hV 6 (by decide)
            have d7 : (xs 7) = .slice a2 m c2 := hV 7 (by decide)
            have d8 : (xs 8) = .int .i64 m := hV 8 (by decide)
            have d9 : (xs 9) = .int .i64 ((m - 1 : Nat) : Int) := hV 9 (by decide)
            have d10 : (xs 10) = .int .i64 (((m - 1 : Nat) : Int) + 1) := hV 10 (by decide)
            have d11 : (xs 11) = .bool true := hV 11 (by decide)
            have d12 : (xs 12) = .bool true := hV 12 (by decide)
            have d13 : (xs 13) = .bool true := hV 13 (by decide)
            clear hV
            simp only [patchS, Nat.reduceAdd, Nat.reduceEqDiff, ↓reduceIte]
            generalize xs 0 = y0 at *
            generalize xs 1 = y1 at *
            generalize xs 2 = y2 at *
            generalize xs 3 = y3 at *
            generalize xs 4 = y4 at *
            generalize xs 5 = y5 at *
            generalize xs 6 = y6 at *
            generalize xs 7 = y7 at *
            generalize xs 8 = y8 at *
            generalize xs 9 = y9 at *
            generalize xs 10 = y10 at *
            generalize xs 11 = y11 at *
            generalize xs 12 = y12 at *
            generalize xs 13 = y13 at *
            replace hG : Ext w5 wx := hG
            subst d0
            obtain ⟨a9, c9, rfl, o9⟩ := d1
            subst d2
            subst d3
            subst d4
            subst d5
            subst d6
            subst d7
            subst d8
            subst d9
            subst d10
            subst d11
            subst d12
            subst d13
            go_wp2
            go_ret
            exact ⟨rfl, E5.trans hG⟩
  · have hp : parity L = [] := by unfold parity; rw [if_neg hg]
    rw [hp] at own3 ⊢
    clear hg hp
    go_wp2_with fail
    refine (alive_any _).mono ?_
    rintro e w4 ⟨rfl, e4⟩
    go_wp2
    go_ret
    exact ⟨rfl, E3.trans e4⟩
end Go.Proofs.Ytmcdlkbofhdnlaa
