/- FnRecoverString: the walk of the law (gen_lawg2.py prints this text). -/
import Derived.Test.YtmcdlkbofhdnlaaM4
import Derived.Test.YtmcdlkbofhdnlaaLawG1
namespace Go.Proofs.Ytmcdlkbofhdnlaa
open Go.RowKit
set_option maxHeartbeats 400000
def DrawRR (w : World) (e : Ending) (w' : World) : Prop :=
  ∃ (a : Option Addr) (c : Nat) (L : List (List Int)) (lost : Int) (b : Option Addr) (d : Nat) (P : List Int), e = .returned (.tuple #[.slice a L.length c, .int .i64 lost, .slice b P.length d]) ∧ SSw w' w.heap.size (.slice a L.length c) L ∧ 1 ≤ L.length ∧ L.length ≤ 12 ∧ (∀ s ∈ L, s.length ≤ 300 ∧ ∀ z ∈ s, byt z) ∧ w'.ownsRow w.heap.size 5 1 (.slice b P.length d) P.length (P.map (Value.int .u8)) ∧ P.length ≤ 300 ∧ (∀ z ∈ P, byt z) ∧ -100 ≤ lost ∧ lost ≤ 100 ∧ Ext w w'
theorem parity_byt {L : List (List Int)} (hL : ∀ s ∈ L, ∀ z ∈ s, byt z) : ∀ z ∈ parity L, byt z := by
  intro z hz
  unfold parity at hz
  split at hz
  · rename_i hg
    have hs : small L := fun s hs => ⟨(gvalid_iff.1 hg).2.2 s hs, hL s hs⟩
    obtain ⟨i, -, rfl⟩ := List.mem_map.1 hz
    exact parT_byt hs _ (Nat.le_refl _) i
  · simp at hz
set_option maxRecDepth 100000 in
set_option maxHeartbeats 4000000 in
theorem DrawRecoverString_any (a : Option Addr) (c n : Nat) (zs : List Int) (w : World) (hc : n ≤ c) (hc2 : c ≤ 9223372036854775807) (r : Sl w a n (zs.map (Value.int .u8))) (hz : ∀ z ∈ zs, 0 ≤ z ∧ z ≤ 255) :
    Calls Try.prog 44 #[.slice a n c] w (DrawRR w) := by
  go_enter Try.func44, Try.ntmps44
  go_wp2_with fail
  refine (open_any a c n zs _ hc hc2 r hz).mono ?_
  rintro e w1 ⟨b, rfl, rd, e1, hb⟩
  have hrd : RdP w1 b 0 := ⟨0, Nat.le_refl _, rd⟩
  have hblt := hrd.lt
  clear r hz rd
  go_wp2_with fail
  refine (l20Strings_c b 0 16 _ hrd (by omega) (by omega) (by omega)).mono ?_
  rintro e w2 ⟨v, L, rfl, S2, h1, h2, h3, r2, g2⟩
  obtain ⟨a2, c2, rfl⟩ := S2.form
  have hs1 := e1.size
  have hLb : ∀ s ∈ L, ∀ z ∈ s, byt z := fun s hs => (h3 s hs).2
  have hpb := parity_byt hLb
  have hpl := parity_len hLb
  have HL := Lib.hid h3
  have HLb := Lib.hid hLb
  clear h3 hLb hrd
  go_wp2_with fail
  refine (spec_ParityOf_any a2 c2 L.length L _ (by omega) HLb.out S2.toSS).mono ?_
  rintro e w3 ⟨v3, rfl, own3, e3⟩
  have D3 : DG w1 b 6000 0 0 w3 := ⟨grown_ext g2 e3, (r2.ext e3).mono (by omega)⟩
  have S3 := S2.ext e3
  have ownt := owns_mono own3 g2.size
  obtain ⟨P, hP⟩ : ∃ P, P = parity L := ⟨_, rfl⟩
  rw [← hP] at ownt hpb hpl
  obtain ⟨a3, c3, rfl⟩ := owns_form ownt
  have HPb := Lib.hid hpb
  rw [← hP] at own3
  obtain ⟨a3', c3', hv3⟩ := owns_form own3
  have GE3 : w2.grownBy w3 (some b) := ext_gr e3
  have hs12 := g2.size
  have hb2 : b < w2.heap.size := by have := g2.size; omega
  clear g2 e3 hpb hP r2 hv3
  by_cases h0 : P.length = 0
  · obtain rfl : P = [] := List.eq_nil_of_length_eq_zero h0
    clear h0
    go_wp2_with fail
    refine (odd_c b _ 9 _ D3.2 (by omega) (by omega) (by omega)).mono ?_
    rintro e wu ⟨ou, rfl, ru, gu⟩
    have Su := S3.gr gu hblt
    have ownu := own_gr ownt gu hblt
    have Du : DG w1 b 6100 0 0 wu := ⟨grown_trans D3.1 gu, ru.mono (by omega)⟩
    clear S3 ownt D3 gu ru
    cases ou
    · go_wp2_with fail
      refine (pick_c b _ _ _ Du.2 (by omega) (by omega) (by omega)).mono ?_
      rintro e wx ⟨xx, rfl, x0, x1, rx, gx⟩
      obtain ⟨xx, rfl⟩ := Int.eq_ofNat_of_zero_le x0
      have Sx := Su.gr gx hblt
      have ownx := own_gr ownu gx hblt
      have Dx : DG w1 b 7001 0 0 wx := ⟨grown_trans Du.1 gx, rx.mono (by omega)⟩
      clear Su ownu Du gx rx
      go_wp2_with fail
      refine (pick_c b _ _ _ Dx.2 (by omega) (by omega) (by omega)).mono ?_
      rintro e wy ⟨yy, rfl, yy0, yy1, ry, gy⟩
      obtain ⟨yy, rfl⟩ := Int.eq_ofNat_of_zero_le yy0
      have Sy := Sx.gr gy hblt
      have owny := own_gr ownx gy hblt
      have gg := grown_trans Dx.1 gy
      have EE : Ext w wy := Ext.grown e1 gg (fun k hk => by simp at hk; omega)
      clear Sx ownx Dx gy ry
      go_wp2
      go_ret3
      exact ⟨a2, c2, L, (xx : Int) - (yy : Int) / 8, a3, c3, [], rfl, Sy.mono hs1, h1, h2, HL.out, owns_mono owny hs1, by omega, HPb.out, by omega, by omega, EE⟩
    · go_wp2_with fail
      refine (l20Bytes_c b _ 12 _ Du.2 (by omega) (by omega)).mono ?_
      rintro e wv ⟨vv, xs, rfl, ownv0, hxl, hxb, rv, gv⟩
      have Sv := Su.gr gv hblt
      obtain ⟨av, cv, rfl⟩ := owns_form ownv0
      have Dv : DG w1 b 6500 0 0 wv := ⟨grown_trans Du.1 gv, rv.mono (by omega)⟩
      have ownv := owns_mono ownv0 Du.1.size
      have HX := Lib.hid hxb
      clear Su Du ownu gv rv ownv0 hxb
      go_wp2_with fail
      refine (pick_c b _ _ _ Dv.2 (by omega) (by omega) (by omega)).mono ?_
      rintro e wx ⟨xx, rfl, x0, x1, rx, gx⟩
      obtain ⟨xx, rfl⟩ := Int.eq_ofNat_of_zero_le x0
      have Sx := Sv.gr gx hblt
      have ownx := own_gr ownv gx hblt
      have Dx : DG w1 b 7001 0 0 wx := ⟨grown_trans Dv.1 gx, rx.mono (by omega)⟩
      clear Sv ownv Dv gx rx
      go_wp2_with fail
      refine (pick_c b _ _ _ Dx.2 (by omega) (by omega) (by omega)).mono ?_
      rintro e wy ⟨yy, rfl, yy0, yy1, ry, gy⟩
      obtain ⟨yy, rfl⟩ := Int.eq_ofNat_of_zero_le yy0
      have Sy := Sx.gr gy hblt
      have owny := own_gr ownx gy hblt
      have gg := grown_trans Dx.1 gy
      have EE : Ext w wy := Ext.grown e1 gg (fun k hk => by simp at hk; omega)
      clear Sx ownx Dx gy ry
      go_wp2
      go_ret3
      exact ⟨a2, c2, L, (xx : Int) - (yy : Int) / 8, av, cv, xs, rfl, Sy.mono hs1, h1, h2, HL.out, owns_mono owny hs1, by omega, HX.out, by omega, by omega, EE⟩
  · have hd0 : decide (0 < (P.length : Int)) = true := by rw [decide_eq_true_iff]; omega
    go_wp2_with fail
    refine (odd_c b _ 4 _ D3.2 (by omega) (by omega) (by omega)).mono ?_
    rintro e w4 ⟨o4, rfl, r4, g4⟩
    have S4 := S3.gr g4 hblt
    have own4 := own_gr ownt g4 hblt
    have own4b := own_gr own3 g4 hb2
    have GE4 := grown_trans GE3 g4
    have D4 : DG w1 b 6001 0 0 w4 := ⟨grown_trans D3.1 g4, r4.mono (by omega)⟩
    clear S3 ownt D3 g4 r4 own3 GE3
    cases o4
    · go_wp2_with fail
      refine (odd_c b _ 9 _ D4.2 (by omega) (by omega) (by omega)).mono ?_
      rintro e wu ⟨ou, rfl, ru, gu⟩
      have Su := S4.gr gu hblt
      have ownu := own_gr own4 gu hblt
      have Du : DG w1 b 6100 0 0 wu := ⟨grown_trans D4.1 gu, ru.mono (by omega)⟩
      clear S4 own4 D4 gu ru
      cases ou
      · go_wp2_with fail
        refine (pick_c b _ _ _ Du.2 (by omega) (by omega) (by omega)).mono ?_
        rintro e wx ⟨xx, rfl, x0, x1, rx, gx⟩
        obtain ⟨xx, rfl⟩ := Int.eq_ofNat_of_zero_le x0
        have Sx := Su.gr gx hblt
        have ownx := own_gr ownu gx hblt
        have Dx : DG w1 b 7001 0 0 wx := ⟨grown_trans Du.1 gx, rx.mono (by omega)⟩
        clear Su ownu Du gx rx
        go_wp2_with fail
        refine (pick_c b _ _ _ Dx.2 (by omega) (by omega) (by omega)).mono ?_
        rintro e wy ⟨yy, rfl, yy0, yy1, ry, gy⟩
        obtain ⟨yy, rfl⟩ := Int.eq_ofNat_of_zero_le yy0
        have Sy := Sx.gr gy hblt
        have owny := own_gr ownx gy hblt
        have gg := grown_trans Dx.1 gy
        have EE : Ext w wy := Ext.grown e1 gg (fun k hk => by simp at hk; omega)
        clear Sx ownx Dx gy ry
        go_wp2
        go_ret3
        exact ⟨a2, c2, L, (xx : Int) - (yy : Int) / 8, a3, c3, P, rfl, Sy.mono hs1, h1, h2, HL.out, owns_mono owny hs1, by omega, HPb.out, by omega, by omega, EE⟩
      · go_wp2_with fail
        refine (l20Bytes_c b _ 12 _ Du.2 (by omega) (by omega)).mono ?_
        rintro e wv ⟨vv, xs, rfl, ownv0, hxl, hxb, rv, gv⟩
        have Sv := Su.gr gv hblt
        obtain ⟨av, cv, rfl⟩ := owns_form ownv0
        have Dv : DG w1 b 6500 0 0 wv := ⟨grown_trans Du.1 gv, rv.mono (by omega)⟩
        have ownv := owns_mono ownv0 Du.1.size
        have HX := Lib.hid hxb
        clear Su Du ownu gv rv ownv0 hxb
        go_wp2_with fail
        refine (pick_c b _ _ _ Dv.2 (by omega) (by omega) (by omega)).mono ?_
        rintro e wx ⟨xx, rfl, x0, x1, rx, gx⟩
        obtain ⟨xx, rfl⟩ := Int.eq_ofNat_of_zero_le x0
        have Sx := Sv.gr gx hblt
        have ownx := own_gr ownv gx hblt
        have Dx : DG w1 b 7001 0 0 wx := ⟨grown_trans Dv.1 gx, rx.mono (by omega)⟩
        clear Sv ownv Dv gx rx
        go_wp2_with fail
        refine (pick_c b _ _ _ Dx.2 (by omega) (by omega) (by omega)).mono ?_
        rintro e wy ⟨yy, rfl, yy0, yy1, ry, gy⟩
        obtain ⟨yy, rfl⟩ := Int.eq_ofNat_of_zero_le yy0
        have Sy := Sx.gr gy hblt
        have owny := own_gr ownx gy hblt
        have gg := grown_trans Dx.1 gy
        have EE : Ext w wy := Ext.grown e1 gg (fun k hk => by simp at hk; omega)
        clear Sx ownx Dx gy ry
        go_wp2
        go_ret3
        exact ⟨a2, c2, L, (xx : Int) - (yy : Int) / 8, av, cv, xs, rfl, Sy.mono hs1, h1, h2, HL.out, owns_mono owny hs1, by omega, HX.out, by omega, by omega, EE⟩
    · go_wp2_with fail
      refine (pick_c b _ _ _ D4.2 (by omega) (by omega) (by omega)).mono ?_
      rintro e w5 ⟨y, rfl, y0, y1, r5, g5⟩
      obtain ⟨y, rfl⟩ := Int.eq_ofNat_of_zero_le y0
      have S5 := S4.gr g5 hblt
      have own5 := own_gr own4b g5 hb2
      have GE5 := grown_trans GE4 g5
      have D5 : DG w1 b 6002 0 0 w5 := ⟨grown_trans D4.1 g5, r5.mono (by omega)⟩
      clear S4 own4 own4b D4 g5 r5 GE4
      go_wp2_with fail
      refine (pick_c b _ _ _ D5.2 (by omega) (by omega) (by omega)).mono ?_
      rintro e w6 ⟨z, rfl, z0, z1, r6, g6⟩
      have own6 := own_gr own5 g6 hb2
      have GE6 := grown_trans GE5 g6
      have D6 : DG w1 b 6003 0 0 w6 := ⟨grown_trans D5.1 g6, r6.mono (by omega)⟩
      clear S5 own5 D5 g6 r6 GE5
      have hyP : y < P.length := by omega
      obtain ⟨g, cap, hv, hg1, hg2⟩ := own_some own6 (by omega)
      simp only [Value.slice.injEq, true_and] at hv
      obtain ⟨rfl, rfl⟩ := hv
      obtain ⟨u, hu⟩ := owns_get own6 hyP
      obtain ⟨own7, gr7⟩ := own6.stored y (.int .u8 z)
      have D7 := D6.own gr7 (by intro q hq; simp at hq; omega) hblt
      have GE7 : w2.grownBy _ (some b) := grown_any GE6 gr7 (by intro q hq; simp at hq; omega)
      have S7 := S2.gr GE7 hblt
      have hfz := own6.frozenAt y
      have hs2 := GE6.size
      have hwr : IntKind.u8.wrap z = z := by rw [wrap_u8]; omega
      rw [← List.map_set] at own7
      obtain ⟨P7, hP7⟩ : ∃ P7, P7 = P.set y z := ⟨_, rfl⟩
      have hP7l : P7.length = P.length := by rw [hP7]; simp
      have hP7b : ∀ x ∈ P7, byt x := by
        rw [hP7]; intro x hx
        rcases List.mem_or_eq_of_mem_set hx with h | h
        · exact HPb.out x h
        · rw [h]; exact ⟨by omega, by omega⟩
      rw [← hP7, ← hP7l] at own7
      have HP7 := Lib.hid hP7b
      have own7 := owns_mono own7 hs12
      clear hP7b hP7 D6 gr7 GE6 GE7
      go_wp2_with fail
      rw [← hP7l]
      have hP7m : P7.length ≤ 256 := by omega
      clear hP7l
      go_wp2_with fail
      refine (odd_c b _ 9 _ D7.2 (by omega) (by omega) (by omega)).mono ?_
      rintro e wu ⟨ou, rfl, ru, gu⟩
      have Su := S7.gr gu hblt
      have ownu := own_gr own7 gu hblt
      have Du : DG w1 b 6100 0 0 wu := ⟨grown_trans D7.1 gu, ru.mono (by omega)⟩
      clear S7 own7 D7 gu ru
      cases ou
      · go_wp2_with fail
        refine (pick_c b _ _ _ Du.2 (by omega) (by omega) (by omega)).mono ?_
        rintro e wx ⟨xx, rfl, x0, x1, rx, gx⟩
        obtain ⟨xx, rfl⟩ := Int.eq_ofNat_of_zero_le x0
        have Sx := Su.gr gx hblt
        have ownx := own_gr ownu gx hblt
        have Dx : DG w1 b 7001 0 0 wx := ⟨grown_trans Du.1 gx, rx.mono (by omega)⟩
        clear Su ownu Du gx rx
        go_wp2_with fail
        refine (pick_c b _ _ _ Dx.2 (by omega) (by omega) (by omega)).mono ?_
        rintro e wy ⟨yy, rfl, yy0, yy1, ry, gy⟩
        obtain ⟨yy, rfl⟩ := Int.eq_ofNat_of_zero_le yy0
        have Sy := Sx.gr gy hblt
        have owny := own_gr ownx gy hblt
        have gg := grown_trans Dx.1 gy
        have EE : Ext w wy := Ext.grown e1 gg (fun k hk => by simp at hk; omega)
        clear Sx ownx Dx gy ry
        go_wp2
        go_ret3
        exact ⟨a2, c2, L, (xx : Int) - (yy : Int) / 8, (some ⟨g, 0, none⟩), c3, P7, rfl, Sy.mono hs1, h1, h2, HL.out, owns_mono owny hs1, by omega, HP7.out, by omega, by omega, EE⟩
      · go_wp2_with fail
        refine (l20Bytes_c b _ 12 _ Du.2 (by omega) (by omega)).mono ?_
        rintro e wv ⟨vv, xs, rfl, ownv0, hxl, hxb, rv, gv⟩
        have Sv := Su.gr gv hblt
        obtain ⟨av, cv, rfl⟩ := owns_form ownv0
        have Dv : DG w1 b 6500 0 0 wv := ⟨grown_trans Du.1 gv, rv.mono (by omega)⟩
        have ownv := owns_mono ownv0 Du.1.size
        have HX := Lib.hid hxb
        clear Su Du ownu gv rv ownv0 hxb
        go_wp2_with fail
        refine (pick_c b _ _ _ Dv.2 (by omega) (by omega) (by omega)).mono ?_
        rintro e wx ⟨xx, rfl, x0, x1, rx, gx⟩
        obtain ⟨xx, rfl⟩ := Int.eq_ofNat_of_zero_le x0
        have Sx := Sv.gr gx hblt
        have ownx := own_gr ownv gx hblt
        have Dx : DG w1 b 7001 0 0 wx := ⟨grown_trans Dv.1 gx, rx.mono (by omega)⟩
        clear Sv ownv Dv gx rx
        go_wp2_with fail
        refine (pick_c b _ _ _ Dx.2 (by omega) (by omega) (by omega)).mono ?_
        rintro e wy ⟨yy, rfl, yy0, yy1, ry, gy⟩
        obtain ⟨yy, rfl⟩ := Int.eq_ofNat_of_zero_le yy0
        have Sy := Sx.gr gy hblt
        have owny := own_gr ownx gy hblt
        have gg := grown_trans Dx.1 gy
        have EE : Ext w wy := Ext.grown e1 gg (fun k hk => by simp at hk; omega)
        clear Sx ownx Dx gy ry
        go_wp2
        go_ret3
        exact ⟨a2, c2, L, (xx : Int) - (yy : Int) / 8, av, cv, xs, rfl, Sy.mono hs1, h1, h2, HL.out, owns_mono owny hs1, by omega, HX.out, by omega, by omega, EE⟩
theorem recv_none {L : List (List Int)} {lost : Int} {P R : List Int} (h : (R, false) = recv L lost P) : R = [] := by
  unfold recv at h
  split at h
  · simp at h
  · simpa using h
theorem recv_len2 (L : List (List Int)) (lost : Int) (P : List Int) : (recv L lost P).1.length ≤ 256 := by
  unfold recv
  split
  · rename_i h
    have h1 := h.2.2.1
    have h2 := h.1.2.2.2.2
    simp [tab_len]; omega
  · simp
set_option maxRecDepth 100000 in
set_option maxHeartbeats 4000000 in
theorem law_FnRecoverString (a : Option Addr) (c n : Nat) (zs : List Int) (w : World) (hn0 : n ≤ c ∧ c ≤ maxLen) (sl : Sl w a n (zs.map (Value.int .u8))) (wf : ∀ z ∈ zs, (Lit.int .u8 z).wf = true) :
    Calls Try.prog 12 #[.slice a n c] w fun e w' => e = .returned (.bool true) ∧ Ext w w' := by
  have hn : n ≤ c ∧ c ≤ 9223372036854775807 := ⟨hn0.1, hn0.2⟩
  clear hn0
  have hz := Lib.hid (byte_range3 wf)
  clear wf
  by_cases hbig : 1048576 < n
  · go_enter Try.func12, Try.ntmps12
    go_wp2
    go_ret
    refine ⟨rfl, ?_⟩
    (repeat (first | with_reducible exact Below.refl _ _ | assumption | with_reducible refine below_drewN ?_ _ | with_reducible refine Below.drew ?_ | with_reducible refine Below.setCell ?_ (by simp <;> omega) _ | with_reducible refine Ext.trans ?_ (Ext.alloc _ _)))
  go_enter Try.func12, Try.ntmps12
  go_wp2_with fail
  refine (DrawRecoverString_any a c n zs _ hn.1 hn.2 (sl.ext (by (repeat (first | with_reducible exact Below.refl _ _ | assumption | with_reducible refine below_drewN ?_ _ | with_reducible refine Below.drew ?_ | with_reducible refine Below.setCell ?_ (by simp <;> omega) _ | with_reducible refine Ext.trans ?_ (Ext.alloc _ _))))) hz.out).mono ?_
  rintro e w1 ⟨a1, c1, L, lost, b1, d1, P, rfl, S1, hl1, hl2, hL, own1, hPl, hPb, hlo1, hlo2, e1⟩
  have E1 : Ext w w1 := by refine Ext.trans ?_ e1; (repeat (first | with_reducible exact Below.refl _ _ | assumption | with_reducible refine below_drewN ?_ _ | with_reducible refine Below.drew ?_ | with_reducible refine Below.setCell ?_ (by simp <;> omega) _ | with_reducible refine Ext.trans ?_ (Ext.alloc _ _)))
  clear sl hz e1
  have hLb : ∀ s ∈ L, ∀ z ∈ s, byt z := fun s hs => (hL s hs).2
  have HLb := Lib.hid hLb
  have HPb := Lib.hid hPb
  obtain ⟨N, hN⟩ : ∃ N, N = L.length := ⟨_, rfl⟩
  obtain ⟨p, hp⟩ : ∃ p, p = P.length := ⟨_, rfl⟩
  rw [← hN] at S1 hl1 hl2 ⊢
  rw [← hp] at own1 hPl ⊢
  have HN := Lib.hid hN
  obtain ⟨R, ok, hR⟩ : ∃ R ok, (R, ok) = recv L lost P := ⟨_, _, rfl⟩
  have hRl := recv_len2 L lost P
  rw [← hR] at hRl
  have HR := Lib.hid hR
  clear hL hLb hPb hN hp hR
  go_wp2_with fail
  refine (impl_RecoverString_any a1 c1 N L lost b1 d1 p P _ (by omega) (by omega) HLb.out HPb.out S1.toSS (Sl.of_owns own1)).mono ?_
  rintro e w2 ⟨v2, rfl, own2, e2⟩
  simp only [← HR.out] at own2 hRl ⊢
  obtain ⟨a2, c2, rfl⟩ := owns_form own2
  have E2 := E1.trans e2
  have S2 := S1.ext e2
  have own1' := owns_ext own1 e2
  clear S1 E1 e2 own1
  go_wp2_with fail
  refine (spec_RecoverString_any a1 c1 N L lost b1 d1 p P _ (by omega) (by omega) (by omega) HLb.out HPb.out S2.toSS (Sl.of_owns own1')).mono ?_
  rintro e w3 ⟨v3, rfl, own3, e3⟩
  simp only [← HR.out] at own3 ⊢
  obtain ⟨a3, c3, rfl⟩ := owns_form own3
  have E3 := E2.trans e3
  have S3 := S2.ext e3
  have cv2 := conv_own w3 _ a2 _ c2 _ (owns_ext own2 e3)
  have cv3 := conv_own w3 _ a3 _ c3 _ own3
  clear S2 E2 e3 own1' own2 own3
  cases ok
  · have hR0 := recv_none HR.out
    subst hR0
    simp only [List.length_nil] at cv2 cv3
    clear HR
    go_wp2_with fail
    refine (impl_ParityOf_any a1 c1 N L _ (by omega) HLb.out S3.toSS).mono ?_
    rintro e w4 ⟨v4, rfl, own4, e4⟩
    obtain ⟨a4, c4, rfl⟩ := owns_form own4
    have E4 := E3.trans e4
    have S4 := S3.ext e4
    clear cv2 cv3 E3 S3 e4
    by_cases hg : gvalid L = true
    · obtain ⟨-, hp1⟩ := parity_pos hg
      have hrec : ∀ k, k < N → recv (L.set k [1, 2, 3]) (k : Int) (parity L) = (lget L k, true) := fun k hk => recv_holes hg HLb.out (by rw [← HN.out]; exact hk) (by simp)
      have hl255 : ∀ i, i < N → (lget L i).length ≤ 255 := fun i hi => (gvalid_iff.1 hg).2.2 _ (lget_mem L i (by rw [← HN.out]; exact hi))
      have hm256 := parity_len HLb.out
      have hppb := parity_byt HLb.out
      obtain ⟨Q, hQ⟩ : ∃ Q, Q = parity L := ⟨_, rfl⟩
      rw [← hQ] at own4 hp1 hrec hm256 hppb ⊢
      obtain ⟨m, hm⟩ : ∃ m, m = Q.length := ⟨_, rfl⟩
      rw [← hm] at own4 hp1 hm256 ⊢
      have Hrec := Lib.hid hrec
      have Hl255 := Lib.hid hl255
      have HQb := Lib.hid hppb
      clear hg hrec hl255 hppb hQ hm
      go_wp2_with fail
      go_loopw [11, 12, 13, 14] (fun i _ _ _ wr => ∃ k : Nat, k ≤ N ∧ i = .int .i64 k ∧ Ext w4 wr) (fun i _ _ _ _ => N - (intOf i).toNat)
      case atStart => exact ⟨0, by omega, rfl, Below.refl _ _⟩
      case round =>
        obtain ⟨k, hk, rfl, e5⟩ := hrel
        by_cases hlt : k < N
        · obtain ⟨b, off, a', c', hab, g1, g2⟩ := S4.at hlt
          subst hab
          have hl5 := Hl255.out k hlt
          obtain ⟨cs, o4, q4⟩ := id S4
          have hLN : L.length = N := HN.out.symm
          rw [hLN] at o4 q4
          have hcs : cs.length = N := by have := o4.1; omega
          have hone : ∀ u ∈ cs, u.oneCell' = true := by
            intro u hu
            obtain ⟨i, hi, rfl⟩ := List.getElem_of_mem hu
            obtain ⟨a5, c5, h1, -⟩ := q4 i (by omega)
            rw [List.getElem?_eq_getElem hi] at h1
            simp only [Option.some.injEq] at h1
            rw [h1]; rfl
          have eA := Ext.alloc wr (.cells #[] 22)
          have ownA := World.ownsRow_made (base := wr.heap.size) (e := 22) (size := 1) wr #[] 0 (Nat.le_refl _) (by simp) rfl
          have slA := (Sl.of_owns o4).ext (e5.trans eA)
          have hbA : wr.heap.size ≤ (wr.alloc (.cells #[] 22)).heap.size := eA.size
          have hB := (E4.trans e5).size
          have Q4 := Lib.hid q4
          have Hone := Lib.hid hone
          have Hcs := Lib.hid hcs
          have HLN := Lib.hid hLN
          clear o4 q4 hone hcs hLN
          generalize hwA : wr.alloc (.cells #[] 22) = wA at *
          go_wp2_with (at_builtin; refine wpList_apps _ ownA hbA rfl _ _ 53 rfl (.slice none 0 0) 24 Try.underlying53 info_BS rfl rfl _ N c1 cs rfl slA Hone.out (by omega) (by omega) ?_; intro v7 w7 own7 gr7; refine Hid.out ?_)
          rw [Nat.zero_add, List.nil_append] at own7
          have E7 : Ext wr w7 := Ext.grown eA gr7 (owns_ge ownA)
          obtain ⟨g, cap, rfl, hg1, hg2⟩ := own_some own7 (by omega)
          clear ownA slA gr7 hwA eA hbA
          have e8 := Ext.alloc w7 (.cells #[.int .u8 1, .int .u8 2, .int .u8 3] 5)
          have own7' := owns_ext own7 e8
          have hfz := own7'.frozenAt k
          obtain ⟨u, hu⟩ := owns_get own7' hlt
          obtain ⟨own8, gr8⟩ := own7.stored k (.slice (some ⟨w7.heap.size, 0, none⟩) 3 3)
          have hs8 : (w7.setCell ⟨g, k, none⟩ (.slice (some ⟨w7.heap.size, 0, none⟩) 3 3)).heap.size = w7.heap.size := by simp
          have E8 : Ext wr (w7.setCell ⟨g, k, none⟩ (.slice (some ⟨w7.heap.size, 0, none⟩) 3 3)) := Ext.grown E7 gr8 (fun q hq => by cases hq; omega)
          have e9 := Ext.alloc (w7.setCell ⟨g, k, none⟩ (.slice (some ⟨w7.heap.size, 0, none⟩) 3 3)) (.cells #[.int .u8 1, .int .u8 2, .int .u8 3] 5)
          have E9 := E8.trans e9
          have ownX := World.ownsRow_lit (base := wr.heap.size) (e := 5) (size := 1) (w7.setCell ⟨g, k, none⟩ (.slice (some ⟨w7.heap.size, 0, none⟩) 3 3)) #[.int .u8 1, .int .u8 2, .int .u8 3] 3 E8.size (by unfold maxLen; omega) rfl
          rw [hs8] at ownX
          have own9 := owns_ext own8 e9
          have S9 : SSw ((w7.setCell ⟨g, k, none⟩ (.slice (some ⟨w7.heap.size, 0, none⟩) 3 3)).alloc (.cells #[.int .u8 1, .int .u8 2, .int .u8 3] 5)) w.heap.size (.slice (some ⟨g, 0, none⟩) N cap) (L.set k [1, 2, 3]) := by
            refine ⟨cs.set k (.slice (some ⟨w7.heap.size, 0, none⟩) 3 3), ?_, fun i hi => ?_⟩
            · rw [List.length_set, HLN.out]; exact owns_mono own9 hB
            · rw [List.length_set, HLN.out] at hi
              by_cases hik : i = k
              · subst hik
                rw [lget_set_eq (by rw [HLN.out]; exact hlt)]
                refine ⟨_, 3, ?_, owns_mono ownX hB⟩
                rw [List.getElem?_set_self (by rw [Hcs.out]; exact hlt)]; rfl
              · rw [lget_set_ne hik]
                obtain ⟨a5, c5, h1, h2⟩ := Q4.out i hi
                exact ⟨a5, c5, by rw [List.getElem?_set_ne (fun h => hik h.symm)]; exact h1, owns_ext h2 (e5.trans E9)⟩
          have own9' := owns_ext own4 (e5.trans E9)
          refine Lib.hid ?_
          clear own7 own7' own8 own9 ownX gr8 E7 e8 e9 E8 hs8
          go_wp2_with fail
          refine (impl_RecoverString_any (some ⟨g, 0, none⟩) cap N (L.set k [1, 2, 3]) k a4 c4 m Q _ (by omega) (by omega) ?_ HQb.out S9.toSS (Sl.of_owns own9')).mono ?_
          · intro s hs
            rcases List.mem_or_eq_of_mem_set hs with h | h
            · exact HLb.out s h
            · subst h; intro z hz; simp at hz; rcases hz with rfl | rfl | rfl <;> exact ⟨by omega, by omega⟩
          rintro e w10 ⟨v10, rfl, own10, e10⟩
          simp only [Hrec.out k hlt] at own10 ⊢
          obtain ⟨a10, c10, rfl⟩ := owns_form own10
          have E10 := (e5.trans E9).trans e10
          have g1' := cell_ext E10 g1
          have g2' := owns_ext g2 E10
          obtain ⟨ln, hln⟩ : ∃ ln, ln = (lget L k).length := ⟨_, rfl⟩
          rw [← hln] at own10 g1' g2' hl5 ⊢
          have Hln := Lib.hid hln
          clear S9 own9' e10 E9 e5 hu hfz hln g1 g2
          go_wp2_with fail
          refine wp_region_inv2 (by kernel_rfl) [(84, 0), (85, 1), (86, 2), (87, 3), (88, 4), (89, 5), (90, 6), (91, 7), (92, 8), (93, 9), (94, 10), (95, 11)] [[], [0], [0, 1], [0, 1, 2], [0, 1, 2, 3], [0, 1, 2], [0, 1, 2], [0, 1, 2, 5, 6], [0, 1, 2, 5, 6, 7], [0, 1, 2, 5, 6, 7, 8], [0, 1, 2, 3, 4, 5, 6, 7, 8, 9], [0, 1, 2, 3, 4, 5, 6, 7, 8, 9, 10]] (fun i own ys wx => match i with | 0 => own = .bool true | 1 => own = .bool false | 2 => own = .bool false | 3 => own = .slice a10 ln c10 | 4 => own = .string (strOfNums (lget L k)) | 5 => own = .slice (some ⟨b, off, none⟩) N c1 | 6 => own = .int .i64 k | 7 => own = .pointer (some ⟨b, off + k, none⟩) | 8 => own = .slice a' ln c' | 9 => own = .string (strOfNums (lget L k)) | 10 => own = .bool false | 11 => own = .bool false | _ => True) (fun kx wx => Ext w10 wx) (by kernel_rfl) (by kernel_rfl) (by kernel_rfl) ?g0_r1 ?gop_r1 ?gend_r1
          case g0_r1 => exact Ext.drewN _ 1
          case gop_r1 =>
            refine ⟨?_, ?_, ?_, ?_, ?_, ?_, ?_, ?_, ?_, ?_, ?_, ?_, trivial⟩
            · intro kx xs wx hk hG hD Qo Kx hK hQo
              clear hD
              simp only [patchS, Nat.reduceAdd, Nat.reduceEqDiff, ↓reduceIte] at hQo ⊢
              go_wp2
              exact hK.out _ _ ⟨rfl, hG, fun _ _ _ _ _ _ h => h⟩
            · intro kx xs wx hk hG hD Qo Kx hK hQo
              have d0 : (xs 0) = .bool true := hD 0 rfl
              clear hD
              simp only [patchS, Nat.reduceAdd, Nat.reduceEqDiff, ↓reduceIte] at hQo ⊢
              generalize xs 0 = y0 at *
              subst d0
              go_wp2
              exact hK.out _ _ ⟨rfl, hG, fun _ _ _ _ _ _ h => h⟩
            · intro kx xs wx hk hG hD Qo Kx hK hQo
              have d1 : (xs 1) = .bool false := hD 1 rfl
              clear hD
              simp only [patchS, Nat.reduceAdd, Nat.reduceEqDiff, ↓reduceIte] at hQo ⊢
              generalize xs 1 = y1 at *
              subst d1
              go_wp2
              exact hK.out _ _ ⟨rfl, hG, fun _ _ _ _ _ _ h => h⟩
            · intro kx xs wx hk hG hD Qo Kx hK hQo
              have d2 : (xs 2) = .bool false := hD 2 rfl
              clear hD
              simp only [patchS, Nat.reduceAdd, Nat.reduceEqDiff, ↓reduceIte] at hQo ⊢
              generalize xs 2 = y2 at *
              subst d2
              go_wp2
              exact hK.out _ _ ⟨rfl, hG, fun _ _ _ _ _ _ h => h⟩
            · intro kx xs wx hk hG hD Qo Kx hK hQo
              have d3 : (xs 3) = .slice a10 ln c10 := hD 3 rfl
              have d2 : (xs 2) = .bool false := hD 2 rfl
              clear hD
              simp only [patchS, Nat.reduceAdd, Nat.reduceEqDiff, ↓reduceIte] at hQo ⊢
              generalize xs 3 = y3 at *
              generalize xs 2 = y2 at *
              subst d3
              subst d2
              have hcv := conv_own wx _ a10 _ c10 _ (owns_ext own10 hG)
              go_wp2
              exact hK.out _ _ ⟨rfl, hG, fun _ _ _ _ _ _ h => h⟩
            · intro kx xs wx hk hG hD Qo Kx hK hQo
              have d2 : (xs 2) = .bool false := hD 2 rfl
              clear hD
              simp only [patchS, Nat.reduceAdd, Nat.reduceEqDiff, ↓reduceIte] at hQo ⊢
              generalize xs 2 = y2 at *
              subst d2
              go_wp2
              exact hK.out _ _ ⟨rfl, hG, fun _ _ _ _ _ _ h => h⟩
            · intro kx xs wx hk hG hD Qo Kx hK hQo
              have d2 : (xs 2) = .bool false := hD 2 rfl
              clear hD
              simp only [patchS, Nat.reduceAdd, Nat.reduceEqDiff, ↓reduceIte] at hQo ⊢
              generalize xs 2 = y2 at *
              subst d2
              go_wp2
              exact hK.out _ _ ⟨rfl, hG, fun _ _ _ _ _ _ h => h⟩
            · intro kx xs wx hk hG hD Qo Kx hK hQo
              have d5 : (xs 5) = .slice (some ⟨b, off, none⟩) N c1 := hD 5 rfl
              have d6 : (xs 6) = .int .i64 k := hD 6 rfl
              have d2 : (xs 2) = .bool false := hD 2 rfl
              clear hD
              simp only [patchS, Nat.reduceAdd, Nat.reduceEqDiff, ↓reduceIte] at hQo ⊢
              generalize xs 5 = y5 at *
              generalize xs 6 = y6 at *
              generalize xs 2 = y2 at *
              subst d5
              subst d6
              subst d2
              go_wp2
              exact hK.out _ _ ⟨rfl, hG, fun _ _ _ _ _ _ h => h⟩
            · intro kx xs wx hk hG hD Qo Kx hK hQo
              have d7 : (xs 7) = .pointer (some ⟨b, off + k, none⟩) := hD 7 rfl
              have d2 : (xs 2) = .bool false := hD 2 rfl
              clear hD
              simp only [patchS, Nat.reduceAdd, Nat.reduceEqDiff, ↓reduceIte] at hQo ⊢
              generalize xs 7 = y7 at *
              generalize xs 2 = y2 at *
              subst d7
              subst d2
              have g3 := cell_ext hG g1'
              go_wp2
              exact hK.out _ _ ⟨rfl, hG, fun _ _ _ _ _ _ h => h⟩
            · intro kx xs wx hk hG hD Qo Kx hK hQo
              have d8 : (xs 8) = .slice a' ln c' := hD 8 rfl
              have d2 : (xs 2) = .bool false := hD 2 rfl
              clear hD
              simp only [patchS, Nat.reduceAdd, Nat.reduceEqDiff, ↓reduceIte] at hQo ⊢
              generalize xs 8 = y8 at *
              generalize xs 2 = y2 at *
              subst d8
              subst d2
              have hcv := conv_own wx _ a' _ c' _ (owns_ext g2' hG)
              go_wp2
              exact hK.out _ _ ⟨rfl, hG, fun _ _ _ _ _ _ h => h⟩
            · intro kx xs wx hk hG hD Qo Kx hK hQo
              have d4 : (xs 4) = .string (strOfNums (lget L k)) := hD 4 rfl
              have d9 : (xs 9) = .string (strOfNums (lget L k)) := hD 9 rfl
              have d2 : (xs 2) = .bool false := hD 2 rfl
              clear hD
              simp only [patchS, Nat.reduceAdd, Nat.reduceEqDiff, ↓reduceIte] at hQo ⊢
              generalize xs 4 = y4 at *
              generalize xs 9 = y9 at *
              generalize xs 2 = y2 at *
              subst d4
              subst d9
              subst d2
              go_wp2
              exact hK.out _ _ ⟨by first | rfl | simp, hG, fun _ _ _ _ _ _ h => h⟩
            · intro kx xs wx hk hG hD Qo Kx hK hQo
              have d2 : (xs 2) = .bool false := hD 2 rfl
              have d10 : (xs 10) = .bool false := hD 10 rfl
              clear hD
              simp only [patchS, Nat.reduceAdd, Nat.reduceEqDiff, ↓reduceIte] at hQo ⊢
              generalize xs 2 = y2 at *
              generalize xs 10 = y10 at *
              subst d2
              subst d10
              go_wp2
              exact hK.out _ _ ⟨rfl, hG, fun _ _ _ _ _ _ h => h⟩
          intro xs wx hV hG
          have d0 : (xs 0) = .bool true := hV 0 (by decide)
          have d1 : (xs 1) = .bool false := hV 1 (by decide)
          have d2 : (xs 2) = .bool false := hV 2 (by decide)
          have d3 : (xs 3) = .slice a10 ln c10 := hV 3 (by decide)
          have d4 : (xs 4) = .string (strOfNums (lget L k)) := hV 4 (by decide)
          have d5 : (xs 5) = .slice (some ⟨b, off, none⟩) N c1 := hV 5 (by decide)
          have d6 : (xs 6) = .int .i64 k := hV 6 (by decide)
          have d7 : (xs 7) = .pointer (some ⟨b, off + k, none⟩) := hV 7 (by decide)
          have d8 : (xs 8) = .slice a' ln c' := hV 8 (by decide)
          have d9 : (xs 9) = .string (strOfNums (lget L k)) := hV 9 (by decide)
          have d10 : (xs 10) = .bool false := hV 10 (by decide)
          have d11 : (xs 11) = .bool false := hV 11 (by decide)
          clear hV
          simp only [patchS, Nat.reduceAdd, Nat.reduceEqDiff, ↓reduceIte]
          generalize xs 0 = y0 at *
          generalize xs 1 = y1 at *
          generalize xs 2 = y2 at *
          generalize xs 3 = y3 at *
          generalize xs 4 = y4 at *
          generalize xs 5 = y5 at *
          generalize xs 6 = y6 at *
          generalize xs 7 = y7 at *
          generalize xs 8 = y8 at *
          generalize xs 9 = y9 at *
          generalize xs 10 = y10 at *
          generalize xs 11 = y11 at *
          replace hG : Ext w10 wx := hG
          subst d0
          subst d1
          subst d2
          subst d3
          subst d4
          subst d5
          subst d6
          subst d7
          subst d8
          subst d9
          subst d10
          subst d11
          have E11 := E10.trans hG
          clear own10 g1' g2' E10 hG
          go_wp2_with fail
          go_roundw
          case rel => exact ⟨k + 1, by omega, by go_num, E11⟩
          case measure => simp [intOf]; omega
        · obtain rfl : k = N := by omega
          have E5 := E4.trans e5
          go_wp2_with fail
          refine (alive_any _).mono ?_
          rintro e w6 ⟨rfl, e6⟩
          go_wp2
          go_ret
          exact ⟨rfl, E5.trans e6⟩
    · have hp : parity L = [] := by unfold parity; rw [if_neg hg]
      rw [hp] at own4 ⊢
      clear hg hp own4
      go_wp2_with fail
      go_loopw [11, 12, 13, 14] (fun i _ _ _ wr => i = .int .i64 0 ∧ wr = w4) (fun i _ _ _ _ => 0)
      case atStart => exact ⟨rfl, rfl⟩
      case round =>
        obtain ⟨rfl, rfl⟩ := hrel
        go_wp2_with fail
        refine (alive_any _).mono ?_
        rintro e w6 ⟨rfl, e6⟩
        go_wp2
        go_ret
        exact ⟨rfl, E4.trans e6⟩
  · clear HR
    go_wp2_with fail
    refine (impl_ParityOf_any a1 c1 N L _ (by omega) HLb.out S3.toSS).mono ?_
    rintro e w4 ⟨v4, rfl, own4, e4⟩
    obtain ⟨a4, c4, rfl⟩ := owns_form own4
    have E4 := E3.trans e4
    have S4 := S3.ext e4
    clear cv2 cv3 E3 S3 e4
    by_cases hg : gvalid L = true
    · obtain ⟨-, hp1⟩ := parity_pos hg
      have hrec : ∀ k, k < N → recv (L.set k [1, 2, 3]) (k : Int) (parity L) = (lget L k, true) := fun k hk => recv_holes hg HLb.out (by rw [← HN.out]; exact hk) (by simp)
      have hl255 : ∀ i, i < N → (lget L i).length ≤ 255 := fun i hi => (gvalid_iff.1 hg).2.2 _ (lget_mem L i (by rw [← HN.out]; exact hi))
      have hm256 := parity_len HLb.out
      have hppb := parity_byt HLb.out
      obtain ⟨Q, hQ⟩ : ∃ Q, Q = parity L := ⟨_, rfl⟩
      rw [← hQ] at own4 hp1 hrec hm256 hppb ⊢
      obtain ⟨m, hm⟩ : ∃ m, m = Q.length := ⟨_, rfl⟩
      rw [← hm] at own4 hp1 hm256 ⊢
      have Hrec := Lib.hid hrec
      have Hl255 := Lib.hid hl255
      have HQb := Lib.hid hppb
      clear hg hrec hl255 hppb hQ hm
      go_wp2_with fail
      go_loopw [11, 12, 13, 14] (fun i _ _ _ wr => ∃ k : Nat, k ≤ N ∧ i = .int .i64 k ∧ Ext w4 wr) (fun i _ _ _ _ => N - (intOf i).toNat)
      case atStart => exact ⟨0, by omega, rfl, Below.refl _ _⟩
      case round =>
        obtain ⟨k, hk, rfl, e5⟩ := hrel
        by_cases hlt : k < N
        · obtain ⟨b, off, a', c', hab, g1, g2⟩ := S4.at hlt
          subst hab
          have hl5 := Hl255.out k hlt
          obtain ⟨cs, o4, q4⟩ := id S4
          have hLN : L.length = N := HN.out.symm
          rw [hLN] at o4 q4
          have hcs : cs.length = N := by have := o4.1; omega
          have hone : ∀ u ∈ cs, u.oneCell' = true := by
            intro u hu
            obtain ⟨i, hi, rfl⟩ := List.getElem_of_mem hu
            obtain ⟨a5, c5, h1, -⟩ := q4 i (by omega)
            rw [List.getElem?_eq_getElem hi] at h1
            simp only [Option.some.injEq] at h1
            rw [h1]; rfl
          have eA := Ext.alloc wr (.cells #[] 22)
          have ownA := World.ownsRow_made (base := wr.heap.size) (e := 22) (size := 1) wr #[] 0 (Nat.le_refl _) (by simp) rfl
          have slA := (Sl.of_owns o4).ext (e5.trans eA)
          have hbA : wr.heap.size ≤ (wr.alloc (.cells #[] 22)).heap.size := eA.size
          have hB := (E4.trans e5).size
          have Q4 := Lib.hid q4
          have Hone := Lib.hid hone
          have Hcs := Lib.hid hcs
          have HLN := Lib.hid hLN
          clear o4 q4 hone hcs hLN
          generalize hwA : wr.alloc (.cells #[] 22) = wA at *
          go_wp2_with (at_builtin; refine wpList_apps _ ownA hbA rfl _ _ 53 rfl (.slice none 0 0) 24 Try.underlying53 info_BS rfl rfl _ N c1 cs rfl slA Hone.out (by omega) (by omega) ?_; intro v7 w7 own7 gr7; refine Hid.out ?_)
          rw [Nat.zero_add, List.nil_append] at own7
          have E7 : Ext wr w7 := Ext.grown eA gr7 (owns_ge ownA)
          obtain ⟨g, cap, rfl, hg1, hg2⟩ := own_some own7 (by omega)
          clear ownA slA gr7 hwA eA hbA
          have e8 := Ext.alloc w7 (.cells #[.int .u8 1, .int .u8 2, .int .u8 3] 5)
          have own7' := owns_ext own7 e8
          have hfz := own7'.frozenAt k
          obtain ⟨u, hu⟩ := owns_get own7' hlt
          obtain ⟨own8, gr8⟩ := own7.stored k (.slice (some ⟨w7.heap.size, 0, none⟩) 3 3)
          have hs8 : (w7.setCell ⟨g, k, none⟩ (.slice (some ⟨w7.heap.size, 0, none⟩) 3 3)).heap.size = w7.heap.size := by simp
          have E8 : Ext wr (w7.setCell ⟨g, k, none⟩ (.slice (some ⟨w7.heap.size, 0, none⟩) 3 3)) := Ext.grown E7 gr8 (fun q hq => by cases hq; omega)
          have e9 := Ext.alloc (w7.setCell ⟨g, k, none⟩ (.slice (some ⟨w7.heap.size, 0, none⟩) 3 3)) (.cells #[.int .u8 1, .int .u8 2, .int .u8 3] 5)
          have E9 := E8.trans e9
          have ownX := World.ownsRow_lit (base := wr.heap.size) (e := 5) (size := 1) (w7.setCell ⟨g, k, none⟩ (.slice (some ⟨w7.heap.size, 0, none⟩) 3 3)) #[.int .u8 1, .int .u8 2, .int .u8 3] 3 E8.size (by unfold maxLen; omega) rfl
          rw [hs8] at ownX
          have own9 := owns_ext own8 e9
          have S9 : SSw ((w7.setCell ⟨g, k, none⟩ (.slice (some ⟨w7.heap.size, 0, none⟩) 3 3)).alloc (.cells #[.int .u8 1, .int .u8 2, .int .u8 3] 5)) w.heap.size (.slice (some ⟨g, 0, none⟩) N cap) (L.set k [1, 2, 3]) := by
            refine ⟨cs.set k (.slice (some ⟨w7.heap.size, 0, none⟩) 3 3), ?_, fun i hi => ?_⟩
            · rw [List.length_set, HLN.out]; exact owns_mono own9 hB
            · rw [List.length_set, HLN.out] at hi
              by_cases hik : i = k
              · subst hik
                rw [lget_set_eq (by rw [HLN.out]; exact hlt)]
                refine ⟨_, 3, ?_, owns_mono ownX hB⟩
                rw [List.getElem?_set_self (by rw [Hcs.out]; exact hlt)]; rfl
              · rw [lget_set_ne hik]
                obtain ⟨a5, c5, h1, h2⟩ := Q4.out i hi
                exact ⟨a5, c5, by rw [List.getElem?_set_ne (fun h => hik h.symm)]; exact h1, owns_ext h2 (e5.trans E9)⟩
          have own9' := owns_ext own4 (e5.trans E9)
          refine Lib.hid ?_
          clear own7 own7' own8 own9 ownX gr8 E7 e8 e9 E8 hs8
          go_wp2_with fail
          refine (impl_RecoverString_any (some ⟨g, 0, none⟩) cap N (L.set k [1, 2, 3]) k a4 c4 m Q _ (by omega) (by omega) ?_ HQb.out S9.toSS (Sl.of_owns own9')).mono ?_
          · intro s hs
            rcases List.mem_or_eq_of_mem_set hs with h | h
            · exact HLb.out s h
            · subst h; intro z hz; simp at hz; rcases hz with rfl | rfl | rfl <;> exact ⟨by omega, by omega⟩
          rintro e w10 ⟨v10, rfl, own10, e10⟩
          simp only [Hrec.out k hlt] at own10 ⊢
          obtain ⟨a10, c10, rfl⟩ := owns_form own10
          have E10 := (e5.trans E9).trans e10
          have g1' := cell_ext E10 g1
          have g2' := owns_ext g2 E10
          obtain ⟨ln, hln⟩ : ∃ ln, ln = (lget L k).length := ⟨_, rfl⟩
          rw [← hln] at own10 g1' g2' hl5 ⊢
          have Hln := Lib.hid hln
          clear S9 own9' e10 E9 e5 hu hfz hln g1 g2
          go_wp2_with fail
          refine wp_region_inv2 (by kernel_rfl) [(84, 0), (85, 1), (86, 2), (87, 3), (88, 4), (89, 5), (90, 6), (91, 7), (92, 8), (93, 9), (94, 10), (95, 11)] [[], [0], [0, 1], [0, 1, 2], [0, 1, 2, 3], [0, 1, 2], [0, 1, 2], [0, 1, 2, 5, 6], [0, 1, 2, 5, 6, 7], [0, 1, 2, 5, 6, 7, 8], [0, 1, 2, 3, 4, 5, 6, 7, 8, 9], [0, 1, 2, 3, 4, 5, 6, 7, 8, 9, 10]] (fun i own ys wx => match i with | 0 => own = .bool true | 1 => own = .bool false | 2 => own = .bool false | 3 => own = .slice a10 ln c10 | 4 => own = .string (strOfNums (lget L k)) | 5 => own = .slice (some ⟨b, off, none⟩) N c1 | 6 => own = .int .i64 k | 7 => own = .pointer (some ⟨b, off + k, none⟩) | 8 => own = .slice a' ln c' | 9 => own = .string (strOfNums (lget L k)) | 10 => own = .bool false | 11 => own = .bool false | _ => True) (fun kx wx => Ext w10 wx) (by kernel_rfl) (by kernel_rfl) (by kernel_rfl) ?g0_r2 ?gop_r2 ?gend_r2
          case g0_r2 => exact Ext.drewN _ 1
          case gop_r2 =>
            refine ⟨?_, ?_, ?_, ?_, ?_, ?_, ?_, ?_, ?_, ?_, ?_, ?_, trivial⟩
            · intro kx xs wx hk hG hD Qo Kx hK hQo
              clear hD
              simp only [patchS, Nat.reduceAdd, Nat.reduceEqDiff, ↓reduceIte] at hQo ⊢
              go_wp2
              exact hK.out _ _ ⟨rfl, hG, fun _ _ _ _ _ _ h => h⟩
            · intro kx xs wx hk hG hD Qo Kx hK hQo
              have d0 : (xs 0) = .bool true := hD 0 rfl
              clear hD
              simp only [patchS, Nat.reduceAdd, Nat.reduceEqDiff, ↓reduceIte] at hQo ⊢
              generalize xs 0 = y0 at *
              subst d0
              go_wp2
              exact hK.out _ _ ⟨rfl, hG, fun _ _ _ _ _ _ h => h⟩
            · intro kx xs wx hk hG hD Qo Kx hK hQo
              have d1 : (xs 1) = .bool false := hD 1 rfl
              clear hD
              simp only [patchS, Nat.reduceAdd, Nat.reduceEqDiff, ↓reduceIte] at hQo ⊢
              generalize xs 1 = y1 at *
              subst d1
              go_wp2
              exact hK.out _ _ ⟨rfl, hG, fun _ _ _ _ _ _ h => h⟩
            · intro kx xs wx hk hG hD Qo Kx hK hQo
              have d2 : (xs 2) = .bool false := hD 2 rfl
              clear hD
              simp only [patchS, Nat.reduceAdd, Nat.reduceEqDiff, ↓reduceIte] at hQo ⊢
              generalize xs 2 = y2 at *
              subst d2
              go_wp2
              exact hK.out _ _ ⟨rfl, hG, fun _ _ _ _ _ _ h => h⟩
            · intro kx xs wx hk hG hD Qo Kx hK hQo
              have d3 : (xs 3) = .slice a10 ln c10 := hD 3 rfl
              have d2 : (xs 2) = .bool false := hD 2 rfl
              clear hD
              simp only [patchS, Nat.reduceAdd, Nat.reduceEqDiff, ↓reduceIte] at hQo ⊢
              generalize xs 3 = y3 at *
              generalize xs 2 = y2 at *
              subst d3
              subst d2
              have hcv := conv_own wx _ a10 _ c10 _ (owns_ext own10 hG)
              go_wp2
              exact hK.out _ _ ⟨rfl, hG, fun _ _ _ _ _ _ h => h⟩
            · intro kx xs wx hk hG hD Qo Kx hK hQo
              have d2 : (xs 2) = .bool false := hD 2 rfl
              clear hD
              simp only [patchS, Nat.reduceAdd, Nat.reduceEqDiff, ↓reduceIte] at hQo ⊢
              generalize xs 2 = y2 at *
              subst d2
              go_wp2
              exact hK.out _ _ ⟨rfl, hG, fun _ _ _ _ _ _ h => h⟩
            · intro kx xs wx hk hG hD Qo Kx hK hQo
              have d2 : (xs 2) = .bool false := hD 2 rfl
              clear hD
              simp only [patchS, Nat.reduceAdd, Nat.reduceEqDiff, ↓reduceIte] at hQo ⊢
              generalize xs 2 = y2 at *
              subst d2
              go_wp2
              exact hK.out _ _ ⟨rfl, hG, fun _ _ _ _ _ _ h => h⟩
            · intro kx xs wx hk hG hD Qo Kx hK hQo
              have d5 : (xs 5) = .slice (some ⟨b, off, none⟩) N c1 := hD 5 rfl
              have d6 : (xs 6) = .int .i64 k := hD 6 rfl
              have d2 : (xs 2) = .bool false := hD 2 rfl
              clear hD
              simp only [patchS, Nat.reduceAdd, Nat.reduceEqDiff, ↓reduceIte] at hQo ⊢
              generalize xs 5 = y5 at *
              generalize xs 6 = y6 at *
              generalize xs 2 = y2 at *
              subst d5
              subst d6
              subst d2
              go_wp2
              exact hK.out _ _ ⟨rfl, hG, fun _ _ _ _ _ _ h => h⟩
            · intro kx xs wx hk hG hD Qo Kx hK hQo
              have d7 : (xs 7) = .pointer (some ⟨b, off + k, none⟩) := hD 7 rfl
              have d2 : (xs 2) = .bool false := hD 2 rfl
              clear hD
              simp only [patchS, Nat.reduceAdd, Nat.reduceEqDiff, ↓reduceIte] at hQo ⊢
              generalize xs 7 = y7 at *
              generalize xs 2 = y2 at *
              subst d7
              subst d2
              have g3 := cell_ext hG g1'
              go_wp2
              exact hK.out _ _ ⟨rfl, hG, fun _ _ _ _ _ _ h => h⟩
            · intro kx xs wx hk hG hD Qo Kx hK hQo
              have d8 : (xs 8) = .slice a' ln c' := hD 8 rfl
              have d2 : (xs 2) = .bool false := hD 2 rfl
              clear hD
              simp only [patchS, Nat.reduceAdd, Nat.reduceEqDiff, ↓reduceIte] at hQo ⊢
              generalize xs 8 = y8 at *
              generalize xs 2 = y2 at *
              subst d8
              subst d2
              have hcv := conv_own wx _ a' _ c' _ (owns_ext g2' hG)
              go_wp2
              exact hK.out _ _ ⟨rfl, hG, fun _ _ _ _ _ _ h => h⟩
            · intro kx xs wx hk hG hD Qo Kx hK hQo
              have d4 : (xs 4) = .string (strOfNums (lget L k)) := hD 4 rfl
              have d9 : (xs 9) = .string (strOfNums (lget L k)) := hD 9 rfl
              have d2 : (xs 2) = .bool false := hD 2 rfl
              clear hD
              simp only [patchS, Nat.reduceAdd, Nat.reduceEqDiff, ↓reduceIte] at hQo ⊢
              generalize xs 4 = y4 at *
              generalize xs 9 = y9 at *
              generalize xs 2 = y2 at *
              subst d4
              subst d9
              subst d2
              go_wp2
              exact hK.out _ _ ⟨by first | rfl | simp, hG, fun _ _ _ _ _ _ h => h⟩
            · intro kx xs wx hk hG hD Qo Kx hK hQo
              have d2 : (xs 2) = .bool false := hD 2 rfl
              have d10 : (xs 10) = .bool false := hD 10 rfl
              clear hD
              simp only [patchS, Nat.reduceAdd, Nat.reduceEqDiff, ↓reduceIte] at hQo ⊢
              generalize xs 2 = y2 at *
              generalize xs 10 = y10 at *
              subst d2
              subst d10
              go_wp2
              exact hK.out _ _ ⟨rfl, hG, fun _ _ _ _ _ _ h => h⟩
          intro xs wx hV hG
          have d0 : (xs 0) = .bool true := hV 0 (by decide)
          have d1 : (xs 1) = .bool false := hV 1 (by decide)
          have d2 : (xs 2) = .bool false := hV 2 (by decide)
          have d3 : (xs 3) = .slice a10 ln c10 := hV 3 (by decide)
          have d4 : (xs 4) = .string (strOfNums (lget L k)) := hV 4 (by decide)
          have d5 : (xs 5) = .slice (some ⟨b, off, none⟩) N c1 := hV 5 (by decide)
          have d6 : (xs 6) = .int .i64 k := hV 6 (by decide)
          have d7 : (xs 7) = .pointer (some ⟨b, off + k, none⟩) := hV 7 (by decide)
          have d8 : (xs 8) = .slice a' ln c' := hV 8 (by decide)
          have d9 : (xs 9) = .string (strOfNums (lget L k)) := hV 9 (by decide)
          have d10 : (xs 10) = .bool false := hV 10 (by decide)
          have d11 : (xs 11) = .bool false := hV 11 (by decide)
          clear hV
          simp only [patchS, Nat.reduceAdd, Nat.reduceEqDiff, ↓reduceIte]
          generalize xs 0 = y0 at *
          generalize xs 1 = y1 at *
          generalize xs 2 = y2 at *
          generalize xs 3 = y3 at *
          generalize xs 4 = y4 at *
          generalize xs 5 = y5 at *
          generalize xs 6 = y6 at *
          generalize xs 7 = y7 at *
          generalize xs 8 = y8 at *
          generalize xs 9 = y9 at *
          generalize xs 10 = y10 at *
          generalize xs 11 = y11 at *
          replace hG : Ext w10 wx := hG
          subst d0
          subst d1
          subst d2
          subst d3
          subst d4
          subst d5
          subst d6
          subst d7
          subst d8
          subst d9
          subst d10
          subst d11
          have E11 := E10.trans hG
          clear own10 g1' g2' E10 hG
          go_wp2_with fail
          go_roundw
          case rel => exact ⟨k + 1, by omega, by go_num, E11⟩
          case measure => simp [intOf]; omega
        · obtain rfl : k = N := by omega
          have E5 := E4.trans e5
          go_wp2_with fail
          refine (alive_any _).mono ?_
          rintro e w6 ⟨rfl, e6⟩
          go_wp2
          go_ret
          exact ⟨rfl, E5.trans e6⟩
    · have hp : parity L = [] := by unfold parity; rw [if_neg hg]
      rw [hp] at own4 ⊢
      clear hg hp own4
      go_wp2_with fail
      go_loopw [11, 12, 13, 14] (fun i _ _ _ wr => i = .int .i64 0 ∧ wr = w4) (fun i _ _ _ _ => 0)
      case atStart => exact ⟨rfl, rfl⟩
      case round =>
        obtain ⟨rfl, rfl⟩ := hrel
        go_wp2_with fail
        refine (alive_any _).mono ?_
        rintro e w6 ⟨rfl, e6⟩
        go_wp2
        go_ret
        exact ⟨rfl, E4.trans e6⟩
end Go.Proofs.Ytmcdlkbofhdnlaa
