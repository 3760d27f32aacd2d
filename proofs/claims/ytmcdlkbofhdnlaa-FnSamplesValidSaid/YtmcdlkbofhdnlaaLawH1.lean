/- FnSeekKey: the walk of the law. -/
import Derived.Test.YtmcdlkbofhdnlaaD7
import Derived.Test.YtmcdlkbofhdnlaaS3
import Derived.Test.YtmcdlkbofhdnlaaV
namespace Go.Proofs.Ytmcdlkbofhdnlaa
open Go.RowKit
set_option maxHeartbeats 400000
theorem byte_range4 {zs : List Int} (h : ∀ z ∈ zs, (Lit.int .u8 z).wf = true) : ∀ z ∈ zs, 0 ≤ z ∧ z ≤ 255 := by
  intro z hz
  have := h z hz
  simp [Lit.wf, IntKind.min, IntKind.max, IntKind.signed, IntKind.bits] at this
  omega
theorem seekTo_spec (L : List Smp) (t : Int) : ∀ n, -1 ≤ seekTo L t n ∧ seekTo L t n < n ∧ (∀ i : Nat, seekTo L t n < i → i < n → (sget L i).2.1 = true → t < (sget L i).1) ∧ (∀ i : Nat, (i : Int) = seekTo L t n → (sget L i).2.1 = true ∧ (sget L i).1 ≤ t)
  | 0 => ⟨by simp [seekTo], by simp [seekTo], fun i _ h => by omega, fun i h => by simp [seekTo] at h <;> omega⟩
  | n + 1 => by
    obtain ⟨h1, h2, h3, h4⟩ := seekTo_spec L t n
    by_cases hk : (sget L n).2.1 = true ∧ (sget L n).1 ≤ t
    · rw [seekTo_yes hk.1 hk.2]
      refine ⟨by omega, by omega, fun i hi hi2 => by omega, fun i hi => ?_⟩
      obtain rfl : i = n := by omega
      exact hk
    · rw [seekTo_no hk]
      refine ⟨h1, by omega, fun i hi hi2 hkey => ?_, h4⟩
      by_cases hin : i = n
      · subst hin
        exact Int.not_le.1 fun h => hk ⟨hkey, h⟩
      · exact h3 i hi (by omega) hkey
theorem seekV_spec {L : List Smp} {t : Int} {n : Nat} (hn : L.length = n) (hv : svalid L = true) : -1 ≤ seekV L t ∧ seekV L t < n ∧ (∀ i : Nat, seekV L t < i → i < n → (sget L i).2.1 = true → t < (sget L i).1) ∧ (∀ i : Nat, (i : Int) = seekV L t → (sget L i).2.1 = true ∧ (sget L i).1 ≤ t) := by
  unfold seekV
  rw [if_pos hv, hn]
  exact seekTo_spec L t n
theorem seekV_mono {L : List Smp} {t u : Int} (hv : svalid L = true) (h : t ≤ u) : seekV L t ≤ seekV L u := by
  obtain ⟨a1, a2, a3, a4⟩ := seekV_spec (t := t) rfl hv
  obtain ⟨b1, b2, b3, b4⟩ := seekV_spec (t := u) rfl hv
  refine Int.not_lt.1 fun hlt => ?_
  obtain ⟨i, hi⟩ := Int.eq_ofNat_of_zero_le (show 0 ≤ seekV L t by omega)
  obtain ⟨h1, h2⟩ := a4 i hi.symm
  have := b3 i (by omega) (by omega) h1
  omega
theorem DrawSeekKey_any (a : Option Addr) (c n : Nat) (zs : List Int) (w : World) (hc : n ≤ c) (hc2 : c ≤ 9223372036854775807) (r : Sl w a n (zs.map (Value.int .u8))) (hz : ∀ z ∈ zs, 0 ≤ z ∧ z ≤ 255) :
    Calls Try.prog 28 #[.slice a n c] w fun e w' => ∃ (a : Option Addr) (c : Nat) (L : List Smp) (t : Int), e = .returned (.tuple #[.slice a L.length c, .int .i64 t]) ∧ SE w' w.heap.size (.slice a L.length c) L ∧ L.length ≤ 5 ∧ (∀ x ∈ L, smpOk x) ∧ -100 ≤ t ∧ t ≤ 1000 ∧ Ext w w' := by
  go_enter Try.func28, Try.ntmps28
  go_wp2_with fail
  refine (open_any a c n zs _ hc hc2 r hz).mono ?_
  rintro e w1 ⟨b, rfl, rd, e1, hb⟩
  have hrd : RdP w1 b 0 := ⟨0, Nat.le_refl _, rd⟩
  have hblt := hrd.lt
  clear r hz rd
  go_wp2_with fail
  refine (l20Entries_c b 0 9 _ hrd (by omega) (by omega) (by omega)).mono ?_
  rintro e w2 ⟨v, L, rfl, S2, h1, h2, r2, g2⟩
  obtain ⟨a2, c2, rfl⟩ := S2.form
  have hs1 := e1.size
  have HL := Lib.hid h2
  clear h2 hrd
  go_wp2_with fail
  refine (pick_c b _ _ _ r2 (by omega) (by omega) (by omega)).mono ?_
  rintro e w3 ⟨y, rfl, y0, y1, r3, g3⟩
  have S3 := S2.gr g3 hblt
  have EE : Ext w w3 := Ext.grown e1 (grown_trans g2 g3) (fun k hk => by simp at hk; omega)
  clear S2 e1 g2 r2 g3 r3
  go_wp2
  go_ret2
  exact ⟨a2, c2, L, y * 3 - 2, rfl, S3.mono hs1, h1, HL.out, by omega, by omega, EE⟩
set_option maxRecDepth 100000 in
set_option maxHeartbeats 4000000 in
theorem law_FnSeekKey (a : Option Addr) (c n : Nat) (zs : List Int) (w : World) (hn0 : n ≤ c ∧ c ≤ maxLen) (sl : Sl w a n (zs.map (Value.int .u8))) (wf : ∀ z ∈ zs, (Lit.int .u8 z).wf = true) :
    Calls Try.prog 7 #[.slice a n c] w fun e w' => e = .returned (.bool true) ∧ Ext w w' := by
  have hn : n ≤ c ∧ c ≤ 9223372036854775807 := ⟨hn0.1, hn0.2⟩
  clear hn0
  have hz := Lib.hid (byte_range4 wf)
  clear wf
  by_cases hbig : 1048576 < n
  · go_enter Try.func7, Try.ntmps7
    go_wp2
    go_ret
    refine ⟨rfl, ?_⟩
    (repeat (first | with_reducible exact Below.refl _ _ | assumption | with_reducible refine below_drewN ?_ _ | with_reducible refine Below.drew ?_ | with_reducible refine Below.setCell ?_ (by simp <;> omega) _ | with_reducible refine Ext.trans ?_ (Ext.alloc _ _)))
  go_enter Try.func7, Try.ntmps7
  go_wp2_with fail
  refine (DrawSeekKey_any a c n zs _ hn.1 hn.2 (sl.ext (by (repeat (first | with_reducible exact Below.refl _ _ | assumption | with_reducible refine below_drewN ?_ _ | with_reducible refine Below.drew ?_ | with_reducible refine Below.setCell ?_ (by simp <;> omega) _ | with_reducible refine Ext.trans ?_ (Ext.alloc _ _))))) hz.out).mono ?_
  rintro e w1 ⟨a1, c1, L, t, rfl, S1, hl1, hL, ht1, ht2, e1⟩
  have E1 : Ext w w1 := by refine Ext.trans ?_ e1; (repeat (first | with_reducible exact Below.refl _ _ | assumption | with_reducible refine below_drewN ?_ _ | with_reducible refine Below.drew ?_ | with_reducible refine Below.setCell ?_ (by simp <;> omega) _ | with_reducible refine Ext.trans ?_ (Ext.alloc _ _)))
  clear sl hz e1
  obtain ⟨N, hN⟩ : ∃ N, N = L.length := ⟨_, rfl⟩
  rw [← hN] at S1 hl1 ⊢
  have sp := S1.toSP
  have HN := Lib.hid hN
  clear hL hN S1
  obtain ⟨s, hs⟩ : ∃ s, s = seekV L t := ⟨_, rfl⟩
  obtain ⟨s', hs'⟩ : ∃ s, s = seekV L (t + 500) := ⟨_, rfl⟩
  have Hs := Lib.hid hs
  have Hs' := Lib.hid hs'
  clear hs hs'
  go_wp2_with fail
  refine (impl_SeekKey_any a1 c1 N L t _ (by omega) sp).mono ?_
  rintro e w2 ⟨rfl, e2⟩
  rw [← Hs.out]
  have E2 := E1.trans e2
  have sp2 := sp.ext e2
  clear E1 e2 sp
  go_wp2_with fail
  refine (spec_SeekKey_any a1 c1 N L t _ (by omega) sp2).mono ?_
  rintro e w3 ⟨rfl, e3⟩
  rw [← Hs.out]
  have E3 := E2.trans e3
  have sp3 := sp2.ext e3
  clear E2 e3 sp2
  go_wp2_with fail
  refine (spec_SamplesValid_any a1 c1 N L _ (by omega) sp3).mono ?_
  rintro e w4 ⟨rfl, m, rfl⟩
  have E4 : Ext w (w3.drewN m) := below_drewN E3 m
  have sp4 := sp3.drewN m
  clear E3 sp3
  generalize w3.drewN m = w4 at *
  by_cases hv : svalid L = true
  · obtain ⟨p1, p2, p3, p4⟩ := seekV_spec (t := t) HN.out.symm hv
    have hge := seekV_mono (t := t) (u := t + 500) hv (by omega)
    rw [← Hs.out] at p1 p2 p3 p4
    rw [← Hs.out, ← Hs'.out] at hge
    rw [hv]
    obtain ⟨i0, rfl⟩ : ∃ i0 : Nat, s = (i0 : Int) - 1 := ⟨(s + 1).toNat, by omega⟩
    have P3 := Lib.hid p3
    have P4 := Lib.hid p4
    clear hv p3 p4
    go_wp2_with fail
    go_loop [6] (fun i => ∃ k : Nat, i0 ≤ k ∧ k ≤ N ∧ i = .int .i64 k) (fun i => N - (intOf i).toNat)
    case atStart => exact ⟨i0, by omega, by omega, by go_num⟩
    case round =>
      obtain ⟨k, hk0, hk, rfl⟩ := hrel
      by_cases hlt : k < N
      · obtain ⟨b1, o1, rfl, g1⟩ := sp4.2 k hlt
        obtain ⟨a2, n2, c2, h1, h2, h3, h4, h5, h6, -⟩ := g1
        have hp := P3.out k (by omega) hlt
        generalize (sget L k).2.1 = key at *
        generalize (sget L k).1 = tm at *
        clear h3 h4 h5 h6
        cases key
        · clear hp
          go_wp2
          go_round
          case rel => exact ⟨k + 1, by omega, by omega, by go_num⟩
          case measure => simp [intOf]; omega
        · have hp2 := hp rfl
          clear hp
          go_wp2
          go_round
          case rel => exact ⟨k + 1, by omega, by omega, by go_num⟩
          case measure => simp [intOf]; omega
      · obtain rfl : N = k := by omega
        by_cases h0 : i0 = 0
        · subst h0
          go_wp2_with fail
          refine (impl_SeekKey_any a1 c1 N L (t + 500) _ (by omega) sp4).mono ?_
          rintro e w5 ⟨rfl, e5⟩
          rw [← Hs'.out]
          go_wp2
          go_ret
          exact ⟨ret_bool (by first | (simp; done) | (simp; omega)), E4.trans e5⟩
        · obtain ⟨j, rfl⟩ : ∃ j, i0 = j + 1 := ⟨i0 - 1, by omega⟩
          have hjI : ((j + 1 : Nat) : Int) - 1 = (j : Int) := by omega
          rw [hjI] at hge ⊢
          obtain ⟨b1, o1, rfl, g1⟩ := sp4.2 j (by omega)
          obtain ⟨a2, n2, c2, h1, h2, h3, h4, h5, h6, -⟩ := g1
          obtain ⟨hp1, hp2⟩ := P4.out j (by omega)
          rw [hp1] at h2
          generalize (sget L j).1 = tm at *
          clear h3 h4 h5 h6 hp1
          go_wp2_with fail
          refine (impl_SeekKey_any _ c1 N L (t + 500) _ (by omega) sp4).mono ?_
          rintro e w5 ⟨rfl, e5⟩
          rw [← Hs'.out]
          go_wp2
          go_ret
          exact ⟨ret_bool (by first | (simp; done) | (simp; omega)), E4.trans e5⟩
  · have hv0 : svalid L = false := by simpa using hv
    have hs1 : s = -1 := by rw [Hs.out]; unfold seekV; rw [if_neg hv]
    subst hs1
    rw [hv0]
    clear hv hv0
    go_wp2_with fail
    refine (alive_any _).mono ?_
    rintro e w5 ⟨rfl, e5⟩
    go_wp2
    go_ret
    exact ⟨rfl, E4.trans e5⟩
end Go.Proofs.Ytmcdlkbofhdnlaa
