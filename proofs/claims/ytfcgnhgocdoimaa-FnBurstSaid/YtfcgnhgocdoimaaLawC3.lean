/- FnBurst: the walk of the law. -/
import Derived.Test.YtfcgnhgocdoimaaLawC2
namespace Go.Proofs.Ytfcgnhgocdoimaa
open Go.RowKit
set_option maxHeartbeats 400000

def chkB (d m : Nat) : Bool := (List.range (d * m)).all fun v => decide (posOf (d * m) d v < d * m) && decide (nth (cols (d * m) d d) (posOf (d * m) d v) = v) && (decide (d * m ≤ v + 1) || decide (v % d = d - 1) || decide (posOf (d * m) d (v + 1) = posOf (d * m) d v + m))
theorem chkB_all : ((List.range 8).all fun d => (List.range 6).all fun m => chkB (d + 1) (m + 1)) = true := by decide +kernel
theorem burst_spec (d m : Nat) (h1 : 1 ≤ d) (h2 : d ≤ 8) (h3 : 1 ≤ m) (h4 : m ≤ 6) : ∀ v, v < d * m → posOf (d * m) d v < d * m ∧ nth (cols (d * m) d d) (posOf (d * m) d v) = v ∧ (v + 1 < d * m → v % d ≠ d - 1 → posOf (d * m) d (v + 1) = posOf (d * m) d v + m) := by
  have h := chkB_all
  rw [List.all_eq_true] at h
  have h5 := h (d - 1) (by simp; omega)
  rw [List.all_eq_true] at h5
  have h6 := h5 (m - 1) (by simp; omega)
  rw [show d - 1 + 1 = d by omega, show m - 1 + 1 = m by omega] at h6
  intro v hv
  have h7 := (List.all_eq_true.1 h6) v (by simpa using hv)
  simp only [Bool.and_eq_true, Bool.or_eq_true, decide_eq_true_eq] at h7
  refine ⟨h7.1.1, h7.1.2, fun a b => ?_⟩
  rcases h7.2 with (h8 | h8) | h8
  · omega
  · exact absurd h8 b
  · exact h8

set_option maxRecDepth 100000 in
theorem law_FnBurst (a : Option Addr) (c n : Nat) (zs : List Int) (a' : Option Addr) (c' n' : Nat) (zs' : List Int) (w : World) (hn0 : n ≤ c ∧ c ≤ maxLen) (sl : Sl w a n (zs.map (Value.int .u8))) (wf : ∀ z ∈ zs, (Lit.int .u8 z).wf = true)
    (hn0' : n' ≤ c' ∧ c' ≤ maxLen) (_sl' : Sl w a' n' (zs'.map (Value.int .u8))) (_wf' : ∀ z ∈ zs', (Lit.int .u8 z).wf = true) :
    Calls Try.prog 9 #[.slice a n c, .slice a' n' c'] w fun e w' => e = .returned (.bool true) ∧ Ext w w' := by
  have hn : n ≤ c ∧ c ≤ 9223372036854775807 := ⟨hn0.1, hn0.2⟩
  have hn' : n' ≤ 9223372036854775807 := Nat.le_trans hn0'.1 hn0'.2
  clear hn0 hn0' _sl' _wf'
  have hz := Lib.hid (byte_range wf)
  clear wf
  by_cases hbig : 1048576 < n
  · go_enter Try.func9, Try.ntmps9
    go_wp2
    go_ret
    refine ⟨rfl, ?_⟩
    (repeat (first | with_reducible exact Below.refl _ _ | assumption | with_reducible refine below_drewN ?_ _ | with_reducible refine Below.drew ?_ | with_reducible refine Below.setCell ?_ (by simp <;> omega) _ | with_reducible refine Ext.trans ?_ (Ext.alloc _ _)))
  by_cases hbig' : 1048576 < n'
  · go_enter Try.func9, Try.ntmps9
    go_wp2
    go_ret
    refine ⟨rfl, ?_⟩
    (repeat (first | with_reducible exact Below.refl _ _ | assumption | with_reducible refine below_drewN ?_ _ | with_reducible refine Below.drew ?_ | with_reducible refine Below.setCell ?_ (by simp <;> omega) _ | with_reducible refine Ext.trans ?_ (Ext.alloc _ _)))
  go_enter Try.func9, Try.ntmps9
  go_wp2_with fail
  refine (DrawInterleave_any a c n zs _ hn.1 hn.2 (sl.ext (by (repeat (first | with_reducible exact Below.refl _ _ | assumption | with_reducible refine below_drewN ?_ _ | with_reducible refine Below.drew ?_ | with_reducible refine Below.setCell ?_ (by simp <;> omega) _ | with_reducible refine Ext.trans ?_ (Ext.alloc _ _))))) hz.out).mono ?_
  rintro e w1 ⟨x, y, rfl, hx0, hx1, hy0, hy1, e1⟩
  have E1 : Ext w w1 := by refine Ext.trans ?_ e1; (repeat (first | with_reducible exact Below.refl _ _ | assumption | with_reducible refine below_drewN ?_ _ | with_reducible refine Below.drew ?_ | with_reducible refine Below.setCell ?_ (by simp <;> omega) _ | with_reducible refine Ext.trans ?_ (Ext.alloc _ _)))
  clear sl hz e1
  by_cases hv : 2 ≤ y ∧ y ≤ 8
  · obtain ⟨hv3, hv4⟩ := hv
    obtain ⟨d, rfl⟩ := Int.eq_ofNat_of_zero_le (show 0 ≤ y by omega)
    obtain ⟨m, hm⟩ : ∃ m, m = 1 + n' % 6 := ⟨_, rfl⟩
    have hm1 : 1 ≤ m := by omega
    have hm6 : m ≤ 6 := by omega
    obtain ⟨N, hN⟩ : ∃ N, N = d * m := ⟨_, rfl⟩
    have hNI : (d : Int) * (1 + (n' : Int) % 6) = (N : Int) := by rw [hN, hm]; simp
    have hN48 : N ≤ 48 := by rw [hN]; exact Nat.le_trans (Nat.mul_le_mul (show d ≤ 8 by omega) hm6) (by decide)
    have hdiv : (N : Int) / (d : Int) = (m : Int) := by rw [hN]; simp; rw [Int.mul_ediv_cancel_left]; omega
    have hB := burst_spec d m (by omega) (by omega) hm1 hm6
    rw [← hN] at hB
    have HB := Lib.hid hB
    have Hdiv := Lib.hid hdiv
    clear hB hdiv hN hm
    go_wp2_with fail
    clear hNI
    refine (impl_Interleave_any (N : Int) (d : Int) _).mono ?_
    rintro e w2 ⟨v2, rfl, own2, e2⟩
    obtain ⟨a2, c2, rfl⟩ := owns_form own2
    have s2 := Sl.of_owns own2
    have E2 := E1.trans e2
    clear own2 E1 e2
    go_wp2_with fail
    refine (spec_Interleave_any (N : Int) (d : Int) _).mono ?_
    rintro e w3 ⟨v3, rfl, own3, e3⟩
    obtain ⟨a3, c3, rfl⟩ := owns_form own3
    have s3 := Sl.of_owns own3
    have E3 := E2.trans e3
    have s2' := s2.ext e3
    clear own3 E2 e3 s2
    go_wp2_with fail
    have hl : (inter (N : Int) (d : Int)).length ≤ 800 := inter_len _ _
    refine (sameInts_any a2 a3 c2 c3 _ _ _ _ _ (by omega) (by omega) s2' s3).mono ?_
    rintro e w4 ⟨he, m4, rfl⟩
    rw [decide_eq_true rfl] at he
    subst he
    have E4 : Ext w (w3.drewN m4) := below_drewN E3 m4
    have s4 := s2'.drewN m4
    clear s2' s3 E3
    generalize w3.drewN m4 = w4 at *
    obtain ⟨hs, hlen, hnth⟩ := inter_yes N d (by omega) (by omega) (by omega)
    rw [hs, hlen] at s4
    rw [hs, hlen]
    clear hs hl
    have Hnth := Lib.hid hnth
    clear hnth hlen
    generalize cols N d d = L at *
    go_wp2_with (at_make; refine wpList_mk _ rfl _ _ 26 rfl 3 (.int .i64 0) 8 Try.underlying26 info_int rfl _ N rfl rfl rfl (by omega) (by omega) ?_; intro w5 hown hgrow)
    have E5 : Ext w w5 := E4.trans (Ext.grown (Below.refl _ _) hgrow (by simp))
    have s5 := s4.ext (Ext.grown (Below.refl _ _) hgrow (by simp))
    have hb5 : w4.heap.size ≤ w5.heap.size := hgrow.size
    obtain ⟨B, hB⟩ : ∃ B, B = w4.heap.size := ⟨_, rfl⟩
    rw [← hB] at hown hb5 ⊢
    have hlist : List.replicate N (Value.int .i64 0) = (List.replicate N (0 : Int)).map (Value.int .i64) := by simp
    rw [hlist] at hown
    have hab : ∀ x, a2 = some x → 0 < N → x.block ≠ B := by
      intro x hx hk0
      obtain ⟨b1, o1, h1, h2⟩ := s4.2 0 (by omega)
      rw [h1] at hx
      simp only [Option.some.injEq] at hx
      subst hx
      have := World.block_lt_of_cell? _ _ h2
      simp at this ⊢
      omega
    have hBw : w.heap.size ≤ B := by rw [hB]; exact E4.size
    have Hab := Lib.hid hab
    clear hab hlist hB s4 E4 hgrow
    go_loopw [10] (fun i wr => ∃ (q : Nat) (S : List Int), q ≤ N ∧ i = .int .i64 q ∧ Ext w wr ∧ Sl wr a2 N (L.map (Value.int .i64)) ∧ wr.ownsRow B 3 1 (.slice (some ⟨B, 0, none⟩) N N) N (S.map (Value.int .i64)) ∧ Hid (∀ v, v < N → posOf N d v < q → nth S v = posOf N d v)) (fun i _ => N - (intOf i).toNat)
    case atStart => exact ⟨0, List.replicate N 0, by omega, rfl, E5, s5, hown, Lib.hid (fun v _ hv => by omega)⟩
    case round =>
      obtain ⟨q, S, hq, rfl, E6, s6, own6, hpos⟩ := hrel
      clear hown E5 s5
      by_cases hlt : q < N
      · obtain ⟨p, hp1, hp2, hp3, -⟩ := Hnth.out q hlt
        have s7 := Sl.of_owns own6
        obtain ⟨b1, o1, ha1, g1⟩ := s6.int hlt
        obtain ⟨b2, o2, hb1, g2⟩ := s7.int hp2
        have hne := Hab.out ⟨b1, o1, none⟩ ha1 (by omega)
        simp only [Option.some.injEq, Addr.mk.injEq, and_true] at hb1
        obtain ⟨rfl, rfl⟩ := hb1
        rw [hp1] at g1
        rw [Nat.zero_add] at g2
        have g3 := own6.frozenAt p
        have hlen := s7.int_len
        have hrel : Ext w (wr.setCell ⟨B, p, none⟩ (.int .i64 q)) ∧ Sl (wr.setCell ⟨B, p, none⟩ (.int .i64 q)) a2 N (L.map (Value.int .i64)) ∧ ∃ (S' : List Int), (wr.setCell ⟨B, p, none⟩ (.int .i64 q)).ownsRow B 3 1 (.slice (some ⟨B, 0, none⟩) N N) N (S'.map (Value.int .i64)) ∧ (∀ v, v < N → posOf N d v < q + 1 → nth S' v = posOf N d v) := by
          obtain ⟨o8, gr8⟩ := own6.stored p (.int .i64 q)
          refine ⟨Ext.grown E6 gr8 (by simp; omega), s6.grown gr8 (fun x hx => by simp; exact Hab.out x hx (by omega)), S.set p q, ?_, fun v hv hv2 => ?_⟩
          · rw [List.map_set]; exact o8
          · by_cases hvp : v = p
            · subst hvp; rw [hp3]; simp [nth, hlen, hv]
            · have hne2 : posOf N d v ≠ q := by
                intro he
                have i1 := (HB.out v hv).2.1
                have i2 := (HB.out p hp2).2.1
                rw [he] at i1
                rw [hp3] at i2
                rw [i1] at i2
                omega
              have := hpos.out v hv (by omega)
              simpa [nth, List.getElem?_set_ne (Ne.symm hvp)] using this
        have Hrel := Lib.hid hrel
        clear hrel own6 E6 hpos hlen hp1 hp3 s6 s7
        subst ha1
        go_wp2
        obtain ⟨e8, s8, S', o8, hS'⟩ := Hrel.out
        go_roundw
        case rel => exact ⟨q + 1, S', by omega, by go_num, e8, s8, o8, Lib.hid hS'⟩
        case measure => simp [intOf]; omega
      · obtain rfl : q = N := by omega
        clear Hab Hnth
        have s7 := Sl.of_owns own6
        clear own6 s6
        go_wp2_with fail
        go_loopw [11] (fun i wx => ∃ (j m : Nat), j ≤ q ∧ i = .int .i64 j ∧ wx = wr.drewN m) (fun i _ => q - (intOf i).toNat)
        case atStart => exact ⟨0, 0, by omega, rfl, rfl⟩
        case round =>
          obtain ⟨j, mm, hj, rfl, rfl⟩ := hrel
          by_cases hlt : j + 1 < q
          · obtain ⟨b1, o1, hb1, g1⟩ := s7.int (show j < q by omega)
            obtain ⟨b2, o2, hb2, g2⟩ := s7.int hlt
            simp only [Option.some.injEq, Addr.mk.injEq, and_true] at hb1 hb2
            obtain ⟨rfl, rfl⟩ := hb1
            obtain ⟨rfl, rfl⟩ := hb2
            rw [Nat.zero_add] at g1 g2
            obtain ⟨j1, -, j2⟩ := HB.out j (by omega)
            obtain ⟨j3, -, -⟩ := HB.out (j + 1) hlt
            rw [hpos.out j (by omega) j1] at g1
            rw [hpos.out (j + 1) hlt j3] at g2
            have J2 := Lib.hid (j2 hlt)
            generalize posOf q d j = P0 at *
            generalize posOf q d (j + 1) = P1 at *
            have hmodI : (j : Int) % (d : Int) = ((j % d : Nat) : Int) := by simp
            have hmd : j % d < d := Nat.mod_lt _ (by omega)
            clear j2
            by_cases hg : j % d = d - 1
            · have hg1 : ((j : Int) % (d : Int) != (d : Int) - 1) = false := by rw [hmodI]; simp; omega
              clear hmodI hg J2
              go_wp2
              go_quiet (fail)
              go_wp2
              go_roundw
              case rel => exact ⟨j + 1, mm + nq, by omega, by go_num, by simp⟩
              case measure => simp [intOf]; omega
            · have hg1 : ((j : Int) % (d : Int) != (d : Int) - 1) = true := by rw [hmodI]; simp; omega
              have hP : (P1 : Int) - (P0 : Int) = (m : Int) := by have := J2.out hg; omega
              have hdiv := Hdiv.out
              clear hmodI hg J2
              go_wp2
              go_quiet (fail)
              go_wp2
              go_roundw
              case rel => exact ⟨j + 1, mm + nq, by omega, by go_num, by simp⟩
              case measure => simp [intOf]; omega
          · go_wp2
            go_ret
            exact ⟨by simp, below_drewN E6 _⟩
  · have hb : (decide (y < 2) || decide (8 < y)) = true := by simp; omega
    go_wp2_with fail
    all_goals
      refine (alive_any _).mono ?_
      rintro e w5 ⟨rfl, e5⟩
      have E5 := E1.trans e5
      clear E1 e5
      go_wp2
      go_ret
      exact ⟨rfl, E5⟩
end Go.Proofs.Ytfcgnhgocdoimaa
