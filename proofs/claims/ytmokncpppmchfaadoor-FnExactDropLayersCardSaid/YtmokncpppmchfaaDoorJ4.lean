/- Overwriting lists of coded pictures, and looking again. -/
import Derived.Test.YtmokncpppmchfaaDoorJ3
namespace Go.Proofs.YtmokncpppmchfaaDoor
open Go.RowKit
set_option maxHeartbeats 1000000
theorem own_tch {w w' : World} {lo hi base e s n : Nat} {v : Value} {xs : List Value} (h : w.ownsRow base e s v n xs) (t : Tch w w' lo hi) (ho : hi ≤ base) : w'.ownsRow base e s v n xs := by
  obtain ⟨h1, h2⟩ := h
  refine ⟨h1, ?_⟩
  rcases h2 with h2 | ⟨g, cap, cur, rfl, hg, r1, r2⟩
  · exact .inl h2
  · exact .inr ⟨g, cap, cur, rfl, hg, by rw [t.block g (lt_of_block r1) (by omega)]; exact r1, r2⟩
theorem SSk.tch {w w' : World} {lo hi lo' hi' n k : Nat} {v : Value} {f : Nat → List Int} {cs : List Value} (h : SSk w lo hi v n k f cs) (t : Tch w w' lo' hi') (ho : hi' ≤ lo) : SSk w' lo hi v n k f cs := by
  obtain ⟨bs, h1, h2, h3, h4, h5⟩ := h
  refine ⟨bs, own_tch h1 t ho, h2, h3, h4, fun i hi2 => ?_⟩
  obtain ⟨a', c', k1, k2, k3⟩ := h5 i hi2
  have := seq_le h4 (show 0 ≤ i by omega) (by omega)
  exact ⟨a', c', k1, own_tch k2 t (by omega), k3⟩
theorem CE.tch {w w' : World} {lo hi lo' hi' n k : Nat} {v : Value} {r : Nat → Cd} {cs : List Value} (h : CE w lo hi v n k r cs) (t : Tch w w' lo' hi') (ho : hi' ≤ lo) : CE w' lo hi v n k r cs := by
  obtain ⟨us, h1, h2, h3, h4, h5⟩ := h
  refine ⟨us, own_tch h1 t ho, h2, h3, h4, fun i hi2 => ?_⟩
  obtain ⟨a', c', ss, k1, k2⟩ := h5 i hi2
  have := seq_le h4 (show 0 ≤ i by omega) (by omega)
  exact ⟨a', c', ss, k1, SSk.tch k2 t (by omega)⟩
/-- Another record is overwritten. -/
theorem RC.other {cs : List Value} {o q : Nat} {x : Cd} {a : Option Addr} {c : Nat} {u0 u1 u2 u3 : Value} (h : RC cs q x a c) (hq : q + 4 < o ∨ o + 3 < q) : RC ((((cs.set o u0).set (o + 1) u1).set (o + 2) u2).set (o + 3) u3) q x a c := by
  obtain ⟨h0, h1, h2, h3, h4⟩ := h
  refine ⟨?_, ?_, ?_, ?_, ?_⟩ <;> (rw [List.getElem?_set_ne (by omega), List.getElem?_set_ne (by omega), List.getElem?_set_ne (by omega), List.getElem?_set_ne (by omega)]; assumption)
theorem CEu.mark {w wS w4 : World} {lo hi n c g k : Nat} {r : Nat → Cd} {k0 x : Int} {cs ss : List Value} {us : Nat → Nat} {a2 : Option Addr} {c2 : Nat} (hk : k < n) (hx : x = k0 + (smN wtC r k : Nat))
    (h : CEu w lo hi (.slice (some ⟨g, 0, none⟩) n c) n n (fun i => if i < k then mkC k0 r i else r i) cs us) (gS : w.grownBy wS (some g))
    (oS : wS.ownsRow lo 38 5 (.slice (some ⟨g, 0, none⟩) n c) n ((((cs.set (k * 5) (.int .i64 x)).set (k * 5 + 1) (.int .i64 (x + 1))).set (k * 5 + 2) (.bool ((x + 1 + 1) % 3 == 0))).set (k * 5 + 3) (.int .i64 (x + 1 + 1 + 1))))
    (hrc : RC cs (k * 5) (r k) a2 c2) (s4 : SSg w4 (us k) (us (k + 1)) (.slice a2 (r k).n c2) (r k).n (mkF (x + 1 + 1 + 1 + 1) (r k).f) ss) (m4 : MkT wS w4 (us k) (us (k + 1))) :
    CEu w4 lo hi (.slice (some ⟨g, 0, none⟩) n c) n n (fun i => if i < k + 1 then mkC k0 r i else r i) ((((cs.set (k * 5) (.int .i64 x)).set (k * 5 + 1) (.int .i64 (x + 1))).set (k * 5 + 2) (.bool ((x + 1 + 1) % 3 == 0))).set (k * 5 + 3) (.int .i64 (x + 1 + 1 + 1))) us := by
  obtain ⟨h1, h2, h3, h4, h5⟩ := h
  have hcl : cs.length = n * 5 := h1.1
  refine ⟨m4.kept oS (.inl (by decide)), h2, h3, h4, fun i hi2 => ?_⟩
  by_cases e : i = k
  · subst e
    simp only [Nat.lt_succ_self, if_true]
    have hm : mkC k0 r i = mkR x (r i) := by rw [mkC, hx]
    rw [hm]
    refine ⟨a2, c2, ss, ?_, s4⟩
    obtain ⟨q0, q1, q2, q3, q4⟩ := hrc
    refine ⟨?_, ?_, ?_, ?_, ?_⟩
    · simp only [mkR]; rw [List.getElem?_set_ne (by omega), List.getElem?_set_ne (by omega), List.getElem?_set_ne (by omega), List.getElem?_set_self (by omega)]
    · simp only [mkR]; rw [List.getElem?_set_ne (by omega), List.getElem?_set_ne (by omega), List.getElem?_set_self (by simp; omega)]
    · simp only [mkR]; rw [List.getElem?_set_ne (by omega), List.getElem?_set_self (by simp; omega)]
    · simp only [mkR]; rw [List.getElem?_set_self (by simp; omega)]
    · simp only [mkR]; rw [List.getElem?_set_ne (by omega), List.getElem?_set_ne (by omega), List.getElem?_set_ne (by omega), List.getElem?_set_ne (by omega)]; exact q4
  · obtain ⟨a3, c3, s3, q1, q2⟩ := h5 i hi2
    have he : (if i < k + 1 then mkC k0 r i else r i) = (if i < k then mkC k0 r i else r i) := by
      by_cases h : i < k
      · rw [if_pos h, if_pos (by omega)]
      · rw [if_neg h, if_neg (by omega)]
    simp only at q1 q2 ⊢
    rw [he]
    refine ⟨a3, c3, s3, q1.other (by omega), SSk.mkt (SSk.kept q2 gS h1 (by decide) (by decide)) m4 ?_⟩
    by_cases h : i < k
    · exact .inl (seq_le h4 (show i + 1 ≤ k from h) (by omega))
    · exact .inr (seq_le h4 (show k + 1 ≤ i by omega) (by omega))
theorem markCodedS_f (a : Option Addr) (c n lo hi : Nat) (r : Nat → Cd) (cs0 : List Value) (k0 : Int) (w : World) (ok : okC r n) (hk0 : 0 ≤ k0) (hk1 : k0 ≤ 2^40) (h : CE w lo hi (.slice a n c) n n r cs0)
    (hg : ∀ q, (Value.slice a n c).ownBlock = some q → lo ≤ q ∧ q < hi) :
    Calls Tryd.prog 10 #[.slice a n c, .int .i64 k0] w fun e w' => e = .returned (.int .i64 (k0 + (smN wtC r n : Nat))) ∧ (∃ cs, CE w' lo hi (.slice a n c) n n (mkC k0 r) cs) ∧ Tch w w' lo hi := by
  have hn : n ≤ 1048576 := ok.1
  have Hok := Lib.hid ok
  have Hg := Lib.hid hg
  obtain ⟨us, h⟩ := h
  have h0 : CEu w lo hi (.slice a n c) n n (fun i => if i < 0 then mkC k0 r i else r i) cs0 us := by
    obtain ⟨h1, h2, h3, h4, h5⟩ := h
    exact ⟨h1, h2, h3, h4, fun i hi2 => by simpa using h5 i hi2⟩
  have hmax : ∀ k, k ≤ n → smN wtC r k ≤ 8388608 := fun k hk => by
    have h1 := smN_wt r k
    have h2 : smN szC r k ≤ smN szC r n := sumN_mono hk
    have h3 := ok.2
    omega
  have Hmax := Lib.hid hmax
  clear h ok hg hmax
  go_enter Tryd.func10, Tryd.ntmps10
  go_wp2_with fail
  go_loopw [1, 5] (fun q i wr => ∃ (k : Nat) (x : Int) (cs : List Value), k ≤ n ∧ i = .int .i64 k ∧ q = .int .i64 x ∧ x = k0 + (smN wtC r k : Nat) ∧ Tch w wr lo hi ∧ Hid (CEu wr lo hi (.slice a n c) n n (fun i => if i < k then mkC k0 r i else r i) cs us)) (fun _ i _ => n - (intOf i).toNat)
  case atStart => exact ⟨0, _, cs0, by omega, rfl, rfl, by simp [smN, sumN], Tch.refl _ _ _, Lib.hid h0⟩
  case round =>
    obtain ⟨k, x, cs, hk, rfl, rfl, hx, T2, S2⟩ := hrel
    clear h0
    have hmk := Hmax.out k hk
    have hx0 : 0 ≤ x := by omega
    have hx1 : x ≤ 2^41 := by omega
    have HX := Lib.hid hx
    clear hx hmk
    by_cases hlt : k < n
    · obtain ⟨ownH, -, -, hus, b5⟩ := id S2.out
      obtain ⟨a2, c2, ss, hrc, hss⟩ := b5 k hlt
      simp only [Nat.lt_irrefl, if_false] at hrc hss
      have hok := Hok.out.at hlt
      obtain ⟨g, hv⟩ : ∃ g, a = some ⟨g, 0, none⟩ := by
        rcases id ownH.2 with ⟨hv, h0'⟩ | ⟨g, cap, cur, hv, -⟩
        · omega
        · simp only [Value.slice.injEq] at hv; exact ⟨g, hv.1⟩
      subst hv
      obtain ⟨u0, d0, -⟩ := owns_at ownH (j := k * 5) (by omega)
      obtain ⟨u1, d1, -⟩ := owns_at ownH (j := k * 5 + 1) (by omega)
      obtain ⟨u2, d2, -⟩ := owns_at ownH (j := k * 5 + 2) (by omega)
      obtain ⟨u3, d3, -⟩ := owns_at ownH (j := k * 5 + 3) (by omega)
      have d4 : wr.cell? ⟨g, k * 5 + 4, none⟩ = some (.slice a2 (r k).n c2) := by rw [ownH.cellAt _ (by omega)]; exact hrc.2.2.2.2
      have f0 := ownH.frozenAt (k * 5)
      have f1 := ownH.frozenAt (k * 5 + 1)
      have f2 := ownH.frozenAt (k * 5 + 2)
      have f3 := ownH.frozenAt (k * 5 + 3)
      have o1 := (ownH.stored (k * 5) (.int .i64 x)).1
      have o2 := (o1.stored (k * 5 + 1) (.int .i64 (x + 1))).1
      have o3 := (o2.stored (k * 5 + 2) (.bool ((x + 1 + 1) % 3 == 0))).1
      have o4 := (o3.stored (k * 5 + 3) (.int .i64 (x + 1 + 1 + 1))).1
      have GS := gs4 wr g (k * 5) (k * 5 + 1) (k * 5 + 2) (k * 5 + 3) (.int .i64 x) (.int .i64 (x + 1)) (.bool ((x + 1 + 1) % 3 == 0)) (.int .i64 (x + 1 + 1 + 1))
      have hss2 := SSg.kept hss GS ownH (by decide) (by decide)
      have hcl := markByteSS_f a2 c2 (r k).n (us k) (us (k + 1)) (r k).f ss (x + 1 + 1 + 1 + 1) _ hok.1 (by omega) (by omega) hok.2 hss2
      have Hcl := Lib.hid hcl
      have O4 := Lib.hid o4
      have HGS := Lib.hid GS
      have Hrc := Lib.hid hrc
      obtain ⟨mm, hmm⟩ : ∃ mm, mm = (r k).n := ⟨_, rfl⟩
      have Hmm := Lib.hid hmm
      rw [← hmm] at d4
      clear hcl o1 o2 o3 o4 GS hrc hss hss2 b5 ownH hmm
      go_wp2_with fail
      rw [Hmm.out]
      refine Hcl.out.mono ?_
      rintro e w4 ⟨rfl, s4, m4⟩
      have S4 := Lib.hid (CEu.mark hlt HX.out S2.out HGS.out O4.out Hrc.out s4 m4)
      have hbk := seq_le hus (show 0 ≤ k by omega) hk
      have hbn := seq_le hus (show k + 1 ≤ n from hlt) (Nat.le_refl _)
      have T4 : Tch w w4 lo hi := T2.trans ((Tch.of_grown HGS.out (fun q hq => by cases hq; exact Hg.out g rfl)).trans ((m4.mono (lo' := lo) (hi' := hi) (by have := S2.out.2.1; omega) (by have := S2.out.2.2.1; omega)).tch))
      have hsum : Hid (x + 1 + 1 + 1 + 1 + (sumN (ln (r k).f) (r k).n : Nat) = k0 + (smN wtC r (k + 1) : Nat)) := Lib.hid (by
        rw [HX.out]; simp only [smN, sumN, wtC]; push_cast; omega)
      generalize sumN (ln (r k).f) (r k).n = sm at *
      have hsm : sm ≤ 1048576 := hok.2
      clear s4 m4 T2 d0 d1 d2 d3 d4 f0 f1 f2 f3 S2 hok Hcl
      go_wp2
      go_roundw
      case rel => exact ⟨k + 1, x + 1 + 1 + 1 + 1 + (sm : Nat), _, by omega, by go_num, by first | rfl | go_num, hsum.out, T4, S4⟩
      case measure => simp [intOf]; omega
    · obtain rfl : k = n := by omega
      go_wp2
      go_ret
      have hxe := HX.out
      refine ⟨by rw [← hxe]; rfl, ⟨cs, us, ?_⟩, T2⟩
      obtain ⟨p1, p2, p3, p4, p5⟩ := S2.out
      refine ⟨p1, p2, p3, p4, fun i hi2 => ?_⟩
      have := p5 i hi2
      simp only [hi2, if_true] at this
      exact this
theorem heldCodedS_f (a : Option Addr) (c n : Nat) (r : Nat → Cd) (k0 : Int) (w : World) (ok : okC r n) (hk0 : 0 ≤ k0) (hk1 : k0 ≤ 2^40) (R : CP w a n (mkC k0 r)) :
    Calls Tryd.prog 11 #[.slice a n c, .int .i64 k0] w fun e w' => e = .returned (.int .i64 (k0 + (smN wtC r n : Nat))) ∧ Ext w w' := by
  have hn : n ≤ 1048576 := ok.1
  have Hok := Lib.hid ok
  have hmax : ∀ k, k ≤ n → smN wtC r k ≤ 8388608 := fun k hk => by
    have h1 := smN_wt r k
    have h2 : smN szC r k ≤ smN szC r n := sumN_mono hk
    have h3 := ok.2
    omega
  have Hmax := Lib.hid hmax
  clear ok hmax
  go_enter Tryd.func11, Tryd.ntmps11
  go_wp2_with fail
  go_loopw [1, 5] (fun q i wr => ∃ (k : Nat) (x : Int), k ≤ n ∧ i = .int .i64 k ∧ q = .int .i64 x ∧ x = k0 + (smN wtC r k : Nat) ∧ Ext w wr) (fun _ i _ => n - (intOf i).toNat)
  case atStart => exact ⟨0, _, by omega, rfl, rfl, by simp [smN, sumN], Below.refl _ _⟩
  case round =>
    obtain ⟨k, x, hk, rfl, rfl, hx, E2⟩ := hrel
    have hmk := Hmax.out k hk
    have hx0 : 0 ≤ x := by omega
    have hx1 : x ≤ 2^41 := by omega
    have HX := Lib.hid hx
    clear hmk
    by_cases hlt : k < n
    · obtain ⟨b1, o1, rfl, a2, c2, ⟨h1, h2, h3, h4, h5⟩, h6, -⟩ := (R.ext E2) k hlt
      have hok := Hok.out.at hlt
      have hm : mkC k0 r k = mkR x (r k) := by rw [mkC, hx]
      rw [hm] at h1 h2 h3 h4 h5 h6
      have hcl := heldByteSS_f a2 c2 (r k).n (r k).f (x + 1 + 1 + 1 + 1) wr hok.1 (by omega) (by omega) hok.2 h6
      have Hcl := Lib.hid hcl
      simp only [mkR] at h1 h2 h3 h4 h5
      obtain ⟨mm, hmm⟩ : ∃ mm, mm = (r k).n := ⟨_, rfl⟩
      have Hmm := Lib.hid hmm
      rw [← hmm] at h5
      have hxb : (((x + 1 + 1) % 3 == 0) != ((x + 1 + 1) % 3 == 0)) = false := by simp
      clear hcl h6 hm hmm hx
      go_wp2_with fail
      rw [Hmm.out]
      refine Hcl.out.mono ?_
      rintro e w4 ⟨rfl, e4⟩
      have E4 : Ext w w4 := E2.trans e4
      have hsum : Hid (x + 1 + 1 + 1 + 1 + (sumN (ln (r k).f) (r k).n : Nat) = k0 + (smN wtC r (k + 1) : Nat)) := Lib.hid (by
        rw [HX.out]; simp only [smN, sumN, wtC]; push_cast; omega)
      generalize sumN (ln (r k).f) (r k).n = sm at *
      have hsm : sm ≤ 1048576 := hok.2
      have hd : decide (x + 1 + 1 + 1 + 1 + (sm : Nat) < (0 : Int)) = false := by simp; omega
      clear h1 h2 h3 h4 h5 hok Hcl e4 hxb
      go_wp2
      go_roundw
      case rel => exact ⟨k + 1, x + 1 + 1 + 1 + 1 + (sm : Nat), by omega, by go_num, by first | rfl | go_num, hsum.out, E4⟩
      case measure => simp [intOf]; omega
    · obtain rfl : k = n := by omega
      go_wp2
      go_ret
      have hxe := HX.out
      exact ⟨by rw [← hxe]; rfl, E2⟩
end Go.Proofs.YtmokncpppmchfaaDoor
