/- The exact laws' helpers over lists of byte strings, once more: exact sizes, own copies, marks. -/
import Derived.Test.YtmokncpppmchfaaDoorJ1
namespace Go.Proofs.YtmokncpppmchfaaDoor
open Go.RowKit
set_option maxHeartbeats 1000000
def ln (f : Nat → List Int) (i : Nat) : Nat := (f i).length
/-- What changes when byte strings of lo..hi-1 are overwritten. -/
structure MkT (w w' : World) (lo hi : Nat) : Prop where
  tch : Tch w w' lo hi
  kept : ∀ {b E s n : Nat} {v : Value} {xs : List Value}, w.ownsRow b E s v n xs → (E ≠ 5 ∨ ∀ q, v.ownBlock = some q → q < lo ∨ hi ≤ q) → w'.ownsRow b E s v n xs
theorem MkT.refl (w : World) (lo hi : Nat) : MkT w w lo hi := ⟨Tch.refl _ _ _, fun h _ => h⟩
theorem MkT.step {w w1 w2 : World} {lo hi b n : Nat} {v : Value} {xs : List Value} (h : MkT w w1 lo hi) (g : w1.grownBy w2 v.ownBlock) (o : w1.ownsRow b 5 1 v n xs) (hq : ∀ q, v.ownBlock = some q → lo ≤ q ∧ q < hi) : MkT w w2 lo hi := by
  refine ⟨h.tch.trans (Tch.of_grown g hq), fun o2 hE => ?_⟩
  have o3 := h.kept o2 hE
  refine o3.kept g ?_
  rcases hE with hE | hE
  · exact own_ne2 o3 o hE
  · cases hv : (Value.ownBlock _ : Option Nat) with
    | none => exact .inl rfl
    | some p =>
      right
      intro e
      have h1 := hq p e.symm
      have h2 := hE p hv
      omega
theorem MkT.mono {w w' : World} {lo hi lo' hi' : Nat} (h : MkT w w' lo hi) (h1 : lo' ≤ lo) (h2 : hi ≤ hi') : MkT w w' lo' hi' :=
  ⟨⟨h.tch.os, h.tch.tape, h.tch.output, h.tch.size, fun k hk ho => h.tch.block k hk (by omega)⟩, fun o hE => h.kept o (by
    rcases hE with hE | hE
    · exact .inl hE
    · exact .inr fun q hq => by have := hE q hq; omega)⟩
theorem MkT.trans {a b c : World} {lo hi : Nat} (h : MkT a b lo hi) (k : MkT b c lo hi) : MkT a c lo hi := ⟨h.tch.trans k.tch, fun o hE => k.kept (h.kept o hE) hE⟩
theorem SSk.mkt {w w' : World} {lo hi lo' hi' n k : Nat} {v : Value} {f : Nat → List Int} {cs : List Value} (h : SSk w lo hi v n k f cs) (m : MkT w w' lo' hi') (hd : hi ≤ lo' ∨ hi' ≤ lo) : SSk w' lo hi v n k f cs := by
  obtain ⟨bs, h1, h2, h3, h4, h5⟩ := h
  refine ⟨bs, m.kept h1 (.inl (by decide)), h2, h3, h4, fun i hi2 => ?_⟩
  obtain ⟨a', c', k1, k2, k3⟩ := h5 i hi2
  refine ⟨a', c', k1, m.kept k2 (.inr fun q hq => ?_), k3⟩
  have q1 := owns_ge k2 q hq
  have q2 : q < bs (i + 1) := by
    cases a' with
    | none => simp [Value.ownBlock] at hq
    | some y => have := k3 y rfl; simp [Value.ownBlock] at hq; omega
  have q3 := seq_le h4 (show 0 ≤ i by omega) (by omega)
  have q4 := seq_le h4 (show i + 1 ≤ k from hi2) (Nat.le_refl _)
  omega
theorem szByteSS_ex (a : Option Addr) (c n : Nat) (f : Nat → List Int) (left : Int) (w : World) (hn : n ≤ 9223372036854775807) (hl0 : 0 ≤ left) (hl1 : left ≤ 1048576) (r : SS w a n (lst n f)) :
    Calls Tryd.prog 30 #[.slice a n c, .int .i64 left] w fun e w' => ∃ x : Int, e = .returned (.int .i64 x) ∧ x ≤ 1048576 ∧ (0 ≤ x → x = left - n - sumN (ln f) n) ∧ Ext w w' := by
  by_cases hbig : left - n < 0
  · have hd : decide (left - (n : Int) < 0) = true := by simpa using hbig
    go_enter Tryd.func30, Tryd.ntmps30
    go_wp2
    go_ret
    exact ⟨-1, rfl, by omega, by omega, Below.refl _ _⟩
  · have hd : decide (left - (n : Int) < 0) = false := by simpa using hbig
    go_enter Tryd.func30, Tryd.ntmps30
    go_wp2_with fail
    go_loopw [1, 5] (fun q i wr => ∃ (k : Nat) (x : Int), k ≤ n ∧ i = .int .i64 k ∧ q = .int .i64 x ∧ 0 ≤ x ∧ x ≤ 1048576 ∧ Ext w wr ∧ Hid (x = left - n - sumN (ln f) k)) (fun _ i _ => n - (intOf i).toNat)
    case atStart => exact ⟨0, _, by omega, rfl, rfl, by omega, by omega, Below.refl _ _, Lib.hid (by simp [sumN])⟩
    case round =>
      obtain ⟨k, x, hk, rfl, rfl, hx0, hx1, E2, Hall⟩ := hrel
      by_cases hlt : k < n
      · obtain ⟨b1, o1, rfl, a2, c2, h1, h2, h3, h4⟩ := (r.ext E2).at hlt
        obtain ⟨m, hm⟩ : ∃ m, m = (f k).length := ⟨_, rfl⟩
        rw [← hm] at h1 h2 h3
        have Hm := Lib.hid hm
        have hm2 : m ≤ 9223372036854775807 := Nat.le_trans h3 h4
        clear hm h2 h3 h4
        go_wp2_with fail
        refine (szByteS_any a2 c2 m x wr hm2 hx0 hx1).mono ?_
        rintro e w2 ⟨rfl, rfl⟩
        by_cases h : x - m < 0
        · rw [if_pos h]
          go_wp2
          go_ret
          exact ⟨-1, rfl, by omega, by omega, E2⟩
        · rw [if_neg h]
          have hd2 : decide (x - (m : Int) < 0) = false := by simpa using h
          go_wp2
          go_roundw
          case rel =>
            refine ⟨k + 1, _, by omega, by go_num, rfl, by omega, by omega, E2, Lib.hid ?_⟩
            have h1 := Hall.out
            have h2 := Hm.out
            simp only [sumN, ln]
            omega
          case measure => simp [intOf]; omega
      · obtain rfl : k = n := by omega
        go_wp2
        go_ret
        exact ⟨_, rfl, hx1, fun _ => Hall.out, E2⟩
theorem toByteSS_own (a : Option Addr) (c n : Nat) (f : Nat → List Int) (w : World) (hn : n < 2^40) (r : SS w a n (lst n f)) (hL : ∀ i, i < n → (f i).length < 2^45) :
    Calls Tryd.prog 31 #[.slice a n c] w fun e w' => ∃ a' c' cs, e = .returned (.slice a' n c') ∧ SSg w' w.heap.size w'.heap.size (.slice a' n c') n f cs ∧ Ext w w' := by
  have HL := Lib.hid hL
  clear hL
  go_enter Tryd.func31, Tryd.ntmps31
  go_wp2_with (at_make; refine wpList_mk _ rfl _ _ 36 rfl 30 (.slice none 0 0) 24 Tryd.underlying36 info_ByteS rfl _ n rfl rfl rfl (by omega) (by omega) ?_; intro w1 hown hgrow)
  have E1 : Ext w w1 := (Ext.grown (Below.refl _ _) hgrow (by simp))
  have hs1 : w.heap.size < w1.heap.size := (hown.lt w.heap.size rfl).2
  obtain ⟨B, hB⟩ : ∃ B, B = w.heap.size := ⟨_, rfl⟩
  rw [← hB] at hown hs1 ⊢
  have HB := Lib.hid hB
  clear hB hgrow
  go_loopw [4] (fun i wr => ∃ (k : Nat) (cs : List Value), k ≤ n ∧ i = .int .i64 k ∧ Ext w wr ∧ B < wr.heap.size ∧ SSk wr B wr.heap.size (.slice (some ⟨B, 0, none⟩) n n) n k f cs) (fun i _ => n - (intOf i).toNat)
  case atStart => exact ⟨0, _, by omega, rfl, E1, hs1, SSk.zero f hown (by omega)⟩
  case round =>
    obtain ⟨k, cs, hk, rfl, E2, hs2, S2⟩ := hrel
    clear hown E1 hs1
    by_cases hlt : k < n
    · obtain ⟨b1, o1, rfl, a2, c2, h1, h2, h3, h4⟩ := (r.ext E2).at hlt
      have hdl := HL.out _ hlt
      have hcl := toByteS_any a2 c2 (f k).length (f k) wr hdl h2
      clear h2 h3 h4
      go_wp2_with fail
      refine hcl.mono ?_
      rintro e w2 ⟨v3, rfl, own3, e3⟩
      obtain ⟨a3, c3, rfl⟩ := owns_form own3
      have S3 := S2.ext e3
      obtain ⟨u0, d0, -⟩ := owns_get S3.own hlt
      have f0 := S3.own.frozenAt k
      have hcs : cs.length = n := by have := S3.own.1; omega
      have hs3 : B < w2.heap.size := Nat.lt_of_lt_of_le hs2 e3.size
      have E3 := E2.trans e3
      have st := S3.own.stored k (.slice a3 (f k).length c3)
      have hlt3 : ∀ y, a3 = some y → y.block < w2.heap.size := fun y hy => (own3.lt y.block (by rw [hy]; rfl)).2
      have S4 := S3.snoc own3 e3.size hlt3 st.1 st.2 (fun o ho => by rw [List.getElem?_set_ne (by omega)]) (by rw [List.getElem?_set_self (by omega)])
      have Hst := Lib.hid (⟨Ext.grown E3 st.2 (by simp; exact Nat.le_of_eq HB.out.symm), S4.up st.2.size⟩ : Ext w (w2.setCell ⟨B, k, none⟩ (.slice a3 (f k).length c3)) ∧ SSk (w2.setCell ⟨B, k, none⟩ (.slice a3 (f k).length c3)) B _ _ n (k + 1) f (cs.set k (.slice a3 (f k).length c3)))
      clear hcl own3 S2 S3 S4 E2 E3 e3 st h1 hlt3
      go_wp2
      go_roundw
      case rel => exact ⟨k + 1, _, by omega, by go_num, Hst.out.1, by simpa using hs3, Hst.out.2⟩
      case measure => simp [intOf]; omega
    · obtain rfl : k = n := by omega
      go_wp2
      go_ret
      rw [← HB.out]
      first | exact ⟨_, _, cs, rfl, S2, E2⟩ | exact ⟨_, _, cs, ⟨_, rfl⟩, S2, E2⟩
/-- The marks that the i-th string gets. -/
def mkF (k0 : Int) (f : Nat → List Int) (i : Nat) : List Int := marksB (k0 + (sumN (ln f) i : Nat)) (f i).length
theorem mkF_len (k0 : Int) (f : Nat → List Int) (i : Nat) : (mkF k0 f i).length = (f i).length := by simp [mkF, marksB, tab_len]
theorem markByteSS_f (a : Option Addr) (c n lo hi : Nat) (f : Nat → List Int) (cs : List Value) (k0 : Int) (w : World) (hn : n ≤ 1048576) (hk0 : 0 ≤ k0) (hk1 : k0 ≤ 2^50) (hs : sumN (ln f) n ≤ 1048576) (r : SSg w lo hi (.slice a n c) n f cs) :
    Calls Tryd.prog 25 #[.slice a n c, .int .i64 k0] w fun e w' => e = .returned (.int .i64 (k0 + (sumN (ln f) n : Nat))) ∧ SSg w' lo hi (.slice a n c) n (mkF k0 f) cs ∧ MkT w w' lo hi := by
  obtain ⟨bs, ownL, b0, b1, b2, b3⟩ := r
  have HB := Lib.hid (⟨b0, b1, b2⟩ : lo ≤ bs 0 ∧ bs n ≤ hi ∧ ∀ i, i < n → bs i ≤ bs (i + 1))
  have hst : SSb w lo hi (.slice a n c) n n (fun i => if i < 0 then mkF k0 f i else f i) cs bs := ⟨ownL, b0, b1, b2, fun i hi2 => by simpa using b3 i hi2⟩
  clear b0 b1 b2 b3 ownL
  go_enter Tryd.func25, Tryd.ntmps25
  go_wp2_with fail
  go_loopw [1, 5] (fun q i wr => ∃ (k : Nat), k ≤ n ∧ i = .int .i64 k ∧ q = .int .i64 (k0 + (sumN (ln f) k : Nat)) ∧ MkT w wr lo hi ∧ Hid (SSb wr lo hi (.slice a n c) n n (fun i => if i < k then mkF k0 f i else f i) cs bs)) (fun _ i _ => n - (intOf i).toNat)
  case atStart => exact ⟨0, by omega, rfl, by simp [sumN], MkT.refl _ _ _, Lib.hid hst⟩
  case round =>
    obtain ⟨k, hk, rfl, rfl, T2, S2⟩ := hrel
    clear hst
    have hsk : sumN (ln f) k ≤ 1048576 := Nat.le_trans (sumN_mono hk) hs
    by_cases hlt : k < n
    · obtain ⟨ownL, -, -, -, b3⟩ := S2.out
      obtain ⟨a', c', g1, g2, g3⟩ := b3 k hlt
      simp only [Nat.lt_irrefl, if_false] at g1 g2
      have hfl : (f k).length ≤ 1048576 := Nat.le_trans (sumN_mem (g := ln f) hlt) hs
      obtain ⟨g, hv⟩ : ∃ g, a = some ⟨g, 0, none⟩ := by
        rcases id ownL.2 with ⟨hv, h0'⟩ | ⟨g, cap, cur, hv, -⟩
        · omega
        · simp only [Value.slice.injEq] at hv; exact ⟨g, hv.1⟩
      subst hv
      have c1 : wr.cell? ⟨g, k, none⟩ = some (.slice a' (f k).length c') := by rw [ownL.cellAt _ (by omega)]; exact g1
      have hrow : ∀ q, (Value.slice a' (f k).length c').ownBlock = some q → bs k ≤ q ∧ q < bs (k + 1) := fun q hq => by
        refine ⟨owns_ge g2 q hq, ?_⟩
        cases a' with
        | none => simp [Value.ownBlock] at hq
        | some y => have := g3 y rfl; simp [Value.ownBlock] at hq; omega
      have hcl := markByteS_any (.slice a' (f k).length c') (f k).length _ (k0 + (sumN (ln f) k : Nat)) (bs k) wr (by omega) (by omega) (by omega) g2
      have Hrow := Lib.hid hrow
      have G1 := Lib.hid g1
      have G2 := Lib.hid g2
      clear g1 g2 g3 hrow ownL b3
      obtain ⟨m, hm⟩ : ∃ m, m = (f k).length := ⟨_, rfl⟩
      have Hm := Lib.hid hm
      rw [← hm] at c1 hcl hfl
      clear hm
      go_wp2_with fail
      refine hcl.mono ?_
      rintro e w4 ⟨rfl, o4, gr⟩
      rw [Hm.out] at o4 gr
      have hbk := seq_le HB.out.2.2 (show 0 ≤ k by omega) hk
      have hbn := seq_le HB.out.2.2 (show k + 1 ≤ n from hlt) (Nat.le_refl _)
      have hb0 := HB.out.1
      have hbh := HB.out.2.1
      have T3 : MkT w w4 lo hi := T2.step gr G2.out (fun q hq => by have := Hrow.out q hq; omega)
      have T4 : MkT wr w4 (bs k) (bs (k + 1)) := (MkT.refl wr _ _).step gr G2.out Hrow.out
      have S3 : Hid (SSb w4 lo hi (.slice (some ⟨g, 0, none⟩) n c) n n (fun i => if i < k + 1 then mkF k0 f i else f i) cs bs) := Lib.hid (by
        obtain ⟨p1, p2, p3, p4, p5⟩ := S2.out
        refine ⟨T4.kept p1 (.inl (by decide)), p2, p3, p4, fun i hi2 => ?_⟩
        by_cases e : i = k
        · subst e
          have hl := mkF_len k0 f i
          obtain ⟨a2, c2, q1, -, q3⟩ := p5 i hi2
          simp only [Nat.lt_irrefl, if_false] at q1
          have hg := G1.out
          rw [q1] at hg
          simp only [Option.some.injEq, Value.slice.injEq] at hg
          obtain ⟨rfl, -, rfl⟩ := hg
          simp only [Nat.lt_succ_self, if_true]
          refine ⟨a2, c2, by rw [hl]; exact q1, ?_, q3⟩
          rw [hl]
          exact o4
        · obtain ⟨a2, c2, q1, q2, q3⟩ := p5 i hi2
          have he : (if i < k + 1 then mkF k0 f i else f i) = (if i < k then mkF k0 f i else f i) := by
            by_cases h : i < k
            · rw [if_pos h, if_pos (by omega)]
            · rw [if_neg h, if_neg (by omega)]
          simp only at q1 q2 ⊢
          rw [he]
          refine ⟨a2, c2, q1, T4.kept q2 (.inr fun q hq => ?_), q3⟩
          have z1 := owns_ge q2 q hq
          have z2 : q < bs (i + 1) := by
            cases a2 with
            | none => simp [Value.ownBlock] at hq
            | some y => have := q3 y rfl; simp [Value.ownBlock] at hq; omega
          by_cases h : i < k
          · have := seq_le p4 (show i + 1 ≤ k from h) hk; omega
          · have := seq_le p4 (show k + 1 ≤ i by omega) (by omega); omega)
      have hm3 := Hm.out
      clear hcl gr T2 S2 T4 G1 G2 o4
      go_wp2
      go_roundw
      case rel => exact ⟨k + 1, by omega, by go_num, by simp only [sumN, ln]; rw [← hm3]; first | rfl | go_num | (push_cast; go_num), T3, S3⟩
      case measure => simp [intOf]; omega
    · obtain rfl : k = n := by omega
      go_wp2
      go_ret
      refine ⟨rfl, ⟨bs, ?_⟩, T2⟩
      obtain ⟨p1, p2, p3, p4, p5⟩ := S2.out
      refine ⟨p1, p2, p3, p4, fun i hi2 => ?_⟩
      have := p5 i hi2
      simp only [hi2, if_true] at this
      exact this
theorem heldByteSS_f (a : Option Addr) (c n : Nat) (f : Nat → List Int) (k0 : Int) (w : World) (hn : n ≤ 1048576) (hk0 : 0 ≤ k0) (hk1 : k0 ≤ 2^50) (hs : sumN (ln f) n ≤ 1048576) (r : SS w a n (lst n (mkF k0 f))) :
    Calls Tryd.prog 26 #[.slice a n c, .int .i64 k0] w fun e w' => e = .returned (.int .i64 (k0 + (sumN (ln f) n : Nat))) ∧ Ext w w' := by
  go_enter Tryd.func26, Tryd.ntmps26
  go_wp2_with fail
  go_loopw [1, 5] (fun q i wr => ∃ (k : Nat), k ≤ n ∧ i = .int .i64 k ∧ q = .int .i64 (k0 + (sumN (ln f) k : Nat)) ∧ Ext w wr) (fun _ i _ => n - (intOf i).toNat)
  case atStart => exact ⟨0, by omega, rfl, by simp [sumN], Below.refl _ _⟩
  case round =>
    obtain ⟨k, hk, rfl, rfl, E2⟩ := hrel
    have hsk : sumN (ln f) k ≤ 1048576 := Nat.le_trans (sumN_mono hk) hs
    by_cases hlt : k < n
    · obtain ⟨b1, o1, rfl, a2, c2, h1, h2, h3, h4⟩ := (r.ext E2).at hlt
      have hfl : (f k).length ≤ 1048576 := Nat.le_trans (sumN_mem (g := ln f) hlt) hs
      rw [mkF_len] at h1 h2
      obtain ⟨m, hm⟩ : ∃ m, m = (f k).length := ⟨_, rfl⟩
      have hcl := heldByteS_any a2 c2 (f k).length (k0 + (sumN (ln f) k : Nat)) wr (by omega) (by omega) (by omega) h2
      have Hm := Lib.hid hm
      rw [← hm] at h1 hcl hfl
      clear hm h2 h3 h4
      go_wp2_with fail
      refine hcl.mono ?_
      rintro e w4 ⟨rfl, q4, rfl⟩
      have E4 : Ext w (wr.drewN q4) := below_drewN E2 q4
      have hd : decide (k0 + (sumN (ln f) k : Nat) + (m : Int) < 0) = false := by simp; omega
      have hm3 := Hm.out
      clear hcl h1
      go_wp2
      go_roundw
      case rel => exact ⟨k + 1, by omega, by go_num, by simp only [sumN, ln]; rw [← hm3]; first | rfl | go_num | (push_cast; go_num), E4⟩
      case measure => simp [intOf]; omega
    · obtain rfl : k = n := by omega
      go_wp2
      go_ret
      exact ⟨rfl, E2⟩
end Go.Proofs.YtmokncpppmchfaaDoor
