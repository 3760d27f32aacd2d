/- ReadContainer: contract of the reference's. -/
import Derived.Test.YtpjjadmjdafkeaaDoorRg
import Derived.Deep.Cut
import Derived.Test.YtpjjadmjdafkeaaDoorKeep
namespace Go.Proofs.YtpjjadmjdafkeaaDoor
open Go.RowKit
set_option maxHeartbeats 2000000
section
variable {P : Program} (w : World)
/-- append onto a row of nothing. -/
theorem wpList_app0 {ops : Array Oper} {rest : List Oper} {o : Oper} {a : Act} {Q : Exit → Act → World → Prop} {base e size g : Nat}
    (hw : Region.wanted o (yielded ops a.tmps) = true)
    (hown : w.ownsRow base e size (.slice (some ⟨g, 0, none⟩) 0 0) 0 []) (hbase : base ≤ w.heap.size)
    (s x : Operand) (t : TypeId) (ho : o.op = .call { callee := .builtin .append, args := #[s, x], argTypes := #[t, t] })
    (z : Value) (bytes : Nat) (h1 : P.underlying t = some (.slice e)) (h2 : (P.info? e).map (fun i => (i.zero, i.size, i.bytes)) = some (some z, size, bytes)) (hz1 : z.cells.size = size) (hsz : 0 < size)
    (hs : a.eval s = .slice (some ⟨g, 0, none⟩) 0 0) (ad : Addr) (m c : Nat) (us : List Value) (hx : a.eval x = .slice (some ad) m c) (hl : us.length = m * size) (hcell : ∀ (j : Nat) q, us[j]? = some q → w.cell? (ad.add j) = some q) (hu1 : ∀ u ∈ us, u.oneCell' = true)
    (hb : m * bytes ≤ 140737488355328) (hn : m < 2 ^ 62)
    (h : ∀ v' w', w'.ownsRow base e size v' m us → Ext w w' → wpList P ops Q rest (a.put o.dst v') w') : wpList P ops Q (o :: rest) a w := by
  by_cases hm : m = 0
  · subst hm
    obtain rfl : us = [] := List.eq_nil_of_length_eq_zero (by omega)
    obtain ⟨i0, hi, hz0, hz1', hz2⟩ := info_parts h2
    subst hz1'
    rcases id hown.2 with ⟨hv, -⟩ | ⟨g', cap, cur, hv, hbg, hg, hnc, hcm, hcs, htake⟩
    · cases hv
    · simp only [Value.slice.injEq, Option.some.injEq, Addr.mk.injEq, and_true, true_and] at hv
      obtain ⟨rfl, rfl⟩ := hv
      have hr := run_append_room (P := P) w t o.type e i0 h1 hi g 0 0 cur hg ad 0 c [] (by simp) hcell hu1 (by omega) (by simp)
      refine wpList_want hw fun K hK => ?_
      unfold Oper.wp execOp
      simp only [ho, resolve, invoke, builtin, Sem.run_bind, Sem.run_pure, Result.andThen_ok, List.map_toArray, List.map_cons, List.map_nil, hs, hx, hr]
      have hc0 : cur = #[] := Array.eq_empty_of_size_eq_zero (by omega)
      subst hc0
      refine hK _ _ (h _ _ ?_ ?_)
      · exact ⟨hown.1, .inr ⟨g, 0, _, rfl, hbg, setRow_heap w g #[] _ e _ hg, by omega, by omega, by simp, by simp⟩⟩
      · refine ⟨rfl, rfl, rfl, by simp [World.setRow], fun k _ => ?_⟩
        by_cases hk : k = g
        · subst hk
          rw [setRow_heap w k #[] _ e _ hg, hg]; simp
        · rw [setRow_other _ _ _ _ hk]
  · have h3 := wpList_appn w (Q := Q) (rest := rest) hw hown hbase s x t ho z bytes h1 h2 hz1 hsz hs ad m c us hx hl hcell hu1 (by rw [Nat.zero_add]; exact hb) (by omega) (by omega)
    simp only [Nat.zero_add, List.nil_append] at h3
    exact h3 h
end
/-- What a region of this function leaves as it is. -/
def GC (w wa : World) (v : Value) (L : List Smp) (wx : World) : Prop := Ext w wx ∧ wa.heap.size ≤ wx.heap.size ∧ SE wx w.heap.size v L
theorem GC.ext {w wa wx wy : World} {v : Value} {L : List Smp} (h : GC w wa v L wx) (e : Ext wx wy) : GC w wa v L wy := ⟨h.1.trans e, Nat.le_trans h.2.1 e.size, h.2.2.ext e⟩
theorem ne_own4 {H q n c n1 c1 : Nat} {a : Option Addr} (h : ∀ y, a = some y → y.block < H) (hq : H ≤ q) : (Value.slice (some ⟨q, 0, none⟩) n1 c1).ownBlock = none ∨ (Value.slice (some ⟨q, 0, none⟩) n1 c1).ownBlock ≠ (Value.slice a n c).ownBlock := by
  right
  intro he
  cases a with
  | none => cases he
  | some y =>
    have h1 : q = y.block := by simpa [Value.ownBlock] using he
    have := h y rfl
    omega
theorem SE.keepA {w w' : World} {lo : Nat} {v : Value} {L : List Smp} {cs : List Value} (h1 : w.ownsRow lo 40 3 v L.length cs) (h2 : ∀ i, i < L.length → SEa w lo cs i (sget L i)) (h3 : w'.ownsRow lo 40 3 v L.length cs) (g : w.grownBy w' v.ownBlock) : SE w' lo v L := by
  refine ⟨cs, h3, fun i hi => ?_⟩
  obtain ⟨a', c', h4, h5, h6, h7⟩ := h2 i hi
  exact ⟨a', c', h4, h5, h6, h7.kept g (owns_ne h7 h1 (by decide))⟩
theorem RcR.no' {w w' : World} {d : List Int} {v : Value} (h : ¬ rcOk d) (o : w'.ownsRow w.heap.size 40 3 v 0 []) (e : Ext w w') : RcR w d (.returned (.tuple #[v, .bool false])) w' := by
  obtain ⟨a, c, rfl⟩ := owns_form o
  unfold RcR rcL
  rw [if_neg h, decide_eq_false h]
  exact ⟨a, c, rfl, ⟨[], o, fun i hi => by simp at hi⟩, e⟩
theorem rcOk_num {d : List Int} (h : rcOk d) : cNum d ≤ 100 := by
  have := (svalid_iff.1 h.2.2.2).1
  rwa [cL_len] at this
set_option maxRecDepth 100000 in
theorem spec_ReadContainer_short (a : Option Addr) (c n : Nat) (d : List Int) (w : World) (hc : n ≤ c ∧ c ≤ 9223372036854775807) (r : Sl w a n (d.map (Value.int .u8))) (hb : bys d) (hs : n = 0 ∨ 100 < cNum d ∨ n < 1 + 5 * cNum d) :
    Calls Tryd.prog 13 #[.slice a n c] w (RcR w d) := by
  have hl := r.int_len
  have hno : ¬ rcOk d := fun h => by
    have h1 := h.1.1
    have h2 := h.1.2.1
    have h3 := rcOk_num h
    omega
  have HN := Lib.hid hno
  have o1 := World.ownsRow_made (base := w.heap.size) (e := 40) (size := 3) w #[] 0 (Nat.le_refl _) (by simp) rfl
  have e1 := Ext.alloc w (.cells #[] 40)
  by_cases h0 : n = 0
  · subst h0
    clear hno hs r hb hl
    go_enter Tryd.func13, Tryd.ntmps13
    go_wp2
    go_ret2
    exact RcR.no' HN.out o1 e1
  · obtain ⟨b, o, rfl, g0⟩ := r.int (i := 0) (by omega)
    have b0 := bys_nth hb (i := 0) (by omega)
    obtain ⟨N, hN⟩ : ∃ N : Nat, nth d 0 = (N : Int) := Int.eq_ofNat_of_zero_le b0.1
    have hcn : cNum d = N := by unfold cNum; rw [hN]; rfl
    rw [hN, Nat.add_zero] at g0
    rw [hN] at b0
    rw [hcn] at hs
    have g1 := cell_ext e1 g0
    have hN255 : N ≤ 255 := by omega
    by_cases h1 : 100 < N
    · clear hno hs r hb hl hN hcn b0
      go_enter Tryd.func13, Tryd.ntmps13
      have hn1 : ((n : Int) == 0) = false := by simp; omega
      have hn2 : decide ((100 : Int) < (N : Int)) = true := by simp; omega
      go_wp2
      go_ret2
      exact RcR.no' HN.out o1 e1
    · have h2 : (n : Int) < 1 + 5 * (N : Int) := by omega
      clear hno hs r hb hl hN hcn b0
      go_enter Tryd.func13, Tryd.ntmps13
      have hn1 : ((n : Int) == 0) = false := by simp; omega
      have hn2 : decide ((100 : Int) < (N : Int)) = false := by simp; omega
      go_wp2
      go_ret2
      exact RcR.no' HN.out o1 e1
set_option maxRecDepth 100000 in
theorem spec_ReadContainer_long (b o c n N : Nat) (d : List Int) (w : World) (hc : n ≤ c ∧ c ≤ 9223372036854775807) (hn45 : n < 2^45) (r : Sl w (some ⟨b, o, none⟩) n (d.map (Value.int .u8))) (hb : bys d) (hN : cNum d = N) (hN100 : N ≤ 100) (hfit : 1 + 5 * N ≤ n) :
    Calls Tryd.prog 13 #[.slice (some ⟨b, o, none⟩) n c] w (RcR w d) := by
  have hl := r.int_len
  have hcell : ∀ i, i < n → w.cell? ⟨b, o + i, none⟩ = some (.int .u8 (nth d i)) := fun i hi => by
    obtain ⟨b', off', h1, h2⟩ := r.int hi
    simp only [Option.some.injEq, Addr.mk.injEq, and_true] at h1
    obtain ⟨rfl, rfl⟩ := h1
    exact h2
  have b0 := bys_nth hb (i := 0) (by omega)
  have g0 := hcell 0 (by omega)
  have hn0 : nth d 0 = (N : Int) := by rw [← hN]; unfold cNum; omega
  rw [hn0, Nat.add_zero] at g0
  have o1 := World.ownsRow_made (base := w.heap.size) (e := 40) (size := 3) w #[] 0 (Nat.le_refl _) (by simp) rfl
  have e1 := Ext.alloc w (.cells #[] 40)
  have g1 := cell_ext e1 g0
  have h2 : ¬ (n : Int) < 1 + 5 * (N : Int) := by omega
  have hn1 : ¬ n = 0 := by omega
  have HC := Lib.hid hcell
  have Hb := Lib.hid hb
  have HL := Lib.hid hl
  have HN := Lib.hid hN
  have HR := Lib.hid r
  clear hcell hb hl hN b0 hn0 r
  go_enter Tryd.func13, Tryd.ntmps13
  go_wp2_with fail
  · rename_i hcc
    exfalso
    rcases hcc with hcc | hcc
    · simp at hcc; omega
    · omega
  go_loopw [4, 5, 6, 7, 8] (fun v q i _ _ wr => ∃ (k at_ : Nat), k ≤ N ∧ i = .int .i64 k ∧ q = .int .i64 at_ ∧ at_ ≤ n ∧ Ext w wr ∧ SE wr w.heap.size v ((cL d).take k) ∧ Hid (at_ = cAt d k ∧ ∀ i, i < k → cK d i ≤ 1)) (fun _ _ i _ _ _ => N - (intOf i).toNat)
  case atStart => exact ⟨0, 1 + 5 * N, by omega, rfl, by first | rfl | go_num, hfit, e1, ⟨[], o1, fun i hi => by simp at hi⟩, Lib.hid ⟨by rw [← HN.out]; rfl, fun i hi => by omega⟩⟩
  case round =>
    obtain ⟨k, at_, hk, rfl, rfl, hat, E2, S2, HA⟩ := hrel
    clear o1 e1 g1
    have g2 := cell_ext E2 g0
    by_cases hlt : k < N
    · obtain ⟨q, hq⟩ : ∃ q : Nat, q = 1 + 5 * k := ⟨_, rfl⟩
      obtain ⟨q6, hq6⟩ : ∃ q : Nat, q = 6 + 5 * k := ⟨_, rfl⟩
      have hqI : 1 + 5 * (k : Int) = (q : Int) := by omega
      have hq6I : 6 + 5 * (k : Int) = (q6 : Int) := by omega
      have hq5 : q6 - q = 5 := by omega
      have hq5I : (q6 : Int) - (q : Int) = 5 := by omega
      have hqn : q6 ≤ n := by omega
      have hqq : q ≤ q6 := by omega
      have hq1 : q = 1 + 5 * k := hq
      have c0 := HC.out q (by omega)
      have c1 := HC.out (q + 1) (by omega)
      have c2 := HC.out (q + 2) (by omega)
      have c3 := HC.out (q + 3) (by omega)
      have c4 := HC.out (q + 4) (by omega)
      rw [← Nat.add_assoc] at c1 c2 c3 c4
      have b0 := bys_nth Hb.out (i := q) (by have := HL.out; omega)
      have b1 := bys_nth Hb.out (i := q + 1) (by have := HL.out; omega)
      have b2 := bys_nth Hb.out (i := q + 2) (by have := HL.out; omega)
      have b3 := bys_nth Hb.out (i := q + 3) (by have := HL.out; omega)
      have b4 := bys_nth Hb.out (i := q + 4) (by have := HL.out; omega)
      have hT : cT d k = nth d q * 256 + nth d (q + 1) := by rw [hq1]; rfl
      have hK : cK d k = nth d (q + 2) := by rw [hq1]; rfl
      have hNn : cN d k = nth d (q + 3) * 256 + nth d (q + 4) := by rw [hq1]; rfl
      generalize nth d q = z0 at *
      generalize nth d (q + 1) = z1 at *
      generalize nth d (q + 2) = z2 at *
      generalize nth d (q + 3) = z3 at *
      generalize nth d (q + 4) = z4 at *
      obtain ⟨m, hm⟩ : ∃ m : Nat, z3 * 256 + z4 = (m : Int) := Int.eq_ofNat_of_zero_le (by omega)
      rw [hm] at hNn
      have hmb : m ≤ 65535 := by omega
      have HT := Lib.hid hT
      have HKk := Lib.hid hK
      have HNn := Lib.hid hNn
      have Hq := Lib.hid hq
      clear hq hq6 hq1 hT hK hNn
      have d3 := cell_ext E2 c3
      have d4 := cell_ext E2 c4
      have d2 := cell_ext E2 c2
      go_wp2_with fail
      go_quiet (fail)
      have e3 : Ext wr (wr.drewN nq) := Ext.drewN _ _
      have E3 := E2.trans e3
      have S3 := S2.ext e3
      replace d2 := cell_ext e3 d2
      clear E2 S2 d3 d4 g2 e3
      generalize wr.drewN nq = wu at *
      by_cases hz2 : 1 < z2
      · have hno : ¬ rcOk d := fun h => by
          have h1 := h.2.2.1 k (by rw [HN.out]; exact hlt)
          rw [HKk.out] at h1
          omega
        have HNO := Lib.hid hno
        have o5 := World.ownsRow_made (base := w.heap.size) (e := 40) (size := 3) wu #[] 0 E3.size (by simp) rfl
        have e5 := E3.trans (Ext.alloc wu (.cells #[] 40))
        clear hno
        go_wp2
        go_ret2
        exact RcR.no' HNO.out o5 e5
      have hdz : decide (1 < z2) = false := by simpa using hz2
      by_cases hfull : n < at_ + m
      · have hno : ¬ rcOk d := fun h => by
          have h1 := cAt_le d (k + 1) (cNum d) (by rw [HN.out]; omega)
          have h2 := h.2.1
          have h3 : cAt d (k + 1) = cAt d k + (cN d k).toNat := rfl
          rw [HNn.out, ← HA.out.1] at h3
          have := HL.out
          omega
        have hfi : (n : Int) < (at_ : Int) + (m : Int) := by omega
        have HNO := Lib.hid hno
        have o5 := World.ownsRow_made (base := w.heap.size) (e := 40) (size := 3) wu #[] 0 E3.size (by simp) rfl
        have e5 := E3.trans (Ext.alloc wu (.cells #[] 40))
        clear hno
        go_wp2
        go_ret2
        exact RcR.no' HNO.out o5 e5
      have hfi : ¬ (n : Int) < (at_ : Int) + (m : Int) := by omega
      obtain ⟨L, hLk⟩ : ∃ L, L = (cL d).take k := ⟨_, rfl⟩
      have hLl : L.length = k := by rw [hLk, List.length_take, cL_len, HN.out]; omega
      have hLx : (cL d).take (k + 1) = L ++ [(cT d k, (cK d k == 1 : Bool), cD d k)] := by
        have hkl : k < (cL d).length := by rw [cL_len, HN.out]; exact hlt
        rw [List.take_succ_eq_append_getElem hkl, hLk, ← sget_eq _ _ hkl, cL_get d (by rw [HN.out]; exact hlt)]
      have hbl : (cD d k).length = m := by
        unfold cD
        rw [List.length_take, List.length_drop, HNn.out, ← HA.out.1, HL.out]
        omega
      have hbc : ∀ o2 : Nat, (0 < m → o2 = o + at_) → ∀ (j : Nat) v, ((cD d k).map (Value.int .u8))[j]? = some v → w.cell? ((⟨b, o2, none⟩ : Addr).add j) = some v := by
        intro o2 ho2 j v hv
        rw [List.getElem?_map] at hv
        have hjm : j < m := by
          refine Classical.byContradiction fun hge => ?_
          rw [List.getElem?_eq_none (by omega)] at hv
          cases hv
        obtain rfl := ho2 (by omega)
        have h1 := HC.out (at_ + j) (by omega)
        have h2 : nth (cD d k) j = nth d (at_ + j) := by
          unfold cD
          rw [HNn.out, ← HA.out.1, nth_take _ (by omega), nth_drop]
        rw [List.getElem?_eq_getElem (by omega)] at hv
        simp only [Option.map_some, Option.some.injEq] at hv
        rw [← nth_eq _ _ (by omega), h2] at hv
        rw [← hv, ← h1]
        by_cases hj0 : j = 0 <;> simp [Addr.add, hj0, Nat.add_assoc]
      rw [← hLk] at S3
      rw [HT.out, HKk.out] at hLx
      have hAt2 : cAt d (k + 1) = at_ + m := by
        have h3 : cAt d (k + 1) = cAt d k + (cN d k).toNat := rfl
        rw [h3, HNn.out, ← HA.out.1]; rfl
      have HA2 : Hid (at_ + m = cAt d (k + 1) ∧ ∀ i, i < k + 1 → cK d i ≤ 1) := Lib.hid ⟨hAt2.symm, fun i hi => by
        by_cases hik : i = k
        · subst hik; rw [HKk.out]; omega
        · exact HA.out.2 i (by omega)⟩
      generalize cD d k = bs0 at *
      have HLx := Lib.hid hLx
      have Hbl := Lib.hid hbl
      have Hbc := Lib.hid hbc
      obtain ⟨a4, cc4, rfl⟩ := S3.form
      have hlt4 : ∀ y, a4 = some y → y.block < wu.heap.size := fun y hy => by
        obtain ⟨cs, o, -⟩ := S3
        exact (o.lt y.block (by rw [hy]; rfl)).2
      have Hl4 := Lib.hid hlt4
      have hL100 : L.length ≤ 100 := by omega
      have HLl := Lib.hid hLl
      clear hLk hLx hbl hbc hAt2 hlt4 hLl HA HT HKk HNn Hq c3 c4
      have hle1 : at_ ≤ at_ + m := by omega
      have hle2 : at_ + m ≤ n := by omega
      have hsb : at_ + m - at_ = m := by omega
      go_wp2_with fail
      have hext : ∀ (i : Nat) (own : Value) (ys : Nat → Value) (wa wb : World), Ext wa wb → (match i with | 0 => own = .slice a4 L.length cc4 | 1 => own = .slice (some ⟨b, o + q, none⟩) 5 (c - q) | 2 => own = .pointer (some ⟨b, o + q, none⟩) | 3 => own = .int .u8 z0 | 4 => own = .int .i64 z0 | 5 => own = .int .i64 (z0 * 256) | 6 => own = .slice (some ⟨b, o + q, none⟩) 5 (c - q) | 7 => own = .pointer (some ⟨b, o + q + 1, none⟩) | 8 => own = .int .u8 z1 | 9 => own = .int .i64 z1 | 10 => own = .int .i64 (z0 * 256 + z1) | 11 => own = .slice (some ⟨b, o + q, none⟩) 5 (c - q) | 12 => own = .pointer (some ⟨b, o + q + 2, none⟩) | 13 => own = .int .u8 z2 | 14 => own = .bool (z2 == 1) | 15 => ∃ (q5 : Nat), own = .slice (some ⟨q5, 0, none⟩) 0 0 ∧ wa.ownsRow w.heap.size 5 1 (.slice (some ⟨q5, 0, none⟩) 0 0) 0 [] | 16 => own = .slice (some ⟨b, o, none⟩) n c | 17 => own = .int .i64 at_ | 18 => own = .int .i64 at_ | 19 => own = .int .i64 m | 20 => own = .int .i64 ((at_ + m : Nat) : Int) | 21 => ∃ (o2 c2 : Nat), own = .slice (some ⟨b, o2, none⟩) m c2 ∧ (0 < m → o2 = o + at_) | 22 => ∃ (a5 : Option Addr) (c5 : Nat), own = .slice a5 m c5 ∧ wa.ownsRow w.heap.size 5 1 (.slice a5 m c5) m (bs0.map (Value.int .u8)) | 23 => ∃ (a5 : Option Addr) (c5 : Nat), own = .agg #[.int .i64 (z0 * 256 + z1), .bool (z2 == 1), .slice a5 m c5] ∧ wa.ownsRow w.heap.size 5 1 (.slice a5 m c5) m (bs0.map (Value.int .u8)) | 24 => ∃ (q6 : Nat) (a5 : Option Addr) (c5 : Nat), own = .slice (some ⟨q6, 0, none⟩) 1 1 ∧ wu.heap.size ≤ q6 ∧ wa.ownsRow w.heap.size 40 3 (.slice (some ⟨q6, 0, none⟩) 1 1) 1 [.int .i64 (z0 * 256 + z1), .bool (z2 == 1), .slice a5 m c5] ∧ wa.ownsRow w.heap.size 5 1 (.slice a5 m c5) m (bs0.map (Value.int .u8)) | 25 => ∃ (a6 : Option Addr) (c6 : Nat), own = .slice a6 (L.length + 1) c6 ∧ SE wa w.heap.size (.slice a6 (L.length + 1) c6) (L ++ [(z0 * 256 + z1, (z2 == 1 : Bool), bs0)]) | 26 => ∃ (a6 : Option Addr) (c6 : Nat), own = .slice a6 (L.length + 1) c6 ∧ SE wa w.heap.size (.slice a6 (L.length + 1) c6) (L ++ [(z0 * 256 + z1, (z2 == 1 : Bool), bs0)]) | _ => True) → (match i with | 0 => own = .slice a4 L.length cc4 | 1 => own = .slice (some ⟨b, o + q, none⟩) 5 (c - q) | 2 => own = .pointer (some ⟨b, o + q, none⟩) | 3 => own = .int .u8 z0 | 4 => own = .int .i64 z0 | 5 => own = .int .i64 (z0 * 256) | 6 => own = .slice (some ⟨b, o + q, none⟩) 5 (c - q) | 7 => own = .pointer (some ⟨b, o + q + 1, none⟩) | 8 => own = .int .u8 z1 | 9 => own = .int .i64 z1 | 10 => own = .int .i64 (z0 * 256 + z1) | 11 => own = .slice (some ⟨b, o + q, none⟩) 5 (c - q) | 12 => own = .pointer (some ⟨b, o + q + 2, none⟩) | 13 => own = .int .u8 z2 | 14 => own = .bool (z2 == 1) | 15 => ∃ (q5 : Nat), own = .slice (some ⟨q5, 0, none⟩) 0 0 ∧ wb.ownsRow w.heap.size 5 1 (.slice (some ⟨q5, 0, none⟩) 0 0) 0 [] | 16 => own = .slice (some ⟨b, o, none⟩) n c | 17 => own = .int .i64 at_ | 18 => own = .int .i64 at_ | 19 => own = .int .i64 m | 20 => own = .int .i64 ((at_ + m : Nat) : Int) | 21 => ∃ (o2 c2 : Nat), own = .slice (some ⟨b, o2, none⟩) m c2 ∧ (0 < m → o2 = o + at_) | 22 => ∃ (a5 : Option Addr) (c5 : Nat), own = .slice a5 m c5 ∧ wb.ownsRow w.heap.size 5 1 (.slice a5 m c5) m (bs0.map (Value.int .u8)) | 23 => ∃ (a5 : Option Addr) (c5 : Nat), own = .agg #[.int .i64 (z0 * 256 + z1), .bool (z2 == 1), .slice a5 m c5] ∧ wb.ownsRow w.heap.size 5 1 (.slice a5 m c5) m (bs0.map (Value.int .u8)) | 24 => ∃ (q6 : Nat) (a5 : Option Addr) (c5 : Nat), own = .slice (some ⟨q6, 0, none⟩) 1 1 ∧ wu.heap.size ≤ q6 ∧ wb.ownsRow w.heap.size 40 3 (.slice (some ⟨q6, 0, none⟩) 1 1) 1 [.int .i64 (z0 * 256 + z1), .bool (z2 == 1), .slice a5 m c5] ∧ wb.ownsRow w.heap.size 5 1 (.slice a5 m c5) m (bs0.map (Value.int .u8)) | 25 => ∃ (a6 : Option Addr) (c6 : Nat), own = .slice a6 (L.length + 1) c6 ∧ SE wb w.heap.size (.slice a6 (L.length + 1) c6) (L ++ [(z0 * 256 + z1, (z2 == 1 : Bool), bs0)]) | 26 => ∃ (a6 : Option Addr) (c6 : Nat), own = .slice a6 (L.length + 1) c6 ∧ SE wb w.heap.size (.slice a6 (L.length + 1) c6) (L ++ [(z0 * 256 + z1, (z2 == 1 : Bool), bs0)]) | _ => True) := by
        intro i own ys wa wb e h
        match i, h with
        | 0, h => exact h
        | 1, h => exact h
        | 2, h => exact h
        | 3, h => exact h
        | 4, h => exact h
        | 5, h => exact h
        | 6, h => exact h
        | 7, h => exact h
        | 8, h => exact h
        | 9, h => exact h
        | 10, h => exact h
        | 11, h => exact h
        | 12, h => exact h
        | 13, h => exact h
        | 14, h => exact h
        | 15, h => obtain ⟨q5, h1, h2⟩ := h; exact ⟨q5, h1, owns_ext h2 e⟩
        | 16, h => exact h
        | 17, h => exact h
        | 18, h => exact h
        | 19, h => exact h
        | 20, h => exact h
        | 21, h => exact h
        | 22, h => obtain ⟨a5, c5, h1, h2⟩ := h; exact ⟨a5, c5, h1, owns_ext h2 e⟩
        | 23, h => obtain ⟨a5, c5, h1, h2⟩ := h; exact ⟨a5, c5, h1, owns_ext h2 e⟩
        | 24, h => obtain ⟨q6, a5, c5, h1, h2, h3, h4⟩ := h; exact ⟨q6, a5, c5, h1, h2, owns_ext h3 e, owns_ext h4 e⟩
        | 25, h => obtain ⟨a6, c6, h1, h2⟩ := h; exact ⟨a6, c6, h1, h2.ext e⟩
        | 26, h => obtain ⟨a6, c6, h1, h2⟩ := h; exact ⟨a6, c6, h1, h2.ext e⟩
        | _ + 27, _ => trivial
      have Hext := Lib.hid hext
      clear hext
      refine wp_region_inv2 (by kernel_rfl) [(4, 26), (77, 0), (78, 1), (79, 2), (80, 3), (81, 4), (82, 5), (83, 6), (84, 7), (85, 8), (86, 9), (87, 10), (88, 11), (89, 12), (90, 13), (91, 14), (92, 15), (93, 16), (94, 17), (95, 18), (96, 19), (97, 20), (98, 21), (99, 22), (100, 23), (101, 24), (102, 25)] [[], [], [1], [1, 2], [1, 2, 3], [1, 2, 3, 4], [], [6], [6, 7], [6, 7, 8], [1, 2, 3, 4, 5, 6, 7, 8, 9], [], [11], [11, 12], [11, 12, 13], [], [], [], [], [], [18, 19], [16, 17, 18, 19, 20], [15, 16, 17, 18, 19, 20, 21], [1, 2, 3, 4, 5, 6, 7, 8, 9, 10, 11, 12, 13, 14, 15, 16, 17, 18, 19, 20, 21, 22], [1, 2, 3, 4, 5, 6, 7, 8, 9, 10, 11, 12, 13, 14, 15, 16, 17, 18, 19, 20, 21, 22, 23], [0, 1, 2, 3, 4, 5, 6, 7, 8, 9, 10, 11, 12, 13, 14, 15, 16, 17, 18, 19, 20, 21, 22, 23, 24], [0, 1, 2, 3, 4, 5, 6, 7, 8, 9, 10, 11, 12, 13, 14, 15, 16, 17, 18, 19, 20, 21, 22, 23, 24, 25]] (fun i own ys wx => match i with | 0 => own = .slice a4 L.length cc4 | 1 => own = .slice (some ⟨b, o + q, none⟩) 5 (c - q) | 2 => own = .pointer (some ⟨b, o + q, none⟩) | 3 => own = .int .u8 z0 | 4 => own = .int .i64 z0 | 5 => own = .int .i64 (z0 * 256) | 6 => own = .slice (some ⟨b, o + q, none⟩) 5 (c - q) | 7 => own = .pointer (some ⟨b, o + q + 1, none⟩) | 8 => own = .int .u8 z1 | 9 => own = .int .i64 z1 | 10 => own = .int .i64 (z0 * 256 + z1) | 11 => own = .slice (some ⟨b, o + q, none⟩) 5 (c - q) | 12 => own = .pointer (some ⟨b, o + q + 2, none⟩) | 13 => own = .int .u8 z2 | 14 => own = .bool (z2 == 1) | 15 => ∃ (q5 : Nat), own = .slice (some ⟨q5, 0, none⟩) 0 0 ∧ wx.ownsRow w.heap.size 5 1 (.slice (some ⟨q5, 0, none⟩) 0 0) 0 [] | 16 => own = .slice (some ⟨b, o, none⟩) n c | 17 => own = .int .i64 at_ | 18 => own = .int .i64 at_ | 19 => own = .int .i64 m | 20 => own = .int .i64 ((at_ + m : Nat) : Int) | 21 => ∃ (o2 c2 : Nat), own = .slice (some ⟨b, o2, none⟩) m c2 ∧ (0 < m → o2 = o + at_) | 22 => ∃ (a5 : Option Addr) (c5 : Nat), own = .slice a5 m c5 ∧ wx.ownsRow w.heap.size 5 1 (.slice a5 m c5) m (bs0.map (Value.int .u8)) | 23 => ∃ (a5 : Option Addr) (c5 : Nat), own = .agg #[.int .i64 (z0 * 256 + z1), .bool (z2 == 1), .slice a5 m c5] ∧ wx.ownsRow w.heap.size 5 1 (.slice a5 m c5) m (bs0.map (Value.int .u8)) | 24 => ∃ (q6 : Nat) (a5 : Option Addr) (c5 : Nat), own = .slice (some ⟨q6, 0, none⟩) 1 1 ∧ wu.heap.size ≤ q6 ∧ wx.ownsRow w.heap.size 40 3 (.slice (some ⟨q6, 0, none⟩) 1 1) 1 [.int .i64 (z0 * 256 + z1), .bool (z2 == 1), .slice a5 m c5] ∧ wx.ownsRow w.heap.size 5 1 (.slice a5 m c5) m (bs0.map (Value.int .u8)) | 25 => ∃ (a6 : Option Addr) (c6 : Nat), own = .slice a6 (L.length + 1) c6 ∧ SE wx w.heap.size (.slice a6 (L.length + 1) c6) (L ++ [(z0 * 256 + z1, (z2 == 1 : Bool), bs0)]) | 26 => ∃ (a6 : Option Addr) (c6 : Nat), own = .slice a6 (L.length + 1) c6 ∧ SE wx w.heap.size (.slice a6 (L.length + 1) c6) (L ++ [(z0 * 256 + z1, (z2 == 1 : Bool), bs0)]) | _ => True) (fun kx wx => GC w wu (.slice a4 L.length cc4) L wx) (by kernel_rfl) (by kernel_rfl) (by kernel_rfl) ?g0_r1 ?gop_r1 ?gend_r1
      case g0_r1 => exact ⟨E3.trans (Ext.drewN _ 1), Nat.le_refl _, S3.ext (Ext.drewN _ 1)⟩
      case gop_r1 =>
        refine ⟨?_, ?_, ?_, ?_, ?_, ?_, ?_, ?_, ?_, ?_, ?_, ?_, ?_, ?_, ?_, ?_, ?_, ?_, ?_, ?_, ?_, ?_, ?_, ?_, ?_, ?_, ?_, trivial⟩
        · intro kx xs wx hk hG hD hI Qo Kx hK hQo
          clear hD
          have i26 := hI 26 4 rfl rfl
          simp only [List.getD_cons_succ, List.getD_cons_zero] at i26
          clear hI
          simp only [patchS, Nat.reduceAdd, Nat.reduceEqDiff, ↓reduceIte] at hQo ⊢
          rw [i26] at hQo ⊢
          clear i26
          go_wp2
          exact hK.out _ _ ⟨rfl, hG, fun _ _ _ _ _ _ h => h⟩
        · intro kx xs wx hk hG hD hI Qo Kx hK hQo
          clear hD
          clear hI
          simp only [patchS, Nat.reduceAdd, Nat.reduceEqDiff, ↓reduceIte] at hQo ⊢
          go_wp2
          exact hK.out _ _ ⟨rfl, hG, fun _ _ _ _ _ _ h => h⟩
        · intro kx xs wx hk hG hD hI Qo Kx hK hQo
          have d1 : (xs 1) = .slice (some ⟨b, o + q, none⟩) 5 (c - q) := hD 1 rfl
          clear hD
          clear hI
          simp only [patchS, Nat.reduceAdd, Nat.reduceEqDiff, ↓reduceIte] at hQo ⊢
          generalize xs 1 = y1 at *
          subst d1
          go_wp2
          exact hK.out _ _ ⟨rfl, hG, fun _ _ _ _ _ _ h => h⟩
        · intro kx xs wx hk hG hD hI Qo Kx hK hQo
          have d2 : (xs 2) = .pointer (some ⟨b, o + q, none⟩) := hD 2 rfl
          clear hD
          clear hI
          simp only [patchS, Nat.reduceAdd, Nat.reduceEqDiff, ↓reduceIte] at hQo ⊢
          generalize xs 2 = y2 at *
          subst d2
          have k0 := cell_ext hG.1 c0
          go_wp2
          exact hK.out _ _ ⟨rfl, hG, fun _ _ _ _ _ _ h => h⟩
        · intro kx xs wx hk hG hD hI Qo Kx hK hQo
          have d3 : (xs 3) = .int .u8 z0 := hD 3 rfl
          clear hD
          clear hI
          simp only [patchS, Nat.reduceAdd, Nat.reduceEqDiff, ↓reduceIte] at hQo ⊢
          generalize xs 3 = y3 at *
          subst d3
          go_wp2
          exact hK.out _ _ ⟨rfl, hG, fun _ _ _ _ _ _ h => h⟩
        · intro kx xs wx hk hG hD hI Qo Kx hK hQo
          have d4 : (xs 4) = .int .i64 z0 := hD 4 rfl
          clear hD
          clear hI
          simp only [patchS, Nat.reduceAdd, Nat.reduceEqDiff, ↓reduceIte] at hQo ⊢
          generalize xs 4 = y4 at *
          subst d4
          go_wp2
          exact hK.out _ _ ⟨rfl, hG, fun _ _ _ _ _ _ h => h⟩
        · intro kx xs wx hk hG hD hI Qo Kx hK hQo
          clear hD
          clear hI
          simp only [patchS, Nat.reduceAdd, Nat.reduceEqDiff, ↓reduceIte] at hQo ⊢
          go_wp2
          exact hK.out _ _ ⟨rfl, hG, fun _ _ _ _ _ _ h => h⟩
        · intro kx xs wx hk hG hD hI Qo Kx hK hQo
          have d6 : (xs 6) = .slice (some ⟨b, o + q, none⟩) 5 (c - q) := hD 6 rfl
          clear hD
          clear hI
          simp only [patchS, Nat.reduceAdd, Nat.reduceEqDiff, ↓reduceIte] at hQo ⊢
          generalize xs 6 = y6 at *
          subst d6
          go_wp2
          exact hK.out _ _ ⟨rfl, hG, fun _ _ _ _ _ _ h => h⟩
        · intro kx xs wx hk hG hD hI Qo Kx hK hQo
          have d7 : (xs 7) = .pointer (some ⟨b, o + q + 1, none⟩) := hD 7 rfl
          clear hD
          clear hI
          simp only [patchS, Nat.reduceAdd, Nat.reduceEqDiff, ↓reduceIte] at hQo ⊢
          generalize xs 7 = y7 at *
          subst d7
          have k0 := cell_ext hG.1 c1
          go_wp2
          exact hK.out _ _ ⟨rfl, hG, fun _ _ _ _ _ _ h => h⟩
        · intro kx xs wx hk hG hD hI Qo Kx hK hQo
          have d8 : (xs 8) = .int .u8 z1 := hD 8 rfl
          clear hD
          clear hI
          simp only [patchS, Nat.reduceAdd, Nat.reduceEqDiff, ↓reduceIte] at hQo ⊢
          generalize xs 8 = y8 at *
          subst d8
          go_wp2
          exact hK.out _ _ ⟨rfl, hG, fun _ _ _ _ _ _ h => h⟩
        · intro kx xs wx hk hG hD hI Qo Kx hK hQo
          have d5 : (xs 5) = .int .i64 (z0 * 256) := hD 5 rfl
          have d9 : (xs 9) = .int .i64 z1 := hD 9 rfl
          clear hD
          clear hI
          simp only [patchS, Nat.reduceAdd, Nat.reduceEqDiff, ↓reduceIte] at hQo ⊢
          generalize xs 5 = y5 at *
          generalize xs 9 = y9 at *
          subst d5
          subst d9
          go_wp2
          exact hK.out _ _ ⟨rfl, hG, fun _ _ _ _ _ _ h => h⟩
        · intro kx xs wx hk hG hD hI Qo Kx hK hQo
          clear hD
          clear hI
          simp only [patchS, Nat.reduceAdd, Nat.reduceEqDiff, ↓reduceIte] at hQo ⊢
          go_wp2
          exact hK.out _ _ ⟨rfl, hG, fun _ _ _ _ _ _ h => h⟩
        · intro kx xs wx hk hG hD hI Qo Kx hK hQo
          have d11 : (xs 11) = .slice (some ⟨b, o + q, none⟩) 5 (c - q) := hD 11 rfl
          clear hD
          clear hI
          simp only [patchS, Nat.reduceAdd, Nat.reduceEqDiff, ↓reduceIte] at hQo ⊢
          generalize xs 11 = y11 at *
          subst d11
          go_wp2
          exact hK.out _ _ ⟨rfl, hG, fun _ _ _ _ _ _ h => h⟩
        · intro kx xs wx hk hG hD hI Qo Kx hK hQo
          have d12 : (xs 12) = .pointer (some ⟨b, o + q + 2, none⟩) := hD 12 rfl
          clear hD
          clear hI
          simp only [patchS, Nat.reduceAdd, Nat.reduceEqDiff, ↓reduceIte] at hQo ⊢
          generalize xs 12 = y12 at *
          subst d12
          have k0 := cell_ext hG.1 c2
          go_wp2
          exact hK.out _ _ ⟨rfl, hG, fun _ _ _ _ _ _ h => h⟩
        · intro kx xs wx hk hG hD hI Qo Kx hK hQo
          have d13 : (xs 13) = .int .u8 z2 := hD 13 rfl
          clear hD
          clear hI
          simp only [patchS, Nat.reduceAdd, Nat.reduceEqDiff, ↓reduceIte] at hQo ⊢
          generalize xs 13 = y13 at *
          subst d13
          go_wp2
          exact hK.out _ _ ⟨rfl, hG, fun _ _ _ _ _ _ h => h⟩
        · intro kx xs wx hk hG hD hI Qo Kx hK hQo
          clear hD
          clear hI
          simp only [patchS, Nat.reduceAdd, Nat.reduceEqDiff, ↓reduceIte] at hQo ⊢
          have e5 := Ext.alloc wx (.cells #[] 5)
          have o5 := World.ownsRow_made (base := w.heap.size) (e := 5) (size := 1) wx #[] 0 hG.1.size (by simp) rfl
          go_wp2
          exact hK.out _ _ ⟨⟨_, rfl, o5⟩, hG.ext e5, fun i _ _ _ own ys h => Hext.out i own ys _ _ e5 h⟩
        · intro kx xs wx hk hG hD hI Qo Kx hK hQo
          clear hD
          clear hI
          simp only [patchS, Nat.reduceAdd, Nat.reduceEqDiff, ↓reduceIte] at hQo ⊢
          go_wp2
          exact hK.out _ _ ⟨rfl, hG, fun _ _ _ _ _ _ h => h⟩
        · intro kx xs wx hk hG hD hI Qo Kx hK hQo
          clear hD
          clear hI
          simp only [patchS, Nat.reduceAdd, Nat.reduceEqDiff, ↓reduceIte] at hQo ⊢
          go_wp2
          exact hK.out _ _ ⟨rfl, hG, fun _ _ _ _ _ _ h => h⟩
        · intro kx xs wx hk hG hD hI Qo Kx hK hQo
          clear hD
          clear hI
          simp only [patchS, Nat.reduceAdd, Nat.reduceEqDiff, ↓reduceIte] at hQo ⊢
          go_wp2
          exact hK.out _ _ ⟨rfl, hG, fun _ _ _ _ _ _ h => h⟩
        · intro kx xs wx hk hG hD hI Qo Kx hK hQo
          clear hD
          clear hI
          simp only [patchS, Nat.reduceAdd, Nat.reduceEqDiff, ↓reduceIte] at hQo ⊢
          go_wp2
          exact hK.out _ _ ⟨rfl, hG, fun _ _ _ _ _ _ h => h⟩
        · intro kx xs wx hk hG hD hI Qo Kx hK hQo
          have d18 : (xs 18) = .int .i64 at_ := hD 18 rfl
          have d19 : (xs 19) = .int .i64 m := hD 19 rfl
          clear hD
          clear hI
          simp only [patchS, Nat.reduceAdd, Nat.reduceEqDiff, ↓reduceIte] at hQo ⊢
          generalize xs 18 = y18 at *
          generalize xs 19 = y19 at *
          subst d18
          subst d19
          go_wp2
          exact hK.out _ _ ⟨by first | rfl | rw [Int.natCast_add], hG, fun _ _ _ _ _ _ h => h⟩
        · intro kx xs wx hk hG hD hI Qo Kx hK hQo
          have d16 : (xs 16) = .slice (some ⟨b, o, none⟩) n c := hD 16 rfl
          have d17 : (xs 17) = .int .i64 at_ := hD 17 rfl
          have d20 : (xs 20) = .int .i64 ((at_ + m : Nat) : Int) := hD 20 rfl
          clear hD
          clear hI
          simp only [patchS, Nat.reduceAdd, Nat.reduceEqDiff, ↓reduceIte] at hQo ⊢
          generalize xs 16 = y16 at *
          generalize xs 17 = y17 at *
          generalize xs 20 = y20 at *
          subst d16
          subst d17
          subst d20
          go_wp2
          all_goals first | exact hK.out _ _ ⟨⟨_, _, rfl, fun _ => rfl⟩, hG, fun _ _ _ _ _ _ h => h⟩ | exact hK.out _ _ ⟨⟨_, _, rfl, fun _ => by omega⟩, hG, fun _ _ _ _ _ _ h => h⟩
        · intro kx xs wx hk hG hD hI Qo Kx hK hQo
          have d15 : ∃ (q5 : Nat), (xs 15) = .slice (some ⟨q5, 0, none⟩) 0 0 ∧ wx.ownsRow w.heap.size 5 1 (.slice (some ⟨q5, 0, none⟩) 0 0) 0 [] := hD 15 rfl
          have d21 : ∃ (o2 c2 : Nat), (xs 21) = .slice (some ⟨b, o2, none⟩) m c2 ∧ (0 < m → o2 = o + at_) := hD 21 rfl
          clear hD
          clear hI
          simp only [patchS, Nat.reduceAdd, Nat.reduceEqDiff, ↓reduceIte] at hQo ⊢
          generalize xs 15 = y15 at *
          generalize xs 21 = y21 at *
          obtain ⟨q5, rfl, o15⟩ := d15
          obtain ⟨o2, c2, rfl, ho2⟩ := d21
          refine wpList_app0 _ rfl o15 hG.1.size _ _ _ rfl (.int .u8 0) 1 Tryd.underlying22 info_uint8 rfl (by decide) rfl ⟨b, o2, none⟩ m c2 (bs0.map (Value.int .u8)) rfl (by rw [List.length_map, Hbl.out]; omega) (fun j v hv => cell_ext hG.1 (Hbc.out o2 ho2 j v hv)) (by intro u hu; simp at hu; obtain ⟨z, -, rfl⟩ := hu; rfl) (by omega) (by omega) ?_
          intro v22 w22 own22 e22
          obtain ⟨a22, c22, rfl⟩ := owns_form own22
          exact hQo _ _ (hK.out _ _ ⟨⟨_, _, rfl, own22⟩, hG.ext e22, fun i _ _ _ own ys h => Hext.out i own ys _ _ e22 h⟩)
        · intro kx xs wx hk hG hD hI Qo Kx hK hQo
          have d10 : (xs 10) = .int .i64 (z0 * 256 + z1) := hD 10 rfl
          have d14 : (xs 14) = .bool (z2 == 1) := hD 14 rfl
          have d22 : ∃ (a5 : Option Addr) (c5 : Nat), (xs 22) = .slice a5 m c5 ∧ wx.ownsRow w.heap.size 5 1 (.slice a5 m c5) m (bs0.map (Value.int .u8)) := hD 22 rfl
          clear hD
          clear hI
          simp only [patchS, Nat.reduceAdd, Nat.reduceEqDiff, ↓reduceIte] at hQo ⊢
          generalize xs 10 = y10 at *
          generalize xs 14 = y14 at *
          generalize xs 22 = y22 at *
          subst d10
          subst d14
          obtain ⟨a5, c5, rfl, o22⟩ := d22
          go_wp2
          exact hK.out _ _ ⟨⟨_, _, rfl, o22⟩, hG, fun _ _ _ _ _ _ h => h⟩
        · intro kx xs wx hk hG hD hI Qo Kx hK hQo
          have d23 : ∃ (a5 : Option Addr) (c5 : Nat), (xs 23) = .agg #[.int .i64 (z0 * 256 + z1), .bool (z2 == 1), .slice a5 m c5] ∧ wx.ownsRow w.heap.size 5 1 (.slice a5 m c5) m (bs0.map (Value.int .u8)) := hD 23 rfl
          clear hD
          clear hI
          simp only [patchS, Nat.reduceAdd, Nat.reduceEqDiff, ↓reduceIte] at hQo ⊢
          generalize xs 23 = y23 at *
          obtain ⟨a5, c5, rfl, o23⟩ := d23
          have e5 := Ext.alloc wx (.cells #[.int .i64 (z0 * 256 + z1), .bool (z2 == 1), .slice a5 m c5] 40)
          have o5 := World.ownsRow_lit (base := w.heap.size) (e := 40) (size := 3) wx #[.int .i64 (z0 * 256 + z1), .bool (z2 == 1), .slice a5 m c5] 1 hG.1.size (by unfold maxLen; omega) rfl
          go_wp2
          exact hK.out _ _ ⟨⟨_, _, _, rfl, hG.2.1, o5, owns_ext o23 e5⟩, hG.ext e5, fun i _ _ _ own ys h => Hext.out i own ys _ _ e5 h⟩
        · intro kx xs wx hk hG hD hI Qo Kx hK hQo
          have d0 : (xs 0) = .slice a4 L.length cc4 := hD 0 rfl
          have d24 : ∃ (q6 : Nat) (a5 : Option Addr) (c5 : Nat), (xs 24) = .slice (some ⟨q6, 0, none⟩) 1 1 ∧ wu.heap.size ≤ q6 ∧ wx.ownsRow w.heap.size 40 3 (.slice (some ⟨q6, 0, none⟩) 1 1) 1 [.int .i64 (z0 * 256 + z1), .bool (z2 == 1), .slice a5 m c5] ∧ wx.ownsRow w.heap.size 5 1 (.slice a5 m c5) m (bs0.map (Value.int .u8)) := hD 24 rfl
          clear hD
          clear hI
          simp only [patchS, Nat.reduceAdd, Nat.reduceEqDiff, ↓reduceIte] at hQo ⊢
          generalize xs 0 = y0 at *
          generalize xs 24 = y24 at *
          subst d0
          obtain ⟨q6, a5, c5, rfl, hq6, o24, p24⟩ := d24
          obtain ⟨cs5, o25, q25⟩ := hG.2.2
          have Q25 := Lib.hid q25
          clear q25
          refine wpList_appk _ rfl o25 hG.1.size _ _ _ rfl (.agg #[.int .i64 0, .bool false, .slice none 0 0]) 40 Tryd.underlying23 info_Sample rfl (by decide) rfl ⟨q6, 0, none⟩ 1 1 _ rfl rfl (o24.cells rfl) (by intro u hu; simp at hu; rcases hu with rfl | rfl | rfl <;> rfl) (by omega) (by omega) ?_
          intro v14 w14 own14 gr14 keep14
          obtain ⟨a14, c14, rfl⟩ := owns_form own14
          have hst : ∀ (wy : World), wx.grownBy wy (Value.slice a4 L.length cc4).ownBlock → ∀ (ii : Nat), ii < 27 → ii ≠ 25 → ([[], [], [1], [1, 2], [1, 2, 3], [1, 2, 3, 4], [], [6], [6, 7], [6, 7, 8], [1, 2, 3, 4, 5, 6, 7, 8, 9], [], [11], [11, 12], [11, 12, 13], [], [], [], [], [], [18, 19], [16, 17, 18, 19, 20], [15, 16, 17, 18, 19, 20, 21], [1, 2, 3, 4, 5, 6, 7, 8, 9, 10, 11, 12, 13, 14, 15, 16, 17, 18, 19, 20, 21, 22], [1, 2, 3, 4, 5, 6, 7, 8, 9, 10, 11, 12, 13, 14, 15, 16, 17, 18, 19, 20, 21, 22, 23], [0, 1, 2, 3, 4, 5, 6, 7, 8, 9, 10, 11, 12, 13, 14, 15, 16, 17, 18, 19, 20, 21, 22, 23, 24], [0, 1, 2, 3, 4, 5, 6, 7, 8, 9, 10, 11, 12, 13, 14, 15, 16, 17, 18, 19, 20, 21, 22, 23, 24, 25]].getD ii []).contains 25 = false → ∀ (own : Value) (ys : Nat → Value), (match ii with | 0 => own = .slice a4 L.length cc4 | 1 => own = .slice (some ⟨b, o + q, none⟩) 5 (c - q) | 2 => own = .pointer (some ⟨b, o + q, none⟩) | 3 => own = .int .u8 z0 | 4 => own = .int .i64 z0 | 5 => own = .int .i64 (z0 * 256) | 6 => own = .slice (some ⟨b, o + q, none⟩) 5 (c - q) | 7 => own = .pointer (some ⟨b, o + q + 1, none⟩) | 8 => own = .int .u8 z1 | 9 => own = .int .i64 z1 | 10 => own = .int .i64 (z0 * 256 + z1) | 11 => own = .slice (some ⟨b, o + q, none⟩) 5 (c - q) | 12 => own = .pointer (some ⟨b, o + q + 2, none⟩) | 13 => own = .int .u8 z2 | 14 => own = .bool (z2 == 1) | 15 => ∃ (q5 : Nat), own = .slice (some ⟨q5, 0, none⟩) 0 0 ∧ wx.ownsRow w.heap.size 5 1 (.slice (some ⟨q5, 0, none⟩) 0 0) 0 [] | 16 => own = .slice (some ⟨b, o, none⟩) n c | 17 => own = .int .i64 at_ | 18 => own = .int .i64 at_ | 19 => own = .int .i64 m | 20 => own = .int .i64 ((at_ + m : Nat) : Int) | 21 => ∃ (o2 c2 : Nat), own = .slice (some ⟨b, o2, none⟩) m c2 ∧ (0 < m → o2 = o + at_) | 22 => ∃ (a5 : Option Addr) (c5 : Nat), own = .slice a5 m c5 ∧ wx.ownsRow w.heap.size 5 1 (.slice a5 m c5) m (bs0.map (Value.int .u8)) | 23 => ∃ (a5 : Option Addr) (c5 : Nat), own = .agg #[.int .i64 (z0 * 256 + z1), .bool (z2 == 1), .slice a5 m c5] ∧ wx.ownsRow w.heap.size 5 1 (.slice a5 m c5) m (bs0.map (Value.int .u8)) | 24 => ∃ (q6 : Nat) (a5 : Option Addr) (c5 : Nat), own = .slice (some ⟨q6, 0, none⟩) 1 1 ∧ wu.heap.size ≤ q6 ∧ wx.ownsRow w.heap.size 40 3 (.slice (some ⟨q6, 0, none⟩) 1 1) 1 [.int .i64 (z0 * 256 + z1), .bool (z2 == 1), .slice a5 m c5] ∧ wx.ownsRow w.heap.size 5 1 (.slice a5 m c5) m (bs0.map (Value.int .u8)) | 25 => ∃ (a6 : Option Addr) (c6 : Nat), own = .slice a6 (L.length + 1) c6 ∧ SE wx w.heap.size (.slice a6 (L.length + 1) c6) (L ++ [(z0 * 256 + z1, (z2 == 1 : Bool), bs0)]) | 26 => ∃ (a6 : Option Addr) (c6 : Nat), own = .slice a6 (L.length + 1) c6 ∧ SE wx w.heap.size (.slice a6 (L.length + 1) c6) (L ++ [(z0 * 256 + z1, (z2 == 1 : Bool), bs0)]) | _ => True) → (match ii with | 0 => own = .slice a4 L.length cc4 | 1 => own = .slice (some ⟨b, o + q, none⟩) 5 (c - q) | 2 => own = .pointer (some ⟨b, o + q, none⟩) | 3 => own = .int .u8 z0 | 4 => own = .int .i64 z0 | 5 => own = .int .i64 (z0 * 256) | 6 => own = .slice (some ⟨b, o + q, none⟩) 5 (c - q) | 7 => own = .pointer (some ⟨b, o + q + 1, none⟩) | 8 => own = .int .u8 z1 | 9 => own = .int .i64 z1 | 10 => own = .int .i64 (z0 * 256 + z1) | 11 => own = .slice (some ⟨b, o + q, none⟩) 5 (c - q) | 12 => own = .pointer (some ⟨b, o + q + 2, none⟩) | 13 => own = .int .u8 z2 | 14 => own = .bool (z2 == 1) | 15 => ∃ (q5 : Nat), own = .slice (some ⟨q5, 0, none⟩) 0 0 ∧ wy.ownsRow w.heap.size 5 1 (.slice (some ⟨q5, 0, none⟩) 0 0) 0 [] | 16 => own = .slice (some ⟨b, o, none⟩) n c | 17 => own = .int .i64 at_ | 18 => own = .int .i64 at_ | 19 => own = .int .i64 m | 20 => own = .int .i64 ((at_ + m : Nat) : Int) | 21 => ∃ (o2 c2 : Nat), own = .slice (some ⟨b, o2, none⟩) m c2 ∧ (0 < m → o2 = o + at_) | 22 => ∃ (a5 : Option Addr) (c5 : Nat), own = .slice a5 m c5 ∧ wy.ownsRow w.heap.size 5 1 (.slice a5 m c5) m (bs0.map (Value.int .u8)) | 23 => ∃ (a5 : Option Addr) (c5 : Nat), own = .agg #[.int .i64 (z0 * 256 + z1), .bool (z2 == 1), .slice a5 m c5] ∧ wy.ownsRow w.heap.size 5 1 (.slice a5 m c5) m (bs0.map (Value.int .u8)) | 24 => ∃ (q6 : Nat) (a5 : Option Addr) (c5 : Nat), own = .slice (some ⟨q6, 0, none⟩) 1 1 ∧ wu.heap.size ≤ q6 ∧ wy.ownsRow w.heap.size 40 3 (.slice (some ⟨q6, 0, none⟩) 1 1) 1 [.int .i64 (z0 * 256 + z1), .bool (z2 == 1), .slice a5 m c5] ∧ wy.ownsRow w.heap.size 5 1 (.slice a5 m c5) m (bs0.map (Value.int .u8)) | 25 => ∃ (a6 : Option Addr) (c6 : Nat), own = .slice a6 (L.length + 1) c6 ∧ SE wy w.heap.size (.slice a6 (L.length + 1) c6) (L ++ [(z0 * 256 + z1, (z2 == 1 : Bool), bs0)]) | 26 => ∃ (a6 : Option Addr) (c6 : Nat), own = .slice a6 (L.length + 1) c6 ∧ SE wy w.heap.size (.slice a6 (L.length + 1) c6) (L ++ [(z0 * 256 + z1, (z2 == 1 : Bool), bs0)]) | _ => True) := by
            intro wy hy ii hii hne hc own ys h
            match ii, h with
            | 0, h => exact h
            | 1, h => exact h
            | 2, h => exact h
            | 3, h => exact h
            | 4, h => exact h
            | 5, h => exact h
            | 6, h => exact h
            | 7, h => exact h
            | 8, h => exact h
            | 9, h => exact h
            | 10, h => exact h
            | 11, h => exact h
            | 12, h => exact h
            | 13, h => exact h
            | 14, h => exact h
            | 15, h => obtain ⟨q5, h1, h2⟩ := h; exact ⟨q5, h1, h2.kept hy (owns_ne h2 o25 (by decide))⟩
            | 16, h => exact h
            | 17, h => exact h
            | 18, h => exact h
            | 19, h => exact h
            | 20, h => exact h
            | 21, h => exact h
            | 22, h => obtain ⟨a5, c5, h1, h2⟩ := h; exact ⟨a5, c5, h1, h2.kept hy (owns_ne h2 o25 (by decide))⟩
            | 23, h => obtain ⟨a5, c5, h1, h2⟩ := h; exact ⟨a5, c5, h1, h2.kept hy (owns_ne h2 o25 (by decide))⟩
            | 24, h => obtain ⟨q6, a5, c5, h1, h2, h3, h4⟩ := h; exact ⟨q6, a5, c5, h1, h2, h3.kept hy (ne_own4 Hl4.out h2), h4.kept hy (owns_ne h4 o25 (by decide))⟩
            | 25, h => exact absurd rfl hne
            | 26, h => exact absurd hc (by decide)
            | _ + 27, _ => trivial
          exact hQo _ _ (hK.out _ _ ⟨⟨_, _, rfl, SE.snoc o25 Q25.out (by rw [Hbl.out]; exact p24) (by rw [Hbl.out]; exact own14) gr14⟩, ⟨Ext.grown hG.1 gr14 (owns_ge o25), Nat.le_trans hG.2.1 gr14.size, SE.keepA o25 Q25.out (keep14 _ _ _ _ (Nat.le_refl _) o25) gr14⟩, hst _ gr14⟩)
        · intro kx xs wx hk hG hD hI Qo Kx hK hQo
          have d25 : ∃ (a6 : Option Addr) (c6 : Nat), (xs 25) = .slice a6 (L.length + 1) c6 ∧ SE wx w.heap.size (.slice a6 (L.length + 1) c6) (L ++ [(z0 * 256 + z1, (z2 == 1 : Bool), bs0)]) := hD 25 rfl
          clear hD
          clear hI
          simp only [patchS, Nat.reduceAdd, Nat.reduceEqDiff, ↓reduceIte] at hQo ⊢
          generalize xs 25 = y25 at *
          obtain ⟨a6, c6, rfl, s25⟩ := d25
          go_wp2
          exact hK.out _ _ ⟨⟨_, _, rfl, s25⟩, hG, fun _ _ _ _ _ _ h => h⟩
      clear Hext
      intro xs wx hV hG
      have d0 : (xs 0) = .slice a4 L.length cc4 := hV 0 (by decide)
      have d1 : (xs 1) = .slice (some ⟨b, o + q, none⟩) 5 (c - q) := hV 1 (by decide)
      have d2 : (xs 2) = .pointer (some ⟨b, o + q, none⟩) := hV 2 (by decide)
      have d3 : (xs 3) = .int .u8 z0 := hV 3 (by decide)
      have d4 : (xs 4) = .int .i64 z0 := hV 4 (by decide)
      have d5 : (xs 5) = .int .i64 (z0 * 256) := hV 5 (by decide)
      have d6 : (xs 6) = .slice (some ⟨b, o + q, none⟩) 5 (c - q) := hV 6 (by decide)
      have d7 : (xs 7) = .pointer (some ⟨b, o + q + 1, none⟩) := hV 7 (by decide)
      have d8 : (xs 8) = .int .u8 z1 := hV 8 (by decide)
      have d9 : (xs 9) = .int .i64 z1 := hV 9 (by decide)
      have d10 : (xs 10) = .int .i64 (z0 * 256 + z1) := hV 10 (by decide)
      have d11 : (xs 11) = .slice (some ⟨b, o + q, none⟩) 5 (c - q) := hV 11 (by decide)
      have d12 : (xs 12) = .pointer (some ⟨b, o + q + 2, none⟩) := hV 12 (by decide)
      have d13 : (xs 13) = .int .u8 z2 := hV 13 (by decide)
      have d14 : (xs 14) = .bool (z2 == 1) := hV 14 (by decide)
      have d15 : ∃ (q5 : Nat), (xs 15) = .slice (some ⟨q5, 0, none⟩) 0 0 ∧ wx.ownsRow w.heap.size 5 1 (.slice (some ⟨q5, 0, none⟩) 0 0) 0 [] := hV 15 (by decide)
      have d16 : (xs 16) = .slice (some ⟨b, o, none⟩) n c := hV 16 (by decide)
      have d17 : (xs 17) = .int .i64 at_ := hV 17 (by decide)
      have d18 : (xs 18) = .int .i64 at_ := hV 18 (by decide)
      have d19 : (xs 19) = .int .i64 m := hV 19 (by decide)
      have d20 : (xs 20) = .int .i64 ((at_ + m : Nat) : Int) := hV 20 (by decide)
      have d21 : ∃ (o2 c2 : Nat), (xs 21) = .slice (some ⟨b, o2, none⟩) m c2 ∧ (0 < m → o2 = o + at_) := hV 21 (by decide)
      have d22 : ∃ (a5 : Option Addr) (c5 : Nat), (xs 22) = .slice a5 m c5 ∧ wx.ownsRow w.heap.size 5 1 (.slice a5 m c5) m (bs0.map (Value.int .u8)) := hV 22 (by decide)
      have d23 : ∃ (a5 : Option Addr) (c5 : Nat), (xs 23) = .agg #[.int .i64 (z0 * 256 + z1), .bool (z2 == 1), .slice a5 m c5] ∧ wx.ownsRow w.heap.size 5 1 (.slice a5 m c5) m (bs0.map (Value.int .u8)) := hV 23 (by decide)
      have d24 : ∃ (q6 : Nat) (a5 : Option Addr) (c5 : Nat), (xs 24) = .slice (some ⟨q6, 0, none⟩) 1 1 ∧ wu.heap.size ≤ q6 ∧ wx.ownsRow w.heap.size 40 3 (.slice (some ⟨q6, 0, none⟩) 1 1) 1 [.int .i64 (z0 * 256 + z1), .bool (z2 == 1), .slice a5 m c5] ∧ wx.ownsRow w.heap.size 5 1 (.slice a5 m c5) m (bs0.map (Value.int .u8)) := hV 24 (by decide)
      have d25 : ∃ (a6 : Option Addr) (c6 : Nat), (xs 25) = .slice a6 (L.length + 1) c6 ∧ SE wx w.heap.size (.slice a6 (L.length + 1) c6) (L ++ [(z0 * 256 + z1, (z2 == 1 : Bool), bs0)]) := hV 25 (by decide)
      have d26 : ∃ (a6 : Option Addr) (c6 : Nat), (xs 26) = .slice a6 (L.length + 1) c6 ∧ SE wx w.heap.size (.slice a6 (L.length + 1) c6) (L ++ [(z0 * 256 + z1, (z2 == 1 : Bool), bs0)]) := hV 26 (by decide)
      clear hV
      simp only [patchS, Nat.reduceAdd, Nat.reduceEqDiff, ↓reduceIte]
      generalize xs 0 = y0 at *
      generalize xs 1 = y1 at *
      generalize xs 2 = y2 at *
      generalize xs 3 = y3 at *
      generalize xs 4 = y4 at *
      generalize xs 5 = y5 at *
      generalize xs 6 = y6 at *
      generalize xs 7 = y7 at *
      generalize xs 8 = y8 at *
      generalize xs 9 = y9 at *
      generalize xs 10 = y10 at *
      generalize xs 11 = y11 at *
      generalize xs 12 = y12 at *
      generalize xs 13 = y13 at *
      generalize xs 14 = y14 at *
      generalize xs 15 = y15 at *
      generalize xs 16 = y16 at *
      generalize xs 17 = y17 at *
      generalize xs 18 = y18 at *
      generalize xs 19 = y19 at *
      generalize xs 20 = y20 at *
      generalize xs 21 = y21 at *
      generalize xs 22 = y22 at *
      generalize xs 23 = y23 at *
      generalize xs 24 = y24 at *
      generalize xs 25 = y25 at *
      generalize xs 26 = y26 at *
      replace hG : GC w wu (.slice a4 L.length cc4) L wx := hG
      clear d0 d1 d2 d3 d4 d5 d6 d7 d8 d9 d10 d11 d12 d13 d14 d15 d16 d17 d18 d19 d20 d21 d22 d23 d24 d25
      obtain ⟨a6, c6, rfl, s26⟩ := d26
      have E6 := hG.1
      clear hG E3 S3 c0 c1 c2 d2
      go_wp2_with fail
      go_roundw
      case rel => exact ⟨k + 1, at_ + m, by omega, by go_num, by go_num, by omega, E6, by rw [HLx.out]; exact s26, HA2⟩
      case measure => simp [intOf]; omega
    · obtain rfl : k = N := by omega

      rw [List.take_of_length_le (by rw [cL_len, HN.out]; exact Nat.le_refl _)] at S2
      obtain ⟨a4, cc4, rfl⟩ := S2.form
      by_cases hne : at_ = n
      · subst hne
        have hV := fun (wz : World) (r : SP wz a4 (cL d).length (cL d)) => spec_SamplesValid_any a4 cc4 (cL d).length (cL d) wz (by rw [cL_len, HN.out]; omega) r
        have HV := Lib.hid hV
        have hat : cAt d (cNum d) = d.length := by rw [HN.out, ← HA.out.1, HL.out]
        have hft : fits d := ⟨by have := HL.out; omega, by have := HL.out; have := HN.out; omega, by omega⟩
        have hck : ∀ i, i < cNum d → cK d i ≤ 1 := by rw [HN.out]; exact HA.out.2
        have HF := Lib.hid (show rcOk d ↔ svalid (cL d) = true from ⟨fun h => h.2.2.2, fun h => ⟨hft, hat, hck, h⟩⟩)
        have HRL := Lib.hid (show svalid (cL d) = true → rcL d = cL d from fun h => by unfold rcL; rw [if_pos (HF.out.2 h)])
        clear hV hat hft hck
        generalize cL d = L at *
        have sp := S2.toSP
        cases hv : svalid L with
        | true =>
          rw [hv] at HF HRL HV
          go_wp2_with fail
          refine (HV.out _ sp).mono ?_
          rintro e w5 ⟨rfl, dm, rfl⟩
          go_wp2
          go_ret2
          unfold RcR
          rw [HRL.out trivial, decide_eq_true (HF.out.2 trivial)]
          exact ⟨_, _, rfl, S2.ext (Ext.drewN _ _), E2.trans (Ext.drewN _ _)⟩
        | false =>
          rw [hv] at HF HV
          have HNO := Lib.hid (show ¬ rcOk d from fun h => by have := HF.out.1 h; cases this)
          go_wp2_with fail
          refine (HV.out _ sp).mono ?_
          rintro e w5 ⟨rfl, dm, rfl⟩
          have E5 := E2.trans (Ext.drewN wr dm)
          generalize wr.drewN dm = wb at *
          have o5 := World.ownsRow_made (base := w.heap.size) (e := 40) (size := 3) wb #[] 0 E5.size (by simp) rfl
          have e5 := E5.trans (Ext.alloc wb (.cells #[] 40))
          go_wp2
          go_ret2
          exact RcR.no' HNO.out o5 e5
      · have hno : ¬ rcOk d := fun h => hne (by have h2 := h.2.1; rw [HN.out, ← HA.out.1, HL.out] at h2; exact h2)
        have HNO := Lib.hid hno
        have hnI : ((at_ : Int) != (n : Int)) = true := by simp; omega
        have o5 := World.ownsRow_made (base := w.heap.size) (e := 40) (size := 3) wr #[] 0 E2.size (by simp) rfl
        have e5 := E2.trans (Ext.alloc wr (.cells #[] 40))
        clear hno hne
        go_wp2
        go_ret2
        exact RcR.no' HNO.out o5 e5
end Go.Proofs.YtpjjadmjdafkeaaDoor
