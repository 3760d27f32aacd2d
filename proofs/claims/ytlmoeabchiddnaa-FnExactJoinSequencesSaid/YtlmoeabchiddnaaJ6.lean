/- Cutting and joining lists of coded pictures: the program's. -/
import Derived.Test.YtlmoeabchiddnaaJ5
namespace Go.Proofs.Ytlmoeabchiddnaa
open Go.RowKit
set_option maxHeartbeats 1000000
theorem sumN_shift (g : Nat → Nat) (F : Nat) : ∀ m, sumN (fun i => g (F + i)) m + sumN g F = sumN g (F + m)
  | 0 => by simp [sumN]
  | m + 1 => by have := sumN_shift g F m; rw [← Nat.add_assoc]; simp only [sumN]; omega
theorem okC.shift {r : Nat → Cd} {n : Nat} (h : okC r n) {F m : Nat} (hm : F + m ≤ n) : okC (fun i => r (F + i)) m := by
  have h1 := sumN_shift (fun i => szC (r i)) F m
  have h2 : sumN (fun i => szC (r i)) (F + m) ≤ sumN (fun i => szC (r i)) n := sumN_mono hm
  have h3 := h.2
  have h4 := h.1
  unfold smN at h3
  refine ⟨by omega, ?_⟩
  unfold smN
  simp only at h1 h2 h3 ⊢
  omega
/-- The joined list. -/
def joinR (n1 : Nat) (r1 r2 : Nat → Cd) (i : Nat) : Cd := if i < n1 then r1 i else r2 (i - n1)
theorem joinR_l {n1 : Nat} {r1 r2 : Nat → Cd} {i : Nat} (h : i < n1) : joinR n1 r1 r2 i = r1 i := by simp [joinR, h]
theorem joinR_r {n1 : Nat} {r1 r2 : Nat → Cd} {i : Nat} (h : n1 ≤ i) : joinR n1 r1 r2 i = r2 (i - n1) := by simp [joinR, show ¬ i < n1 by omega]
theorem okC.join {r1 r2 : Nat → Cd} {n1 n2 : Nat} (h1 : okC r1 n1) (h2 : okC r2 n2) (hs : smN szC r1 n1 + n1 + (smN szC r2 n2 + n2) ≤ 1048576) : okC (joinR n1 r1 r2) (n1 + n2) := by
  have k1 := sumN_shift (fun i => szC (joinR n1 r1 r2 i)) n1 n2
  have k2 : sumN (fun i => szC (joinR n1 r1 r2 (n1 + i))) n2 = smN szC r2 n2 := sumN_congr fun i hi => by rw [joinR_r (by omega)]; simp
  have k3 : sumN (fun i => szC (joinR n1 r1 r2 i)) n1 = smN szC r1 n1 := sumN_congr fun i hi => by rw [joinR_l hi]
  refine ⟨by omega, ?_⟩
  unfold smN
  omega
theorem CP.shift {w : World} {b off n : Nat} {r : Nat → Cd} (h : CP w (some ⟨b, off, none⟩) n r) {F m : Nat} (hm : F + m ≤ n) : CP w (some ⟨b, off + F * 5, none⟩) m (fun i => r (F + i)) := fun i hi => by
  obtain ⟨b', o', ha, hc⟩ := h (F + i) (by omega)
  simp only [Option.some.injEq, Addr.mk.injEq, and_true] at ha
  obtain ⟨rfl, rfl⟩ := ha
  exact ⟨_, _, rfl, by rw [Nat.add_assoc, ← Nat.add_mul]; exact hc⟩
theorem CE.one {w : World} {lo hi n : Nat} {v : Value} {r : Nat → Cd} {cs : List Value} (h : CE w lo hi v n n r cs) : ∀ u ∈ cs, u.oneCell' = true := by
  obtain ⟨us, h1, -, -, -, h5⟩ := h
  have hcl : cs.length = n * 5 := h1.1
  intro u hu
  obtain ⟨j, hj, rfl⟩ := List.getElem_of_mem hu
  obtain ⟨a, c, ss, ⟨k0, k1, k2, k3, k4⟩, -⟩ := h5 (j / 5) (by omega)
  have hd : j = j / 5 * 5 + j % 5 := by omega
  have hm : j % 5 < 5 := Nat.mod_lt _ (by decide)
  have he : cs[j]? = some cs[j] := List.getElem?_eq_getElem hj
  generalize cs[j] = u at *
  generalize j / 5 = d at *
  generalize j % 5 = m at *
  subst hd
  match m, hm with
  | 0, _ => rw [Nat.add_zero] at he; rw [k0] at he; simp only [Option.some.injEq] at he; rw [← he]; rfl
  | 1, _ => rw [k1] at he; simp only [Option.some.injEq] at he; rw [← he]; rfl
  | 2, _ => rw [k2] at he; simp only [Option.some.injEq] at he; rw [← he]; rfl
  | 3, _ => rw [k3] at he; simp only [Option.some.injEq] at he; rw [← he]; rfl
  | 4, _ => rw [k4] at he; simp only [Option.some.injEq] at he; rw [← he]; rfl
/-- append(s, t...) of lists of coded pictures of the call's own. -/
theorem CE.join {w w' : World} {lo1 hi1 lo2 hi2 hi' n1 n2 : Nat} {v1 v2 v' : Value} {r1 r2 : Nat → Cd} {cs1 cs2 : List Value} (h1 : CE w lo1 hi1 v1 n1 n1 r1 cs1) (h2 : CE w lo2 hi2 v2 n2 n2 r2 cs2) (hb : hi1 ≤ lo2) (hh : hi2 ≤ hi')
    (own : w'.ownsRow lo1 36 5 v' (n1 + n2) (cs1 ++ cs2)) (g : w.grownBy w' v1.ownBlock) : CE w' lo1 hi' v' (n1 + n2) (n1 + n2) (joinR n1 r1 r2) (cs1 ++ cs2) := by
  have o1 := h1.own
  have hcl : cs1.length = n1 * 5 := o1.1
  obtain ⟨us, -, a2, a3, a4, a5⟩ := h1
  obtain ⟨vs, -, b2, b3, b4, b5⟩ := h2
  obtain ⟨ws, w1, w2⟩ : ∃ ws : Nat → Nat, (∀ i, i < n1 → ws i = us i) ∧ ∀ i, ws (n1 + i) = vs i := ⟨fun i => if i < n1 then us i else vs (i - n1), fun i hi => by simp [hi], fun i => by simp; omega⟩
  have w3 : ws n1 = vs 0 := by have := w2 0; rwa [Nat.add_zero] at this
  have hle : ∀ i, i < n1 → us (i + 1) ≤ ws (i + 1) := fun i hi => by
    by_cases e : i + 1 = n1
    · rw [e, w3]; omega
    · rw [w1 _ (by omega)]; exact Nat.le_refl _
  refine ⟨ws, own, ?_, by rw [w2]; omega, fun i hi => ?_, fun i hi => ?_⟩
  · by_cases e : n1 = 0
    · subst e
      rw [w3]; omega
    · rw [w1 0 (by omega)]; exact a2
  · by_cases e : i < n1
    · rw [w1 i e]; exact Nat.le_trans (a4 i e) (hle i e)
    · obtain ⟨j, rfl⟩ := Nat.exists_eq_add_of_le (show n1 ≤ i by omega)
      rw [Nat.add_assoc, w2, w2]; exact b4 j (by omega)
  · by_cases e : i < n1
    · obtain ⟨a, c, ss, ⟨k0, k1, k2, k3, k4⟩, k5⟩ := a5 i e
      rw [joinR_l e]
      refine ⟨a, c, ss, ⟨?_, ?_, ?_, ?_, ?_⟩, ?_⟩
      · rw [List.getElem?_append_left (by omega)]; exact k0
      · rw [List.getElem?_append_left (by omega)]; exact k1
      · rw [List.getElem?_append_left (by omega)]; exact k2
      · rw [List.getElem?_append_left (by omega)]; exact k3
      · rw [List.getElem?_append_left (by omega)]; exact k4
      · rw [w1 i e]
        exact SSk.up (SSk.kept k5 g o1 (by decide) (by decide)) (hle i e)
    · obtain ⟨j, rfl⟩ := Nat.exists_eq_add_of_le (show n1 ≤ i by omega)
      obtain ⟨a, c, ss, ⟨k0, k1, k2, k3, k4⟩, k5⟩ := b5 j (by omega)
      rw [joinR_r (by omega), show n1 + j - n1 = j by omega, Nat.add_assoc, w2, w2]
      refine ⟨a, c, ss, ⟨?_, ?_, ?_, ?_, ?_⟩, SSg.kept k5 g o1 (by decide) (by decide)⟩
      · rw [List.getElem?_append_right (by omega), show (n1 + j) * 5 - cs1.length = j * 5 by omega]; exact k0
      · rw [List.getElem?_append_right (by omega), show (n1 + j) * 5 + 1 - cs1.length = j * 5 + 1 by omega]; exact k1
      · rw [List.getElem?_append_right (by omega), show (n1 + j) * 5 + 2 - cs1.length = j * 5 + 2 by omega]; exact k2
      · rw [List.getElem?_append_right (by omega), show (n1 + j) * 5 + 3 - cs1.length = j * 5 + 3 by omega]; exact k3
      · rw [List.getElem?_append_right (by omega), show (n1 + j) * 5 + 4 - cs1.length = j * 5 + 4 by omega]; exact k4
theorem CE.none (w : World) (r : Nat → Cd) (lo hi : Nat) (h : lo ≤ hi) : CE w lo hi (.slice none 0 0) 0 0 r [] := CE.zero r (World.ownsRow_nil _ _ _ _) h
set_option maxRecDepth 100000 in
theorem impl_CutSequence_yes (a : Option Addr) (n c F T : Nat) (r : Nat → Cd) (w : World) (hc : n ≤ c ∧ c ≤ maxLen) (ok : okC r n) (R : CP w a n r) (hn : n ≤ 8) (hFT : F ≤ T) (hT : T < n) (hi : (r F).i = true) :
    Calls Try.prog 13 #[.slice a n c, .int .i64 F, .int .i64 T] w fun e w' => ∃ a' c' cs, e = .returned (.slice a' (T + 1 - F) c') ∧ CE w' w.heap.size w'.heap.size (.slice a' (T + 1 - F) c') (T + 1 - F) (T + 1 - F) (fun i => r (F + i)) cs ∧ Ext w w' := by
  have hc1 := hc.1
  have hc2 := hc.2
  unfold maxLen at hc2
  obtain ⟨b, off, rfl, a2, c2, ⟨h1, h2, h3, h4, h5⟩, h6, h7, h8⟩ := R F (by omega)
  rw [hi] at h3
  have Hcl := Lib.hid (fun (c9 : Nat) => cloneAll_any (some ⟨b, off + F * 5, none⟩) (T + 1 - F) c9 (fun i => r (F + i)) w (ok.shift (by omega)) (R.shift (by omega)))
  clear h1 h2 h4 h5 h6 h7 h8 hc ok R
  go_enter Try.func13, Try.ntmps13
  go_wp2_with fail
  refine (Hcl.out _).mono ?_
  rintro e w2 ⟨a3, c3, cs, rfl, S, E⟩
  go_wp2
  go_ret
  exact ⟨_, _, cs, rfl, S, E⟩
set_option maxRecDepth 100000 in
theorem impl_CutSequence_no (a : Option Addr) (n c : Nat) (x y : Int) (r : Nat → Cd) (w : World) (hn0 : n ≤ 9223372036854775807) (R : CP w a n r) (wx : -9223372036854775808 ≤ x ∧ x ≤ 9223372036854775807) (wy : -9223372036854775808 ≤ y ∧ y ≤ 9223372036854775807)
    (hno : ¬ (n ≤ 8 ∧ 0 ≤ x ∧ x ≤ y ∧ y < n ∧ (r x.toNat).i = true)) :
    Calls Try.prog 13 #[.slice a n c, .int .i64 x, .int .i64 y] w fun e w' => e = .returned (.slice none 0 0) ∧ w' = w := by
  by_cases h1 : 8 < n
  · go_enter Try.func13, Try.ntmps13
    go_wp2
    go_ret
    exact ⟨rfl, rfl⟩
  by_cases h2 : x < 0
  · go_enter Try.func13, Try.ntmps13
    go_wp2
    go_ret
    exact ⟨rfl, rfl⟩
  by_cases h3 : (n : Int) ≤ y
  · go_enter Try.func13, Try.ntmps13
    go_wp2
    go_ret
    exact ⟨rfl, rfl⟩
  by_cases h4 : y < x
  · go_enter Try.func13, Try.ntmps13
    go_wp2
    go_ret
    exact ⟨rfl, rfl⟩
  obtain ⟨F, rfl⟩ := Int.eq_ofNat_of_zero_le (show 0 ≤ x by omega)
  have hi : (r F).i = false := by
    cases h : (r F).i with
    | false => rfl
    | true => exact absurd ⟨by omega, by omega, by omega, by omega, by simpa using h⟩ hno
  obtain ⟨b, off, rfl, a2, c2, ⟨k1, k2, k3, k4, k5⟩, k6, k7, k8⟩ := R F (by omega)
  rw [hi] at k3
  clear hno k1 k2 k4 k5 k6 k7 k8 R
  go_enter Try.func13, Try.ntmps13
  go_wp2
  go_ret
  exact ⟨rfl, rfl⟩
/-- append(s, t...), both of the call's own. -/
theorem wpList_append5 {P : Program} (w : World) {ops : Array Oper} {rest : List Oper} {o : Oper} {a : Act} {Q : Exit → Act → World → Prop} {base e b2 : Nat} {v : Value} {n : Nat} {xs us : List Value} {A : Option Addr} {m c : Nat}
    (hown : w.ownsRow base e 5 v n xs) (hbase : base ≤ w.heap.size) (src : w.ownsRow b2 e 5 (.slice A m c) m us)
    (hg : o.guard = none) (s x : Operand) (t : TypeId) (ho : o.op = .call { callee := .builtin .append, args := #[s, x], argTypes := #[t, t] })
    (z : Value) (bytes : Nat) (h1 : P.underlying t = some (.slice e)) (h2 : (P.info? e).map (fun i => (i.zero, i.size, i.bytes)) = some (some z, 5, bytes)) (hz1 : z.cells.size = 5)
    (hs : a.eval s = v) (hx : a.eval x = .slice A m c) (hu1 : ∀ u ∈ us, u.oneCell' = true)
    (hb : (n + m) * bytes ≤ 140737488355328) (hn : n + m < 2 ^ 62)
    (h : ∀ v' w', w'.ownsRow base e 5 v' (n + m) (xs ++ us) → w.grownBy w' v.ownBlock → wpList P ops Q rest (a.put o.dst v') w') : wpList P ops Q (o :: rest) a w := by
  obtain ⟨i0, hi, hz0, hz1', hz2⟩ := info_parts h2
  rcases id src.2 with ⟨hv, hm⟩ | ⟨g, cap, cur, hv, -⟩
  · simp only [Value.slice.injEq] at hv
    obtain ⟨rfl, rfl, rfl⟩ := hv
    have hus : us = [] := List.eq_nil_of_length_eq_zero (by have := src.1; omega)
    subst hus
    refine wpList_plain hg fun _ hK => ?_
    have hrun := run_app_nil (P := P) w base t o.type e i0 5 h1 hi v n xs hown 0
    unfold Oper.wp execOp
    simp only [ho, resolve, invoke, builtin, Sem.run_bind, Sem.run_pure, Result.andThen_ok, List.map_toArray, List.map_cons, List.map_nil, hs, hx, hrun]
    exact hK _ _ (h v w (by simpa using hown) (World.grownBy.refl w _))
  · simp only [Value.slice.injEq] at hv
    obtain ⟨rfl, -, rfl⟩ := hv
    refine wpList_append_own _ hg s x t ho base e i0 z 5 bytes h1 hi hz0 hz1' hz2 hz1 (by decide) v n xs hs hown ⟨g, 0, none⟩ m c us hx src.1 (src.cells rfl) hu1 (by unfold maxLen; omega) hb hbase ?_
    intro v' w' a1 a2 _
    exact h v' w' a1 a2
set_option maxRecDepth 100000 in
theorem impl_JoinSequences_yes (a1 a2 : Option Addr) (n1 c1 n2 c2 : Nat) (r1 r2 : Nat → Cd) (w : World) (ok1 : okC r1 n1) (ok2 : okC r2 n2) (R1 : CP w a1 n1 r1) (R2 : CP w a2 n2 r2) (hn : n1 + n2 ≤ 8) (hi : 0 < n2 → (r2 0).i = true) :
    Calls Try.prog 8 #[.slice a1 n1 c1, .slice a2 n2 c2] w fun e w' => ∃ a' c' cs, e = .returned (.slice a' (n1 + n2) c') ∧ CE w' w.heap.size w'.heap.size (.slice a' (n1 + n2) c') (n1 + n2) (n1 + n2) (joinR n1 r1 r2) cs ∧ Ext w w' := by
  have H1 := Lib.hid (cloneAll_any a1 n1 c1 r1 w ok1 R1)
  have H2 := Lib.hid (fun (wz : World) (e : Ext w wz) => cloneAll_any a2 n2 c2 r2 wz ok2 (R2.ext e))
  have hsum : ((n1 : Int) + n2) ≤ 8 := by omega
  clear ok1 ok2 R1
  by_cases h0 : 0 < n2
  · obtain ⟨b, off, rfl, a3, c3, ⟨k1, k2, k3, k4, k5⟩, k6, k7, k8⟩ := R2 0 h0
    rw [hi h0] at k3
    rw [Nat.zero_mul, Nat.add_zero] at k3
    clear hi k1 k2 k4 k5 k6 k7 k8 R2
    go_enter Try.func8, Try.ntmps8
    go_wp2_with fail
    refine H1.out.mono ?_
    rintro e w2 ⟨a4, c4, cs4, rfl, S4, E4⟩
    go_wp2_with fail
    refine (H2.out _ E4).mono ?_
    rintro e w3 ⟨a5, c5, cs5, rfl, S5, E5⟩
    have S6 := S4.ext E5
    have E6 := E4.trans E5
    have o6 := S6.own
    have o5 := S5.own
    have hs6 := E6.size
    have e56 := E5.size
    have one := S5.one
    go_wp2_with (at_builtin; refine wpList_append5 _ o6 hs6 o5 rfl _ _ 24 rfl (.agg #[.int .i64 0, .int .i64 0, .bool false, .int .i64 0, .slice none 0 0]) 56 Try.underlying24 info_Coded rfl rfl rfl one (by omega) (by omega) ?_; intro v7 w7 own7 gr7; refine Hid.out ?_)
    obtain ⟨a7, c7, rfl⟩ := owns_form own7
    have S7 := CE.join (hi' := w7.heap.size) S6 S5 (Nat.le_refl _) gr7.size own7 gr7
    have E7 : Ext w w7 := Ext.grown E6 gr7 (owns_ge o6)
    clear S6 S5 own7 gr7 o6 o5 S4
    refine Lib.hid ?_
    go_wp2
    go_ret
    exact ⟨_, _, _, rfl, S7, E7⟩
  · obtain rfl : n2 = 0 := by omega
    clear hi R2
    go_enter Try.func8, Try.ntmps8
    go_wp2_with fail
    refine H1.out.mono ?_
    rintro e w2 ⟨a4, c4, cs4, rfl, S4, E4⟩
    go_wp2_with fail
    refine (H2.out _ E4).mono ?_
    rintro e w3 ⟨a5, c5, cs5, rfl, S5, E5⟩
    have S6 := S4.ext E5
    have E6 := E4.trans E5
    have o6 := S6.own
    have o5 := S5.own
    have hs6 := E6.size
    have e56 := E5.size
    have one := S5.one
    go_wp2_with (at_builtin; refine wpList_append5 _ o6 hs6 o5 rfl _ _ 24 rfl (.agg #[.int .i64 0, .int .i64 0, .bool false, .int .i64 0, .slice none 0 0]) 56 Try.underlying24 info_Coded rfl rfl rfl one (by omega) (by omega) ?_; intro v7 w7 own7 gr7; refine Hid.out ?_)
    obtain ⟨a7, c7, rfl⟩ := owns_form own7
    have S7 := CE.join (hi' := w7.heap.size) S6 S5 (Nat.le_refl _) gr7.size own7 gr7
    have E7 : Ext w w7 := Ext.grown E6 gr7 (owns_ge o6)
    clear S6 S5 own7 gr7 o6 o5 S4
    refine Lib.hid ?_
    go_wp2
    go_ret
    exact ⟨_, _, _, rfl, S7, E7⟩
set_option maxRecDepth 100000 in
theorem impl_JoinSequences_no (a1 a2 : Option Addr) (n1 c1 n2 c2 : Nat) (r2 : Nat → Cd) (w : World) (hn1 : n1 ≤ 1048576) (hn2 : n2 ≤ 1048576) (R2 : CP w a2 n2 r2) (hno : 8 < n1 + n2 ∨ 0 < n2 ∧ (r2 0).i = false) :
    Calls Try.prog 8 #[.slice a1 n1 c1, .slice a2 n2 c2] w fun e w' => e = .returned (.slice none 0 0) ∧ w' = w := by
  by_cases h1 : 8 < n1 + n2
  · have h1' : (8 : Int) < (n1 : Int) + n2 := by omega
    clear hno
    go_enter Try.func8, Try.ntmps8
    go_wp2
    go_ret
    exact ⟨rfl, rfl⟩
  · obtain ⟨h0, hi⟩ : 0 < n2 ∧ (r2 0).i = false := by
      rcases hno with h | h
      · omega
      · exact h
    have h1' : ((n1 : Int) + n2) ≤ 8 := by omega
    obtain ⟨b, off, rfl, a3, c3, ⟨k1, k2, k3, k4, k5⟩, k6, k7, k8⟩ := R2 0 h0
    rw [hi, Nat.zero_mul, Nat.add_zero] at k3
    clear hi k1 k2 k4 k5 k6 k7 k8 R2 hno
    go_enter Try.func8, Try.ntmps8
    go_wp2
    go_ret
    exact ⟨rfl, rfl⟩
end Go.Proofs.Ytlmoeabchiddnaa
