/- A region whose last operation comes behind all the others: what holds may tell how many have run. -/
import Derived.Test.YtlmoeabchiddnaaDoorRegion
namespace Go.Proofs.YtlmoeabchiddnaaDoor
open Go.RowKit
/-- What every operation must do. -/
structure ObOkl (n : Nat) (P : Program) (ol : List Oper) (l : List Value) (df : List Deferred) (ds : List (Nat × Nat)) (anc : List (List Nat)) (V : Nat → (Nat → Value) → World → Prop) (G : Nat → World → Prop) (j : Nat) (o : Oper) : Prop where
  run : ∀ k xs w, k < n → G k w → (∀ i, (anc.getD j []).contains i = true → V i xs w) → (∀ i d, (anc.getD i []).contains j = true → (ol.toArray[i]?).bind (·.dst) = some d → xs i = l.getD d undef) →
    (∀ i, i < n → (anc.getD i []).contains j = true → k + 1 < n) → ((∀ i, i < n → i ≠ j → (anc.getD j []).contains i = true) → k + 1 = n) →
    OpGoal P ol.toArray o ⟨(patchS 0 l ds xs).toArray, df⟩ w (fun v w' => V j (upd xs j v) w' ∧ G (k + 1) w' ∧ ∀ i, i < ol.length → i ≠ j → (anc.getD i []).contains j = false → V i xs w → V i (upd xs j v) w')

theorem wp_region_invl (n : Nat) {P : Program} {id : Nat} {ol : List Oper} {Q : Exit → Act → World → Prop} {l : List Value} {df : List Deferred} {w0 : World}
    (hm : P.follows .mixedOrders = true) (ds : List (Nat × Nat)) (anc : List (List Nat)) (V : Nat → (Nat → Value) → World → Prop) (G : Nat → World → Prop)
    (hn : ol.length = n) (hds : dsOk ol ds l.length = true) (hanc : ancOk ol anc = true) (hself : (List.range ol.length).all (fun i => !(anc.getD i []).contains i) = true) (h0 : G 0 w0.drew)
    (hop : ∀ j o, ol[j]? = some o → ObOkl n P ol l df ds anc V G j o)
    (hend : ∀ xs w', (∀ i, i < ol.length → V i xs w') → G n w' → Q .normal ⟨(patchS 0 l ds xs).toArray, df⟩ w') :
    (Code.region id ol.toArray true).wp P Q ⟨l.toArray, df⟩ w0 := by
  subst hn
  simp only [dsOk, Bool.and_eq_true, List.all_eq_true, decide_eq_true_eq, beq_iff_eq, List.mem_range] at hds
  obtain ⟨⟨⟨ha, hd1⟩, hnd⟩, hd2⟩ := hds
  simp only [ancOk, Bool.and_eq_true, List.all_eq_true, beq_iff_eq, List.mem_range] at hanc
  obtain ⟨hal, hanc⟩ := hanc
  -- the states that are met
  have key : ∀ (fuel : Nat) (listed : Array Bool) (xs : Nat → Value) (w : World), listed.size = ol.length → listed.toList.count true + fuel = ol.length →
      (∀ i, listed.getD i false = true → ∀ j, (anc.getD i []).contains j = true → listed.getD j false = true) →
      (∀ i, i < ol.length → listed.getD i false = true → V i xs w) → G (listed.toList.count true) w →
      (∀ i d, listed.getD i false = false → (ol.toArray[i]?).bind (·.dst) = some d → xs i = l.getD d undef) →
      wpAny P .any ol.toArray Q fuel listed ⟨(patchS 0 l ds xs).toArray, df⟩ w := by
    intro fuel
    have full : ∀ (listed : Array Bool), listed.size = ol.length → listed.toList.count true = ol.length → ∀ i, i < ol.length → listed.getD i false = true := by
      intro listed hs hc i hi
      have h1 : ∀ b ∈ listed.toList, true = b := List.count_eq_length.1 (by rw [hc]; simp [hs])
      have h2 := h1 listed[i] (by simp)
      simp [Array.getD, hs, hi, ← h2]
    have none_ready : ∀ (listed : Array Bool), listed.size = ol.length → listed.toList.count true < ol.length → Region.ready .any ol.toArray listed ≠ [] := by
      intro listed hs hc hr
      -- the least that is not listed
      have hex : ∃ i, i < ol.length ∧ listed.getD i false = false := by
        refine Classical.byContradiction fun hno => ?_
        have : listed.toList.count true = ol.length := by
          rw [← hs, ← Array.length_toList, List.count_eq_length]
          intro b hb
          obtain ⟨i, hi, rfl⟩ := List.getElem_of_mem hb
          simp at hi
          refine Classical.byContradiction fun hne => hno ⟨i, by omega, ?_⟩
          simp [Array.getD, hi]
          simpa using hne
        omega
      obtain ⟨i, ⟨hi, hli⟩, hmin⟩ := exists_least hex
      have : i ∈ Region.ready .any ol.toArray listed := by
        rw [mem_ready]
        refine ⟨?_, ol[i], by simp [hi], fun e he hb => ?_⟩
        · simp [Array.getD, hs, hi] at hli ⊢; exact hli
        · have h1 := (hanc i hi)
          simp only [List.getElem?_eq_getElem hi, Bool.and_eq_true, List.all_eq_true, decide_eq_true_eq] at h1
          have h2 := h1.1 e.on (List.mem_map.2 ⟨e, List.mem_filter.2 ⟨by simpa using he, hb⟩, rfl⟩)
          cases hle : listed.getD e.on false with
          | true => rfl
          | false => have := hmin e.on ⟨by omega, hle⟩; omega
      rw [hr] at this
      cases this
    induction fuel with
    | zero =>
      intro listed xs w hs hc hcl hV hG _
      have hf := full listed hs (by omega)
      refine ⟨?_, ?_⟩
      · refine List.eq_nil_iff_forall_not_mem.2 fun i hi => ?_
        obtain ⟨h1, o, h2, -⟩ := mem_ready.1 hi
        have hlt : i < ol.length := by
          have := (Array.getElem?_eq_some_iff.1 h2).1
          simpa using this
        have := hf i hlt
        simp [Array.getD, hs, hlt] at this h1
        rw [this] at h1
        cases h1
      · refine hend xs w (fun i hi => hV i hi (hf i hi)) ?_
        rw [show ol.length = listed.toList.count true by omega]
        exact hG
    | succ fuel ih =>
      intro listed xs w hs hc hcl hV hG hI
      refine ⟨fun hr => absurd hr (none_ready listed hs (by omega)), fun i hi => ?_⟩
      obtain ⟨h1, o, h2, h3⟩ := mem_ready.1 hi
      have hlt : i < ol.length := by
        have := (Array.getElem?_eq_some_iff.1 h2).1
        simpa using this
      have h2' : ol[i]? = some o := by simpa using h2
      have hun : listed.getD i false = false := by simp [Array.getD, hs, hlt] at h1 ⊢; exact h1
      have hA := hanc i hlt
      rw [h2'] at hA
      simp only [Bool.and_eq_true, List.all_eq_true, decide_eq_true_eq, Bool.or_eq_true, List.any_eq_true] at hA
      have dirL : ∀ d ∈ direct o, listed.getD d false = true := by
        intro d hd
        obtain ⟨e, he, rfl⟩ := List.mem_map.1 hd
        obtain ⟨he1, he2⟩ := List.mem_filter.1 he
        exact h3 e (by simpa using he1) he2
      have ancL : ∀ j, (anc.getD i []).contains j = true → listed.getD j false = true := by
        intro j hj
        rcases hA.2 j (by simpa using hj) with h | ⟨d, hd, h⟩
        · exact dirL j (by simpa using h)
        · exact hcl d (dirL d hd) j h
      have ltL : ∀ j, listed.getD j false = true → j < ol.length := by
        intro j hj
        refine Classical.byContradiction fun hge => ?_
        simp [Array.getD, show ¬ j < listed.size by omega] at hj
      have hcount : (listed.setIfInBounds i true).toList.count true = listed.toList.count true + 1 := by
        rw [Array.toList_setIfInBounds, List.count_set (by simp; omega)]
        have : listed.toList[i]'(by simp; omega) = false := by
          simp [Array.getD, hs, hlt] at hun
          simpa using hun
        simp [this]
      have hsz : (listed.setIfInBounds i true).size = ol.length := by simpa using hs
      have hc1 : ∀ i', i' < ol.length → (anc.getD i' []).contains i = true → listed.toList.count true + 1 < ol.length := by
        intro i' hi' hj
        have hne : i' ≠ i := by
          rintro rfl
          have := List.all_eq_true.1 hself i' (List.mem_range.2 hi')
          rw [hj] at this
          simp at this
        have hul : listed.getD i' false = false := by
          cases hc2 : listed.getD i' false with
          | false => rfl
          | true => have := hcl i' hc2 i hj; rw [hun] at this; cases this
        refine Nat.lt_of_le_of_ne (by omega) fun he => ?_
        have := full _ hsz (by rw [hcount]; exact he) i' hi'
        rw [getD_set_ne false (Ne.symm hne), hul] at this
        cases this
      have hc3 : (∀ i', i' < ol.length → i' ≠ i → (anc.getD i []).contains i' = true) → listed.toList.count true + 1 = ol.length := by
        intro hall
        rw [← hcount, ← hsz, ← Array.length_toList, List.count_eq_length]
        intro b hb
        obtain ⟨q, hq, rfl⟩ := List.getElem_of_mem hb
        simp at hq
        by_cases hqi : q = i
        · subst hqi; simp
        · have h9 := ancL q (hall q (by omega) hqi)
          simp [Array.getD, show q < listed.size from hq] at h9
          simp [Array.getElem_setIfInBounds, Ne.symm hqi, h9]
      have goal := (hop i o h2').run (listed.toList.count true) xs w (by omega) hG (fun j hj => hV j (ltL j (ancL j hj)) (ancL j hj)) (fun j d hj hd => hI j d (by
        cases hc2 : listed.getD j false with
        | false => rfl
        | true => have := hcl j hc2 i hj; rw [hun] at this; cases this) hd) hc1 hc3
      refine wpOp_of_goal h2 goal fun v w' hp => ?_
      obtain ⟨hp1, hp2, hp3⟩ := hp
      have hput : (⟨(patchS 0 l ds xs).toArray, df⟩ : Act).put o.dst v = ⟨(patchS 0 l ds (upd xs i v)).toArray, df⟩ := by
        cases hd : o.dst with
        | none =>
          have hni : i ∉ ds.map (·.2) := by
            intro hmem
            obtain ⟨x, hx, rfl⟩ := List.mem_map.1 hmem
            have := (hd1 x hx).2
            rw [h2'] at this
            simp [hd] at this
          have rest : ∀ (q : Nat) (l : List Value) (ds : List (Nat × Nat)), i ∉ ds.map (·.2) → patchS q l ds (upd xs i v) = patchS q l ds xs := by
            intro q l
            induction l generalizing q with
            | nil => intro ds _; simp [patchS]
            | cons u l ih2 =>
              intro ds hj
              cases ds with
              | nil => simp [patchS]
              | cons e ds =>
                obtain ⟨e1, e2⟩ := e
                simp only [patchS]
                simp at hj
                have : upd xs i v e2 = xs e2 := by unfold upd; rw [if_neg (fun h => hj.1 h.symm)]
                rw [this, ih2 (q + 1) ds (by simpa using hj.2), ih2 (q + 1) ((e1, e2) :: ds) (by simpa using hj)]
          rw [rest _ _ _ hni]
          rfl
        | some d =>
          have hmem : (d, i) ∈ ds := by
            have := hd2 i hlt
            rw [h2'] at this
            simpa [hd] using this
          have h5 := patchS_set xs v l 0 ds d i ha (by simpa using hnd) hmem
          simp only [Nat.sub_zero] at h5
          rw [← h5]
          simp [Act.put]
      rw [hput]
      refine ih _ _ _ (by simpa using hs) (by rw [hcount]; omega) ?_ ?_ (by rw [hcount]; exact hp2) (fun q d hq hd => ?_)
      rotate_right
      · by_cases hqi : q = i
        · subst hqi
          rw [Array.getD_eq_getD_getElem?, Array.getElem?_setIfInBounds, if_pos rfl, if_pos (by omega)] at hq
          simp at hq
        · rw [getD_set_ne false (Ne.symm hqi)] at hq
          rw [show upd xs i v q = xs q by simp [upd, hqi]]
          exact hI q d hq hd
      · intro q hq j hj
        by_cases hqi : q = i
        · subst hqi
          exact getD_set_true (ancL j hj)
        · rw [getD_set_ne false (Ne.symm hqi)] at hq
          exact getD_set_true (hcl q hq j hj)
      · intro q hq hl
        by_cases hqi : q = i
        · subst hqi; exact hp1
        · rw [getD_set_ne false (Ne.symm hqi)] at hl
          refine hp3 q hq hqi ?_ (hV q hq hl)
          cases hc2 : (anc.getD q []).contains i with
          | false => rfl
          | true => have := hcl q hl i hc2; rw [hun] at this; cases this
  refine wp_region_any hm ?_
  have init := key ol.length (Array.replicate ol.length false) (fun i => (((ol[i]?).bind (·.dst)).map (fun d => l.getD d undef)).getD undef) w0.drew (by simp) (by simp [List.count_replicate]) (fun i hi => by simp [Array.getD] at hi) (fun i _ hi => by simp [Array.getD] at hi) (by simpa [List.count_replicate] using h0) (fun i d _ hd => by
    have hd' : (ol[i]?).bind (·.dst) = some d := by simpa using hd
    simp [hd'])
  have hsame := patchS_same (fun i => (((ol[i]?).bind (·.dst)).map (fun d => l.getD d undef)).getD undef) l 0 ds ha (fun x hx _ => by
    have := (hd1 x hx).2
    rw [this]
    simp)
  rw [hsame] at init
  simpa using init

def Obl (P : Program) (n : Nat) (ops : Array Oper) (l : List Value) (df : List Deferred) (ds : List (Nat × Nat)) (anc : List (List Nat)) (W : Nat → Value → (Nat → Value) → World → Prop) (G : Nat → World → Prop) (j : Nat) (o : Oper) : Prop :=
  ∀ k xs w, k < n → G k w → (∀ i, (anc.getD j []).contains i = true → W i (xs i) (mask anc i xs) w) → (∀ i d, (anc.getD i []).contains j = true → (ops[i]?).bind (·.dst) = some d → xs i = l.getD d undef) →
    (∀ i, i < n → (anc.getD i []).contains j = true → k + 1 < n) → ((∀ i, i < n → i ≠ j → (anc.getD j []).contains i = true) → k + 1 = n) →
    OpGoal P ops o ⟨(patchS 0 l ds xs).toArray, df⟩ w (fun v w' => W j v (mask anc j xs) w' ∧ G (k + 1) w' ∧ ∀ i, i < n → i ≠ j → (anc.getD i []).contains j = false → ∀ own ys, W i own ys w → W i own ys w')
def Obsl (P : Program) (n : Nat) (ops : Array Oper) (l : List Value) (df : List Deferred) (ds : List (Nat × Nat)) (anc : List (List Nat)) (W : Nat → Value → (Nat → Value) → World → Prop) (G : Nat → World → Prop) : Nat → List Oper → Prop
  | _, [] => True
  | j, o :: os => Obl P n ops l df ds anc W G j o ∧ Obsl P n ops l df ds anc W G (j + 1) os
theorem Obsl.get {P : Program} {n : Nat} {ops : Array Oper} {l : List Value} {df : List Deferred} {ds : List (Nat × Nat)} {anc : List (List Nat)} {W : Nat → Value → (Nat → Value) → World → Prop} {G : Nat → World → Prop} :
    ∀ {os : List Oper} {p : Nat}, Obsl P n ops l df ds anc W G p os → ∀ j o, os[j]? = some o → Obl P n ops l df ds anc W G (p + j) o
  | [], _, _, j, o, h => by simp at h
  | u :: os, p, h, j, o, hj => by
    cases j with
    | zero => simp at hj; subst hj; exact h.1
    | succ j =>
      simp at hj
      have := h.2.get j o hj
      rwa [show p + 1 + j = p + (j + 1) by omega] at this

theorem wp_region_inv2l (n : Nat) {P : Program} {id : Nat} {ol : List Oper} {Q : Exit → Act → World → Prop} {l : List Value} {df : List Deferred} {w0 : World}
    (hm : P.follows .mixedOrders = true) (hn : ol.length = n) (ds : List (Nat × Nat)) (anc : List (List Nat)) (W : Nat → Value → (Nat → Value) → World → Prop) (G : Nat → World → Prop)
    (hds : dsOk ol ds l.length = true) (hanc : ancOk ol anc = true) (hself : (List.range ol.length).all (fun i => !(anc.getD i []).contains i) = true) (h0 : G 0 w0.drew)
    (hop : Obsl P n ol.toArray l df ds anc W G 0 ol)
    (hend : ∀ xs w', (∀ i, i < n → W i (xs i) (mask anc i xs) w') → G n w' → Q .normal ⟨(patchS 0 l ds xs).toArray, df⟩ w') :
    (Code.region id ol.toArray true).wp P Q ⟨l.toArray, df⟩ w0 := by
  refine wp_region_invl n hm ds anc (fun i xs w => W i (xs i) (mask anc i xs) w) G hn hds hanc hself h0 (fun j o hj => ⟨fun k xs w hk hG hD hI hc1 hc3 => ?_⟩) (by subst hn; exact hend)
  have h1 := hop.get j o hj
  subst hn
  rw [Nat.zero_add] at h1
  have hjl : j < ol.length := (List.getElem?_eq_some_iff.1 hj).1
  have hs : (anc.getD j []).contains j = false := by
    simp only [List.all_eq_true, List.mem_range] at hself
    simpa using hself j hjl
  have h2 := h1 k xs w hk hG hD hI hc1 hc3
  intro Qo K hK hQo
  refine h2 Qo K (fun v w' ⟨p1, p2, p3⟩ => hK v w' ⟨?_, p2, fun i hi hne hc hV => ?_⟩) hQo
  · rw [mask_upd hs, show upd xs j v j = v by simp [upd]]; exact p1
  · rw [mask_upd hc, show upd xs j v i = xs i by simp [upd, hne]]; exact p3 i hi hne hc _ _ hV

end Go.Proofs.YtlmoeabchiddnaaDoor
