/- A region whose operations may come in any order, the invariant told which of them have run; the same within a round of a range over a function. -/
import Derived.Test.YtmokncpppmchfaaDoorRegion
import Derived.Test.YtmokncpppmchfaaDoorYf
import Derived.OrdersIn
namespace Go.Proofs.YtmokncpppmchfaaDoor
open Go.RowKit
set_option maxHeartbeats 400000
/-- Operation j has run too. -/
def updL (L : Nat → Bool) (j : Nat) : Nat → Bool := fun i => if i = j then true else L i
/-- What every operation must do. -/
structure ObOkL (P : Program) (ol : List Oper) (l : List Value) (df : List Deferred) (ds : List (Nat × Nat)) (anc : List (List Nat)) (V : Nat → (Nat → Value) → World → Prop) (G : (Nat → Bool) → World → Prop) (j : Nat) (o : Oper) : Prop where
  run : ∀ L xs w, G L w → L j = false → (∀ i, (anc.getD j []).contains i = true → L i = true) → (∀ i, (anc.getD i []).contains j = true → L i = false) → (∀ i, (anc.getD j []).contains i = true → V i xs w) → (∀ i d, (anc.getD i []).contains j = true → (ol.toArray[i]?).bind (·.dst) = some d → xs i = l.getD d undef) →
    OpGoal P ol.toArray o ⟨(patchS 0 l ds xs).toArray, df⟩ w (fun v w' => V j (upd xs j v) w' ∧ G (updL L j) w' ∧ ∀ i, i < ol.length → i ≠ j → (anc.getD i []).contains j = false → V i xs w → V i (upd xs j v) w')

theorem any_invL {P : Program} {ol : List Oper} {Q : Exit → Act → World → Prop} {l : List Value} {df : List Deferred} {w0 : World}
    (ds : List (Nat × Nat)) (anc : List (List Nat)) (V : Nat → (Nat → Value) → World → Prop) (G : (Nat → Bool) → World → Prop)
    (hds : dsOk ol ds l.length = true) (hanc : ancOk ol anc = true) (h0 : G (fun _ => false) w0)
    (hop : ∀ j o, ol[j]? = some o → ObOkL P ol l df ds anc V G j o)
    (hend : ∀ xs w', (∀ i, i < ol.length → V i xs w') → (∃ L, (∀ i, i < ol.length → L i = true) ∧ G L w') → Q .normal ⟨(patchS 0 l ds xs).toArray, df⟩ w') :
    wpAny P .any ol.toArray Q ol.length (Array.replicate ol.length false) ⟨l.toArray, df⟩ w0 := by
  simp only [dsOk, Bool.and_eq_true, List.all_eq_true, decide_eq_true_eq, beq_iff_eq, List.mem_range] at hds
  obtain ⟨⟨⟨ha, hd1⟩, hnd⟩, hd2⟩ := hds
  simp only [ancOk, Bool.and_eq_true, List.all_eq_true, beq_iff_eq, List.mem_range] at hanc
  obtain ⟨hal, hanc⟩ := hanc
  -- the states that are met
  have key : ∀ (fuel : Nat) (listed : Array Bool) (xs : Nat → Value) (w : World), listed.size = ol.length → listed.toList.count true + fuel = ol.length →
      (∀ i, listed.getD i false = true → ∀ j, (anc.getD i []).contains j = true → listed.getD j false = true) →
      (∀ i, i < ol.length → listed.getD i false = true → V i xs w) → G (fun i => listed.getD i false) w →
      (∀ i d, listed.getD i false = false → (ol.toArray[i]?).bind (·.dst) = some d → xs i = l.getD d undef) →
      wpAny P .any ol.toArray Q fuel listed ⟨(patchS 0 l ds xs).toArray, df⟩ w := by
    intro fuel
    have full : ∀ (listed : Array Bool), listed.size = ol.length → listed.toList.count true = ol.length → ∀ i, i < ol.length → listed.getD i false = true := by
      intro listed hs hc i hi
      have h1 : ∀ b ∈ listed.toList, true = b := List.count_eq_length.1 (by rw [hc]; simp [hs])
      have h2 := h1 listed[i] (by simp)
      simp [Array.getD, hs, hi, ← h2]
    have none_ready : ∀ (listed : Array Bool), listed.size = ol.length → listed.toList.count true < ol.length → Region.ready .any ol.toArray listed ≠ [] := by
      intro listed hs hc hr
      -- the least that is not listed
      have hex : ∃ i, i < ol.length ∧ listed.getD i false = false := by
        refine Classical.byContradiction fun hno => ?_
        have : listed.toList.count true = ol.length := by
          rw [← hs, ← Array.length_toList, List.count_eq_length]
          intro b hb
          obtain ⟨i, hi, rfl⟩ := List.getElem_of_mem hb
          simp at hi
          refine Classical.byContradiction fun hne => hno ⟨i, by omega, ?_⟩
          simp [Array.getD, hi]
          simpa using hne
        omega
      obtain ⟨i, ⟨hi, hli⟩, hmin⟩ := exists_least hex
      have : i ∈ Region.ready .any ol.toArray listed := by
        rw [mem_ready]
        refine ⟨?_, ol[i], by simp [hi], fun e he hb => ?_⟩
        · simp [Array.getD, hs, hi] at hli ⊢; exact hli
        · have h1 := (hanc i hi)
          simp only [List.getElem?_eq_getElem hi, Bool.and_eq_true, List.all_eq_true, decide_eq_true_eq] at h1
          have h2 := h1.1 e.on (List.mem_map.2 ⟨e, List.mem_filter.2 ⟨by simpa using he, hb⟩, rfl⟩)
          cases hle : listed.getD e.on false with
          | true => rfl
          | false => have := hmin e.on ⟨by omega, hle⟩; omega
      rw [hr] at this
      cases this
    induction fuel with
    | zero =>
      intro listed xs w hs hc hcl hV hG _
      have hf := full listed hs (by omega)
      refine ⟨?_, ?_⟩
      · refine List.eq_nil_iff_forall_not_mem.2 fun i hi => ?_
        obtain ⟨h1, o, h2, -⟩ := mem_ready.1 hi
        have hlt : i < ol.length := by
          have := (Array.getElem?_eq_some_iff.1 h2).1
          simpa using this
        have := hf i hlt
        simp [Array.getD, hs, hlt] at this h1
        rw [this] at h1
        cases h1
      · exact hend xs w (fun i hi => hV i hi (hf i hi)) ⟨_, hf, hG⟩
    | succ fuel ih =>
      intro listed xs w hs hc hcl hV hG hI
      refine ⟨fun hr => absurd hr (none_ready listed hs (by omega)), fun i hi => ?_⟩
      obtain ⟨h1, o, h2, h3⟩ := mem_ready.1 hi
      have hlt : i < ol.length := by
        have := (Array.getElem?_eq_some_iff.1 h2).1
        simpa using this
      have h2' : ol[i]? = some o := by simpa using h2
      have hun : listed.getD i false = false := by simp [Array.getD, hs, hlt] at h1 ⊢; exact h1
      have hA := hanc i hlt
      rw [h2'] at hA
      simp only [Bool.and_eq_true, List.all_eq_true, decide_eq_true_eq, Bool.or_eq_true, List.any_eq_true] at hA
      have dirL : ∀ d ∈ direct o, listed.getD d false = true := by
        intro d hd
        obtain ⟨e, he, rfl⟩ := List.mem_map.1 hd
        obtain ⟨he1, he2⟩ := List.mem_filter.1 he
        exact h3 e (by simpa using he1) he2
      have ancL : ∀ j, (anc.getD i []).contains j = true → listed.getD j false = true := by
        intro j hj
        rcases hA.2 j (by simpa using hj) with h | ⟨d, hd, h⟩
        · exact dirL j (by simpa using h)
        · exact hcl d (dirL d hd) j h
      have ltL : ∀ j, listed.getD j false = true → j < ol.length := by
        intro j hj
        refine Classical.byContradiction fun hge => ?_
        simp [Array.getD, show ¬ j < listed.size by omega] at hj
      have goal := (hop i o h2').run (fun i => listed.getD i false) xs w hG hun ancL (fun j hj => by
        cases hc2 : listed.getD j false with
        | false => rfl
        | true => have := hcl j hc2 i hj; rw [hun] at this; cases this) (fun j hj => hV j (ltL j (ancL j hj)) (ancL j hj)) (fun j d hj hd => hI j d (by
        cases hc2 : listed.getD j false with
        | false => rfl
        | true => have := hcl j hc2 i hj; rw [hun] at this; cases this) hd)
      refine wpOp_of_goal h2 goal fun v w' hp => ?_
      obtain ⟨hp1, hp2, hp3⟩ := hp
      have hcount : (listed.setIfInBounds i true).toList.count true = listed.toList.count true + 1 := by
        rw [Array.toList_setIfInBounds, List.count_set (by simp; omega)]
        have : listed.toList[i]'(by simp; omega) = false := by
          simp [Array.getD, hs, hlt] at hun
          simpa using hun
        simp [this]
      have hput : (⟨(patchS 0 l ds xs).toArray, df⟩ : Act).put o.dst v = ⟨(patchS 0 l ds (upd xs i v)).toArray, df⟩ := by
        cases hd : o.dst with
        | none =>
          have hni : i ∉ ds.map (·.2) := by
            intro hmem
            obtain ⟨x, hx, rfl⟩ := List.mem_map.1 hmem
            have := (hd1 x hx).2
            rw [h2'] at this
            simp [hd] at this
          have rest : ∀ (q : Nat) (l : List Value) (ds : List (Nat × Nat)), i ∉ ds.map (·.2) → patchS q l ds (upd xs i v) = patchS q l ds xs := by
            intro q l
            induction l generalizing q with
            | nil => intro ds _; simp [patchS]
            | cons u l ih2 =>
              intro ds hj
              cases ds with
              | nil => simp [patchS]
              | cons e ds =>
                obtain ⟨e1, e2⟩ := e
                simp only [patchS]
                simp at hj
                have : upd xs i v e2 = xs e2 := by unfold upd; rw [if_neg (fun h => hj.1 h.symm)]
                rw [this, ih2 (q + 1) ds (by simpa using hj.2), ih2 (q + 1) ((e1, e2) :: ds) (by simpa using hj)]
          rw [rest _ _ _ hni]
          rfl
        | some d =>
          have hmem : (d, i) ∈ ds := by
            have := hd2 i hlt
            rw [h2'] at this
            simpa [hd] using this
          have h5 := patchS_set xs v l 0 ds d i ha (by simpa using hnd) hmem
          simp only [Nat.sub_zero] at h5
          rw [← h5]
          simp [Act.put]
      rw [hput]
      refine ih _ _ _ (by simpa using hs) (by rw [hcount]; omega) ?_ ?_ (by
        have e : updL (fun i => listed.getD i false) i = fun q => (listed.setIfInBounds i true).getD q false := by
          funext q
          unfold updL
          by_cases hqi : q = i
          · subst hqi
            rw [if_pos rfl, Array.getD_eq_getD_getElem?, Array.getElem?_setIfInBounds, if_pos rfl, if_pos (by omega)]
            rfl
          · rw [if_neg hqi, getD_set_ne false (Ne.symm hqi)]
        rw [← e]
        exact hp2) (fun q d hq hd => ?_)
      rotate_right
      · by_cases hqi : q = i
        · subst hqi
          rw [Array.getD_eq_getD_getElem?, Array.getElem?_setIfInBounds, if_pos rfl, if_pos (by omega)] at hq
          simp at hq
        · rw [getD_set_ne false (Ne.symm hqi)] at hq
          rw [show upd xs i v q = xs q by simp [upd, hqi]]
          exact hI q d hq hd
      · intro q hq j hj
        by_cases hqi : q = i
        · subst hqi
          exact getD_set_true (ancL j hj)
        · rw [getD_set_ne false (Ne.symm hqi)] at hq
          exact getD_set_true (hcl q hq j hj)
      · intro q hq hl
        by_cases hqi : q = i
        · subst hqi; exact hp1
        · rw [getD_set_ne false (Ne.symm hqi)] at hl
          refine hp3 q hq hqi ?_ (hV q hq hl)
          cases hc2 : (anc.getD q []).contains i with
          | false => rfl
          | true => have := hcl q hl i hc2; rw [hun] at this; cases this
  have init := key ol.length (Array.replicate ol.length false) (fun i => (((ol[i]?).bind (·.dst)).map (fun d => l.getD d undef)).getD undef) w0 (by simp) (by simp [List.count_replicate]) (fun i hi => by simp [Array.getD] at hi) (fun i _ hi => by simp [Array.getD] at hi) (by
    have e : (fun i => (Array.replicate ol.length false).getD i false) = fun _ => false := by
      funext i
      simp [Array.getD]
    rw [e]
    exact h0) (fun i d _ hd => by
    have hd' : (ol[i]?).bind (·.dst) = some d := by simpa using hd
    simp [hd'])
  have hsame := patchS_same (fun i => (((ol[i]?).bind (·.dst)).map (fun d => l.getD d undef)).getD undef) l 0 ds ha (fun x hx _ => by
    have := (hd1 x hx).2
    rw [this]
    simp)
  rw [hsame] at init
  simpa using init

/-- What operation j must do: own value v, what is kept of the others. -/
def ObL (P : Program) (n : Nat) (ops : Array Oper) (l : List Value) (df : List Deferred) (ds : List (Nat × Nat)) (anc : List (List Nat)) (W : Nat → Value → (Nat → Value) → World → Prop) (G : (Nat → Bool) → World → Prop) (j : Nat) (o : Oper) : Prop :=
  ∀ L xs w, G L w → L j = false → (∀ i, (anc.getD j []).contains i = true → L i = true) → (∀ i, (anc.getD i []).contains j = true → L i = false) → (∀ i, (anc.getD j []).contains i = true → W i (xs i) (mask anc i xs) w) → (∀ i d, (anc.getD i []).contains j = true → (ops[i]?).bind (·.dst) = some d → xs i = l.getD d undef) →
    OpGoal P ops o ⟨(patchS 0 l ds xs).toArray, df⟩ w (fun v w' => W j v (mask anc j xs) w' ∧ G (updL L j) w' ∧ ∀ i, i < n → i ≠ j → (anc.getD i []).contains j = false → ∀ own ys, W i own ys w → W i own ys w')
def ObsL (P : Program) (n : Nat) (ops : Array Oper) (l : List Value) (df : List Deferred) (ds : List (Nat × Nat)) (anc : List (List Nat)) (W : Nat → Value → (Nat → Value) → World → Prop) (G : (Nat → Bool) → World → Prop) : Nat → List Oper → Prop
  | _, [] => True
  | j, o :: os => ObL P n ops l df ds anc W G j o ∧ ObsL P n ops l df ds anc W G (j + 1) os
theorem ObsL.get {P : Program} {n : Nat} {ops : Array Oper} {l : List Value} {df : List Deferred} {ds : List (Nat × Nat)} {anc : List (List Nat)} {W : Nat → Value → (Nat → Value) → World → Prop} {G : (Nat → Bool) → World → Prop} :
    ∀ {os : List Oper} {p : Nat}, ObsL P n ops l df ds anc W G p os → ∀ j o, os[j]? = some o → ObL P n ops l df ds anc W G (p + j) o
  | [], _, _, j, o, h => by simp at h
  | u :: os, p, h, j, o, hj => by
    cases j with
    | zero => simp at hj; subst hj; exact h.1
    | succ j =>
      simp at hj
      have := h.2.get j o hj
      rwa [show p + 1 + j = p + (j + 1) by omega] at this
theorem any_inv2L {P : Program} {ol : List Oper} {Q : Exit → Act → World → Prop} {l : List Value} {df : List Deferred} {w0 : World}
    (ds : List (Nat × Nat)) (anc : List (List Nat)) (W : Nat → Value → (Nat → Value) → World → Prop) (G : (Nat → Bool) → World → Prop)
    (hds : dsOk ol ds l.length = true) (hanc : ancOk ol anc = true) (hself : (List.range ol.length).all (fun i => !(anc.getD i []).contains i) = true) (h0 : G (fun _ => false) w0)
    (hop : ObsL P ol.length ol.toArray l df ds anc W G 0 ol)
    (hend : ∀ xs w', (∀ i, i < ol.length → W i (xs i) (mask anc i xs) w') → (∃ L, (∀ i, i < ol.length → L i = true) ∧ G L w') → Q .normal ⟨(patchS 0 l ds xs).toArray, df⟩ w') :
    wpAny P .any ol.toArray Q ol.length (Array.replicate ol.length false) ⟨l.toArray, df⟩ w0 := by
  refine any_invL ds anc (fun i xs w => W i (xs i) (mask anc i xs) w) G hds hanc h0 (fun j o hj => ⟨fun L xs w hG hl ha hb hD hI => ?_⟩) hend
  have h1 := hop.get j o hj
  rw [Nat.zero_add] at h1
  have hjl : j < ol.length := (List.getElem?_eq_some_iff.1 hj).1
  have hs : (anc.getD j []).contains j = false := by
    simp only [List.all_eq_true, List.mem_range] at hself
    simpa using hself j hjl
  have h2 := h1 L xs w hG hl ha hb hD hI
  intro Qo K hK hQo
  refine h2 Qo K (fun v w' ⟨p1, p2, p3⟩ => hK v w' ⟨?_, p2, fun i hi hne hc hV => ?_⟩) hQo
  · rw [mask_upd hs, show upd xs j v j = v by simp [upd]]; exact p1
  · rw [mask_upd hc, show upd xs j v i = xs i by simp [upd, hne]]; exact p3 i hi hne hc _ _ hV
theorem wp_region_invL {P : Program} {id : Nat} {ol : List Oper} {Q : Exit → Act → World → Prop} {l : List Value} {df : List Deferred} {w0 : World}
    (hm : P.follows .mixedOrders = true) (ds : List (Nat × Nat)) (anc : List (List Nat)) (W : Nat → Value → (Nat → Value) → World → Prop) (G : (Nat → Bool) → World → Prop)
    (hds : dsOk ol ds l.length = true) (hanc : ancOk ol anc = true) (hself : (List.range ol.length).all (fun i => !(anc.getD i []).contains i) = true) (h0 : G (fun _ => false) w0.drew)
    (hop : ObsL P ol.length ol.toArray l df ds anc W G 0 ol)
    (hend : ∀ xs w', (∀ i, i < ol.length → W i (xs i) (mask anc i xs) w') → (∃ L, (∀ i, i < ol.length → L i = true) ∧ G L w') → Q .normal ⟨(patchS 0 l ds xs).toArray, df⟩ w') :
    (Code.region id ol.toArray true).wp P Q ⟨l.toArray, df⟩ w0 := by
  refine wp_region_any hm ?_
  rw [List.size_toArray]
  exact any_inv2L ds anc W G hds hanc hself h0 hop hend

/-! ### Within a round -/
/-- Left by its end alone. -/
def OnlyNormal (K : Act → World → Prop) : Exit → Act → World → Prop
  | .normal, a, w => K a w
  | _, _, _ => False
theorem rowsIn_wide {n l : Nat} {P : Program} {row : String} {args : Array Value} {w : World} {R : Value → World → Prop} (h : Rows P row args w R) : RowsIn (Fence.wide.inRound l) n P row args w R :=
  fun c cs _ => let ⟨v, w', r, s⟩ := h c cs; ⟨v, w', r, by rw [fenced_inRound]; exact stepsIn_wide.2 s⟩
theorem wpIn_of_wp {P : Program} {o : Oper} {a : Act} {w : World} {K K0 : Act → World → Prop} {Q : Exit → Act → World → Prop} (l n : Nat) (hnd : ∀ c, o.op ≠ .defer c) (h : o.wp P a w K (OnlyNormal K0)) : o.wpIn (Fence.wide.inRound l) n P a w K Q := by
  refine ⟨fun _ _ => trivial, ?_⟩
  rw [Oper.semAt_eq _ _ _ hnd]
  unfold Oper.wp at h
  generalize (execOp a.eval o).run P w = r at *
  have hl : ¬ LetsOut (OnlyNormal K0) := by rintro ⟨_, _, h⟩; exact h
  cases r with
  | ok x w' =>
    cases x with
    | enter f args =>
      refine ⟨fun hd => by simp [Fence.wide] at hd, CallsIn.inRound l (callsIn_wide.2 (Calls.mono h fun e w'' he => ?_))⟩
      cases e with
      | returned v => exact he
      | panicked c => exact he.elim
      | outgrown => exact (hl he).elim
    | row row args => exact ⟨fun hd => by simp [Fence.wide] at hd, rowsIn_wide h⟩
    | _ => first | exact h | exact h.elim
  | halt x w' =>
    cases x <;> exact h.elim
theorem anyIn_of_any {P : Program} {ops : Array Oper} {Q : Exit → Act → World → Prop} (l n : Nat) (hnd : ∀ (i : Nat) (o : Oper), ops[i]? = some o → ∀ c, o.op ≠ .defer c) :
    ∀ (fuel : Nat) (listed : Array Bool) (a : Act) (w : World), wpAny P .any ops (OnlyNormal (Q .normal)) fuel listed a w → wpAnyIn (Fence.wide.inRound l) n P .any ops Q fuel listed a w := by
  intro fuel
  induction fuel with
  | zero => intro listed a w h; exact h
  | succ fuel ih =>
    intro listed a w h
    refine ⟨h.1, fun i hi => ?_⟩
    have h2 := h.2 i hi
    unfold wpOp at h2
    unfold wpOpIn
    cases ho : ops[i]? with
    | none => rw [ho] at h2; exact ih _ _ _ h2
    | some o =>
      rw [ho] at h2
      simp only at h2 ⊢
      by_cases hw : Region.wanted o (yielded ops a.tmps) = true
      · rw [if_pos hw] at h2 ⊢
        rcases h2 with h2 | ⟨-, _, _, h3⟩
        · exact Oper.wpIn_mono (fun a w => ih _ a w) (wpIn_of_wp l n (hnd i o ho) h2)
        · exact h3.elim
      · rw [if_neg hw] at h2 ⊢
        exact ⟨fun _ _ => trivial, ih _ _ _ h2⟩
/-- No operation of the list is a deferred call. -/
def noDefer (ol : List Oper) : Bool := ol.all fun o => match o.op with | .defer _ => false | _ => true
theorem noDefer_get {ol : List Oper} (h : noDefer ol = true) (i : Nat) (o : Oper) (hi : ol.toArray[i]? = some o) : ∀ c, o.op ≠ .defer c := by
  intro c hc
  unfold noDefer at h
  rw [List.all_eq_true] at h
  have hm : o ∈ ol := by
    have : ol[i]? = some o := by simpa using hi
    exact List.mem_of_getElem? this
  have := h o hm
  rw [hc] at this
  cases this
theorem wpIn_region_invL {P : Program} {id rl rn : Nat} {ol : List Oper} {Q : Exit → Act → World → Prop} {l : List Value} {df : List Deferred} {w0 : World}
    (hm : P.follows .mixedOrders = true) (hnd : noDefer ol = true) (ds : List (Nat × Nat)) (anc : List (List Nat)) (W : Nat → Value → (Nat → Value) → World → Prop) (G : (Nat → Bool) → World → Prop)
    (hds : dsOk ol ds l.length = true) (hanc : ancOk ol anc = true) (hself : (List.range ol.length).all (fun i => !(anc.getD i []).contains i) = true) (h0 : G (fun _ => false) w0.drew)
    (hop : ObsL P ol.length ol.toArray l df ds anc W G 0 ol)
    (hend : ∀ xs w', (∀ i, i < ol.length → W i (xs i) (mask anc i xs) w') → (∃ L, (∀ i, i < ol.length → L i = true) ∧ G L w') → Q .normal ⟨(patchS 0 l ds xs).toArray, df⟩ w') :
    (Code.region id ol.toArray true).wpIn (Fence.wide.inRound rl) rn P Q ⟨l.toArray, df⟩ w0 := by
  refine wpIn_region_any hm ?_
  rw [List.size_toArray]
  exact anyIn_of_any rl rn (noDefer_get hnd) _ _ _ _ (any_inv2L ds anc W G hds hanc hself h0 hop hend)
end Go.Proofs.YtmokncpppmchfaaDoor
