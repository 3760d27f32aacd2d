/- A region whose operations may come in any order: what each operation does, said by invariants. -/
import Derived.Test.YtmokncpppmchfaaDoorBase
namespace Go.Proofs.YtmokncpppmchfaaDoor
open Go.RowKit

/-- What the texts of regions say again and again. -/
theorem kkp {A : Sort _} {B : A → Sort _} {C : ∀ a, B a → Sort _} {D : ∀ a b, C a b → Sort _} {E : ∀ a b c, D a b c → Sort _} {F : ∀ a b c d, E a b c d → Sort _} {p : ∀ a b c d e, F a b c d e → Prop} : ∀ a b c d e f, p a b c d e f → p a b c d e f := fun _ _ _ _ _ _ h => h
theorem ddq {A : Sort _} {a b : A} (h : a = b) : a = b := h
/-- Values that stay as they are said to be where E leads from one world to the next. -/
def Stab (E : World → World → Prop) (V : Nat → Value → (Nat → Value) → World → Prop) : Prop :=
  ∀ (i : Nat) (own : Value) (ys : Nat → Value) (wa wb : World), E wa wb → V i own ys wa → V i own ys wb
/-- The same for a store: all values but that of operation i and of those behind it. -/
def Stbn (n i : Nat) (anc : List (List Nat)) (V : Nat → Value → (Nat → Value) → World → Prop) (wx wy : World) : Prop :=
  ∀ (ii : Nat), ii < n → ii ≠ i → (anc.getD ii []).contains i = false → ∀ (own : Value) (ys : Nat → Value), V ii own ys wx → V ii own ys wy
/-- The frame of a region: slot d holds xs i for each (d, i) of ds (ds ascends). -/
def patchS : Nat → List Value → List (Nat × Nat) → (Nat → Value) → List Value
  | _, [], _, _ => []
  | _, v :: l, [], _ => v :: l
  | p, v :: l, (d, i) :: ds, xs => if p = d then xs i :: patchS (p + 1) l ds xs else v :: patchS (p + 1) l ((d, i) :: ds) xs
def upd (xs : Nat → Value) (j : Nat) (v : Value) : Nat → Value := fun i => if i = j then v else xs i

def ascends : Nat → List (Nat × Nat) → Bool
  | _, [] => true
  | p, (d, _) :: ds => decide (p ≤ d) && ascends (d + 1) ds

theorem ascends_mono {p q : Nat} (h : q ≤ p) : ∀ {ds : List (Nat × Nat)}, ascends p ds = true → ascends q ds = true
  | [], _ => rfl
  | (d, i) :: ds, ha => by
    simp [ascends] at ha ⊢
    exact ⟨by omega, ha.2⟩
theorem ascends_ge {p : Nat} : ∀ {ds : List (Nat × Nat)}, ascends p ds = true → ∀ x ∈ ds, p ≤ x.1
  | [], _, x, hx => by cases hx
  | (d, i) :: ds, ha, x, hx => by
    simp [ascends] at ha
    rcases List.mem_cons.1 hx with rfl | hx
    · exact ha.1
    · have := ascends_ge ha.2 x hx
      omega

theorem patchS_same (xs : Nat → Value) : ∀ (l : List Value) (p : Nat) (ds : List (Nat × Nat)), ascends p ds = true →
    (∀ x ∈ ds, x.1 < p + l.length → xs x.2 = l.getD (x.1 - p) undef) → patchS p l ds xs = l
  | [], p, ds, _, _ => by simp [patchS]
  | v :: l, p, [], _, _ => by simp [patchS]
  | v :: l, p, (d, i) :: ds, ha, h => by
    simp [ascends] at ha
    simp only [patchS]
    by_cases hp : p = d
    · subst hp
      rw [if_pos rfl]
      have h1 := h (p, i) (by simp) (by simp)
      simp at h1
      rw [h1, patchS_same xs l (p + 1) ds ha.2 (fun x hx hlt => by
        have h2 := h x (by simp [hx]) (by simp; omega)
        have h3 := ascends_ge ha.2 x hx
        rw [h2, show x.1 - p = (x.1 - (p + 1)) + 1 by omega]
        simp)]
    · rw [if_neg hp, patchS_same xs l (p + 1) ((d, i) :: ds) (by simp [ascends]; exact ⟨by omega, ha.2⟩) (fun x hx hlt => by
        have h2 := h x hx (by simp; omega)
        have h3 : p + 1 ≤ x.1 := by
          rcases List.mem_cons.1 hx with rfl | hx
          · show p + 1 ≤ d; omega
          · have := ascends_ge ha.2 x hx; omega
        rw [h2, show x.1 - p = (x.1 - (p + 1)) + 1 by omega]
        simp)]

theorem patchS_set (xs : Nat → Value) (v : Value) : ∀ (l : List Value) (p : Nat) (ds : List (Nat × Nat)) (d j : Nat), ascends p ds = true → (ds.map (·.2)).Nodup → (d, j) ∈ ds →
    (patchS p l ds xs).set (d - p) v = patchS p l ds (upd xs j v)
  | [], p, ds, d, j, _, _, _ => by simp [patchS]
  | u :: l, p, [], d, j, _, _, hm => by cases hm
  | u :: l, p, (e, i) :: ds, d, j, ha, hn, hm => by
    have ha' := ha
    simp [ascends] at ha
    simp only [List.map_cons, List.nodup_cons] at hn
    have rest : ∀ (q : Nat) (l : List Value) (ds : List (Nat × Nat)), j ∉ ds.map (·.2) → patchS q l ds (upd xs j v) = patchS q l ds xs := by
      intro q l
      induction l generalizing q with
      | nil => intro ds _; simp [patchS]
      | cons u l ih =>
        intro ds hj
        cases ds with
        | nil => simp [patchS]
        | cons e ds =>
          obtain ⟨e1, e2⟩ := e
          simp only [patchS]
          simp at hj
          have : upd xs j v e2 = xs e2 := by unfold upd; rw [if_neg (fun h => hj.1 h.symm)]
          rw [this, ih (q + 1) ds (by simpa using hj.2), ih (q + 1) ((e1, e2) :: ds) (by simpa using hj)]
    simp only [patchS]
    rcases List.mem_cons.1 hm with he | hm2
    · simp only [Prod.mk.injEq] at he
      obtain ⟨rfl, rfl⟩ := he
      by_cases hp : p = d
      · subst hp
        rw [if_pos rfl, if_pos rfl, Nat.sub_self, List.set_cons_zero, rest _ _ _ hn.1]
        simp [upd]
      · rw [if_neg hp, if_neg hp, show d - p = (d - (p + 1)) + 1 by omega, List.set_cons_succ,
          patchS_set xs v l (p + 1) ((d, j) :: ds) d j (by simp [ascends]; exact ⟨by omega, ha.2⟩) (by simp [hn.2]; simpa using hn.1) (by simp)]
    · have hge := ascends_ge ha.2 _ hm2
      have hji : j ≠ i := fun h => hn.1 (h ▸ List.mem_map.2 ⟨(d, j), hm2, rfl⟩)
      by_cases hp : p = e
      · subst hp
        simp only at hge
        rw [if_pos rfl, if_pos rfl, show d - p = (d - (p + 1)) + 1 by omega, List.set_cons_succ, patchS_set xs v l (p + 1) ds d j ha.2 hn.2 hm2]
        have : upd xs j v i = xs i := by unfold upd; rw [if_neg (Ne.symm hji)]
        rw [this]
      · simp only at hge
        rw [if_neg hp, if_neg hp, show d - p = (d - (p + 1)) + 1 by omega, List.set_cons_succ,
          patchS_set xs v l (p + 1) ((e, i) :: ds) d j (by simp [ascends]; exact ⟨by omega, ha.2⟩) (by simp [hn.2]; simpa using hn.1) (by simp [hm2])]

theorem length_patchS (xs : Nat → Value) : ∀ (l : List Value) (p : Nat) (ds : List (Nat × Nat)), (patchS p l ds xs).length = l.length
  | [], _, _ => by simp [patchS]
  | v :: l, _, [] => by simp [patchS]
  | v :: l, p, (d, i) :: ds => by
    simp only [patchS]
    split <;> simp [length_patchS xs l]

/-- One operation, run from the frame act: whatever comes next holds behind it. -/
def OpGoal (P : Program) (ops : Array Oper) (o : Oper) (act : Act) (w : World) (Post : Value → World → Prop) : Prop :=
  ∀ (Qo : Exit → Act → World → Prop) (K : Value → World → Prop), Hid (∀ v w', Post v w' → K v w') → (∀ v w', K v w' → Qo .normal (act.put o.dst v) w') → wpList P ops Qo [o] act w
theorem OpGoal.plain {P : Program} {ops : Array Oper} {o : Oper} {act : Act} {w : World} {Post : Value → World → Prop} (h : OpGoal P ops o act w Post) (Qo : Exit → Act → World → Prop) (hQ : ∀ v w', Post v w' → Qo .normal (act.put o.dst v) w') : wpList P ops Qo [o] act w :=
  h Qo Post (fun _ _ hp => hp) hQ

theorem wp_then {P : Program} {o : Oper} {a : Act} {w : World} {K K' : Act → World → Prop} {Q : Exit → Act → World → Prop} (h : o.wp P a w K (Exit.then K' Q)) : o.wp P a w K Q := by
  unfold Oper.wp at *
  generalize (execOp a.eval o).run P w = r at *
  cases r with
  | ok n w' => cases n <;> exact h
  | halt x w' => cases x <;> exact h
theorem wpOp_of_goal {P : Program} {ops : Array Oper} {Q : Exit → Act → World → Prop} {i : Nat} {o : Oper} {a : Act} {w : World} {K : Act → World → Prop} {Post : Value → World → Prop} (hi : ops[i]? = some o)
    (h : OpGoal P ops o a w Post) (hK : ∀ v w', Post v w' → K (a.put o.dst v) w') : wpOp P ops Q i K a w := by
  have h1 := h.plain (Exit.then K Q) (fun v w' hp => hK v w' hp)
  unfold wpOp
  simp only [hi]
  unfold wpList at h1
  by_cases hw : Region.wanted o (yielded ops a.tmps) = true
  · rw [if_pos hw] at h1 ⊢
    rcases h1 with h1 | ⟨h2, h3⟩
    · exact .inl (wp_then h1)
    · exact .inr ⟨h2, h3⟩
  · rw [if_neg hw] at h1 ⊢
    exact h1

/-- ds lists the slots that the operations write. -/
def dsOk (ol : List Oper) (ds : List (Nat × Nat)) (n : Nat) : Bool :=
  ascends 0 ds && ds.all (fun x => decide (x.1 < n) && ((ol[x.2]?).bind (·.dst) == some x.1)) && (ds.map (·.2)).Nodup &&
  (List.range ol.length).all (fun i => match (ol[i]?).bind (·.dst) with | some d => ds.contains (d, i) | none => true)
def direct (o : Oper) : List Nat := (o.after.toList.filter (Region.binds .any)).map (·.on)
/-- anc lists, of each operation, some that come before it in every order; every edge leads back. -/
def ancOk (ol : List Oper) (anc : List (List Nat)) : Bool :=
  anc.length == ol.length && (List.range ol.length).all fun i => match ol[i]? with
    | none => true
    | some o => (direct o).all (fun j => decide (j < i)) && (anc.getD i []).all fun j => (direct o).contains j || (direct o).any fun d => (anc.getD d []).contains j

/-- What every operation must do. -/
structure ObOk (P : Program) (ol : List Oper) (l : List Value) (df : List Deferred) (ds : List (Nat × Nat)) (anc : List (List Nat)) (V : Nat → (Nat → Value) → World → Prop) (G : Nat → World → Prop) (j : Nat) (o : Oper) : Prop where
  run : ∀ k xs w, k < ol.length → G k w → (∀ i, (anc.getD j []).contains i = true → V i xs w) → (∀ i d, (anc.getD i []).contains j = true → (ol.toArray[i]?).bind (·.dst) = some d → xs i = l.getD d undef) →
    OpGoal P ol.toArray o ⟨(patchS 0 l ds xs).toArray, df⟩ w (fun v w' => V j (upd xs j v) w' ∧ G (k + 1) w' ∧ ∀ i, i < ol.length → i ≠ j → (anc.getD i []).contains j = false → V i xs w → V i (upd xs j v) w')

theorem wp_region_inv {P : Program} {id : Nat} {ol : List Oper} {Q : Exit → Act → World → Prop} {l : List Value} {df : List Deferred} {w0 : World}
    (hm : P.follows .mixedOrders = true) (ds : List (Nat × Nat)) (anc : List (List Nat)) (V : Nat → (Nat → Value) → World → Prop) (G : Nat → World → Prop)
    (hds : dsOk ol ds l.length = true) (hanc : ancOk ol anc = true) (h0 : G 0 w0.drew)
    (hop : ∀ j o, ol[j]? = some o → ObOk P ol l df ds anc V G j o)
    (hend : ∀ xs w', (∀ i, i < ol.length → V i xs w') → G ol.length w' → Q .normal ⟨(patchS 0 l ds xs).toArray, df⟩ w') :
    (Code.region id ol.toArray true).wp P Q ⟨l.toArray, df⟩ w0 := by
  simp only [dsOk, Bool.and_eq_true, List.all_eq_true, decide_eq_true_eq, beq_iff_eq, List.mem_range] at hds
  obtain ⟨⟨⟨ha, hd1⟩, hnd⟩, hd2⟩ := hds
  simp only [ancOk, Bool.and_eq_true, List.all_eq_true, beq_iff_eq, List.mem_range] at hanc
  obtain ⟨hal, hanc⟩ := hanc
  -- the states that are met
  have key : ∀ (fuel : Nat) (listed : Array Bool) (xs : Nat → Value) (w : World), listed.size = ol.length → listed.toList.count true + fuel = ol.length →
      (∀ i, listed.getD i false = true → ∀ j, (anc.getD i []).contains j = true → listed.getD j false = true) →
      (∀ i, i < ol.length → listed.getD i false = true → V i xs w) → G (listed.toList.count true) w →
      (∀ i d, listed.getD i false = false → (ol.toArray[i]?).bind (·.dst) = some d → xs i = l.getD d undef) →
      wpAny P .any ol.toArray Q fuel listed ⟨(patchS 0 l ds xs).toArray, df⟩ w := by
    intro fuel
    have full : ∀ (listed : Array Bool), listed.size = ol.length → listed.toList.count true = ol.length → ∀ i, i < ol.length → listed.getD i false = true := by
      intro listed hs hc i hi
      have h1 : ∀ b ∈ listed.toList, true = b := List.count_eq_length.1 (by rw [hc]; simp [hs])
      have h2 := h1 listed[i] (by simp)
      simp [Array.getD, hs, hi, ← h2]
    have none_ready : ∀ (listed : Array Bool), listed.size = ol.length → listed.toList.count true < ol.length → Region.ready .any ol.toArray listed ≠ [] := by
      intro listed hs hc hr
      -- the least that is not listed
      have hex : ∃ i, i < ol.length ∧ listed.getD i false = false := by
        refine Classical.byContradiction fun hno => ?_
        have : listed.toList.count true = ol.length := by
          rw [← hs, ← Array.length_toList, List.count_eq_length]
          intro b hb
          obtain ⟨i, hi, rfl⟩ := List.getElem_of_mem hb
          simp at hi
          refine Classical.byContradiction fun hne => hno ⟨i, by omega, ?_⟩
          simp [Array.getD, hi]
          simpa using hne
        omega
      obtain ⟨i, ⟨hi, hli⟩, hmin⟩ := exists_least hex
      have : i ∈ Region.ready .any ol.toArray listed := by
        rw [mem_ready]
        refine ⟨?_, ol[i], by simp [hi], fun e he hb => ?_⟩
        · simp [Array.getD, hs, hi] at hli ⊢; exact hli
        · have h1 := (hanc i hi)
          simp only [List.getElem?_eq_getElem hi, Bool.and_eq_true, List.all_eq_true, decide_eq_true_eq] at h1
          have h2 := h1.1 e.on (List.mem_map.2 ⟨e, List.mem_filter.2 ⟨by simpa using he, hb⟩, rfl⟩)
          cases hle : listed.getD e.on false with
          | true => rfl
          | false => have := hmin e.on ⟨by omega, hle⟩; omega
      rw [hr] at this
      cases this
    induction fuel with
    | zero =>
      intro listed xs w hs hc hcl hV hG _
      have hf := full listed hs (by omega)
      refine ⟨?_, ?_⟩
      · refine List.eq_nil_iff_forall_not_mem.2 fun i hi => ?_
        obtain ⟨h1, o, h2, -⟩ := mem_ready.1 hi
        have hlt : i < ol.length := by
          have := (Array.getElem?_eq_some_iff.1 h2).1
          simpa using this
        have := hf i hlt
        simp [Array.getD, hs, hlt] at this h1
        rw [this] at h1
        cases h1
      · refine hend xs w (fun i hi => hV i hi (hf i hi)) ?_
        rw [show ol.length = listed.toList.count true by omega]
        exact hG
    | succ fuel ih =>
      intro listed xs w hs hc hcl hV hG hI
      refine ⟨fun hr => absurd hr (none_ready listed hs (by omega)), fun i hi => ?_⟩
      obtain ⟨h1, o, h2, h3⟩ := mem_ready.1 hi
      have hlt : i < ol.length := by
        have := (Array.getElem?_eq_some_iff.1 h2).1
        simpa using this
      have h2' : ol[i]? = some o := by simpa using h2
      have hun : listed.getD i false = false := by simp [Array.getD, hs, hlt] at h1 ⊢; exact h1
      have hA := hanc i hlt
      rw [h2'] at hA
      simp only [Bool.and_eq_true, List.all_eq_true, decide_eq_true_eq, Bool.or_eq_true, List.any_eq_true] at hA
      have dirL : ∀ d ∈ direct o, listed.getD d false = true := by
        intro d hd
        obtain ⟨e, he, rfl⟩ := List.mem_map.1 hd
        obtain ⟨he1, he2⟩ := List.mem_filter.1 he
        exact h3 e (by simpa using he1) he2
      have ancL : ∀ j, (anc.getD i []).contains j = true → listed.getD j false = true := by
        intro j hj
        rcases hA.2 j (by simpa using hj) with h | ⟨d, hd, h⟩
        · exact dirL j (by simpa using h)
        · exact hcl d (dirL d hd) j h
      have ltL : ∀ j, listed.getD j false = true → j < ol.length := by
        intro j hj
        refine Classical.byContradiction fun hge => ?_
        simp [Array.getD, show ¬ j < listed.size by omega] at hj
      have goal := (hop i o h2').run (listed.toList.count true) xs w (by omega) hG (fun j hj => hV j (ltL j (ancL j hj)) (ancL j hj)) (fun j d hj hd => hI j d (by
        cases hc2 : listed.getD j false with
        | false => rfl
        | true => have := hcl j hc2 i hj; rw [hun] at this; cases this) hd)
      refine wpOp_of_goal h2 goal fun v w' hp => ?_
      obtain ⟨hp1, hp2, hp3⟩ := hp
      have hcount : (listed.setIfInBounds i true).toList.count true = listed.toList.count true + 1 := by
        rw [Array.toList_setIfInBounds, List.count_set (by simp; omega)]
        have : listed.toList[i]'(by simp; omega) = false := by
          simp [Array.getD, hs, hlt] at hun
          simpa using hun
        simp [this]
      have hput : (⟨(patchS 0 l ds xs).toArray, df⟩ : Act).put o.dst v = ⟨(patchS 0 l ds (upd xs i v)).toArray, df⟩ := by
        cases hd : o.dst with
        | none =>
          have hni : i ∉ ds.map (·.2) := by
            intro hmem
            obtain ⟨x, hx, rfl⟩ := List.mem_map.1 hmem
            have := (hd1 x hx).2
            rw [h2'] at this
            simp [hd] at this
          have rest : ∀ (q : Nat) (l : List Value) (ds : List (Nat × Nat)), i ∉ ds.map (·.2) → patchS q l ds (upd xs i v) = patchS q l ds xs := by
            intro q l
            induction l generalizing q with
            | nil => intro ds _; simp [patchS]
            | cons u l ih2 =>
              intro ds hj
              cases ds with
              | nil => simp [patchS]
              | cons e ds =>
                obtain ⟨e1, e2⟩ := e
                simp only [patchS]
                simp at hj
                have : upd xs i v e2 = xs e2 := by unfold upd; rw [if_neg (fun h => hj.1 h.symm)]
                rw [this, ih2 (q + 1) ds (by simpa using hj.2), ih2 (q + 1) ((e1, e2) :: ds) (by simpa using hj)]
          rw [rest _ _ _ hni]
          rfl
        | some d =>
          have hmem : (d, i) ∈ ds := by
            have := hd2 i hlt
            rw [h2'] at this
            simpa [hd] using this
          have h5 := patchS_set xs v l 0 ds d i ha (by simpa using hnd) hmem
          simp only [Nat.sub_zero] at h5
          rw [← h5]
          simp [Act.put]
      rw [hput]
      refine ih _ _ _ (by simpa using hs) (by rw [hcount]; omega) ?_ ?_ (by rw [hcount]; exact hp2) (fun q d hq hd => ?_)
      rotate_right
      · by_cases hqi : q = i
        · subst hqi
          rw [Array.getD_eq_getD_getElem?, Array.getElem?_setIfInBounds, if_pos rfl, if_pos (by omega)] at hq
          simp at hq
        · rw [getD_set_ne false (Ne.symm hqi)] at hq
          rw [show upd xs i v q = xs q by simp [upd, hqi]]
          exact hI q d hq hd
      · intro q hq j hj
        by_cases hqi : q = i
        · subst hqi
          exact getD_set_true (ancL j hj)
        · rw [getD_set_ne false (Ne.symm hqi)] at hq
          exact getD_set_true (hcl q hq j hj)
      · intro q hq hl
        by_cases hqi : q = i
        · subst hqi; exact hp1
        · rw [getD_set_ne false (Ne.symm hqi)] at hl
          refine hp3 q hq hqi ?_ (hV q hq hl)
          cases hc2 : (anc.getD q []).contains i with
          | false => rfl
          | true => have := hcl q hl i hc2; rw [hun] at this; cases this
  refine wp_region_any hm ?_
  have init := key ol.length (Array.replicate ol.length false) (fun i => (((ol[i]?).bind (·.dst)).map (fun d => l.getD d undef)).getD undef) w0.drew (by simp) (by simp [List.count_replicate]) (fun i hi => by simp [Array.getD] at hi) (fun i _ hi => by simp [Array.getD] at hi) (by simpa [List.count_replicate] using h0) (fun i d _ hd => by
    have hd' : (ol[i]?).bind (·.dst) = some d := by simpa using hd
    simp [hd'])
  have hsame := patchS_same (fun i => (((ol[i]?).bind (·.dst)).map (fun d => l.getD d undef)).getD undef) l 0 ds ha (fun x hx _ => by
    have := (hd1 x hx).2
    rw [this]
    simp)
  rw [hsame] at init
  simpa using init

/-- xs, as far as operation i may look: at what comes before it. -/
def mask (anc : List (List Nat)) (i : Nat) (xs : Nat → Value) : Nat → Value := fun q => if (anc.getD i []).contains q then xs q else undef
theorem mask_upd {anc : List (List Nat)} {i j : Nat} {xs : Nat → Value} {v : Value} (h : (anc.getD i []).contains j = false) : mask anc i (upd xs j v) = mask anc i xs := by
  funext q
  unfold mask upd
  by_cases hq : q = j
  · subst hq; rw [if_neg (by rw [h]; simp), if_neg (by rw [h]; simp)]
  · simp [hq]

/-- What operation j must do: own value v, what is kept of the others. -/
def Ob (P : Program) (n : Nat) (ops : Array Oper) (l : List Value) (df : List Deferred) (ds : List (Nat × Nat)) (anc : List (List Nat)) (W : Nat → Value → (Nat → Value) → World → Prop) (G : Nat → World → Prop) (j : Nat) (o : Oper) : Prop :=
  ∀ k xs w, k < n → G k w → (∀ i, (anc.getD j []).contains i = true → W i (xs i) (mask anc i xs) w) → (∀ i d, (anc.getD i []).contains j = true → (ops[i]?).bind (·.dst) = some d → xs i = l.getD d undef) →
    OpGoal P ops o ⟨(patchS 0 l ds xs).toArray, df⟩ w (fun v w' => W j v (mask anc j xs) w' ∧ G (k + 1) w' ∧ ∀ i, i < n → i ≠ j → (anc.getD i []).contains j = false → ∀ own ys, W i own ys w → W i own ys w')
def Obs (P : Program) (n : Nat) (ops : Array Oper) (l : List Value) (df : List Deferred) (ds : List (Nat × Nat)) (anc : List (List Nat)) (W : Nat → Value → (Nat → Value) → World → Prop) (G : Nat → World → Prop) : Nat → List Oper → Prop
  | _, [] => True
  | j, o :: os => Ob P n ops l df ds anc W G j o ∧ Obs P n ops l df ds anc W G (j + 1) os
theorem Obs.get {P : Program} {n : Nat} {ops : Array Oper} {l : List Value} {df : List Deferred} {ds : List (Nat × Nat)} {anc : List (List Nat)} {W : Nat → Value → (Nat → Value) → World → Prop} {G : Nat → World → Prop} :
    ∀ {os : List Oper} {p : Nat}, Obs P n ops l df ds anc W G p os → ∀ j o, os[j]? = some o → Ob P n ops l df ds anc W G (p + j) o
  | [], _, _, j, o, h => by simp at h
  | u :: os, p, h, j, o, hj => by
    cases j with
    | zero => simp at hj; subst hj; exact h.1
    | succ j =>
      simp at hj
      have := h.2.get j o hj
      rwa [show p + 1 + j = p + (j + 1) by omega] at this

theorem wp_region_inv2 {P : Program} {id : Nat} {ol : List Oper} {Q : Exit → Act → World → Prop} {l : List Value} {df : List Deferred} {w0 : World}
    (hm : P.follows .mixedOrders = true) (ds : List (Nat × Nat)) (anc : List (List Nat)) (W : Nat → Value → (Nat → Value) → World → Prop) (G : Nat → World → Prop)
    (hds : dsOk ol ds l.length = true) (hanc : ancOk ol anc = true) (hself : (List.range ol.length).all (fun i => !(anc.getD i []).contains i) = true) (h0 : G 0 w0.drew)
    (hop : Obs P ol.length ol.toArray l df ds anc W G 0 ol)
    (hend : ∀ xs w', (∀ i, i < ol.length → W i (xs i) (mask anc i xs) w') → G ol.length w' → Q .normal ⟨(patchS 0 l ds xs).toArray, df⟩ w') :
    (Code.region id ol.toArray true).wp P Q ⟨l.toArray, df⟩ w0 := by
  refine wp_region_inv hm ds anc (fun i xs w => W i (xs i) (mask anc i xs) w) G hds hanc h0 (fun j o hj => ⟨fun k xs w hk hG hD hI => ?_⟩) hend
  have h1 := hop.get j o hj
  rw [Nat.zero_add] at h1
  have hjl : j < ol.length := (List.getElem?_eq_some_iff.1 hj).1
  have hs : (anc.getD j []).contains j = false := by
    simp only [List.all_eq_true, List.mem_range] at hself
    simpa using hself j hjl
  have h2 := h1 k xs w hk hG hD hI
  intro Qo K hK hQo
  refine h2 Qo K (fun v w' ⟨p1, p2, p3⟩ => hK v w' ⟨?_, p2, fun i hi hne hc hV => ?_⟩) hQo
  · rw [mask_upd hs, show upd xs j v j = v by simp [upd]]; exact p1
  · rw [mask_upd hc, show upd xs j v i = xs i by simp [upd, hne]]; exact p3 i hi hne hc _ _ hV

/-- The order of the text: what each operation of a region that draws nothing does. -/
def ancAll (n : Nat) : List (List Nat) := (List.range n).map List.range
theorem ancAll_get {n i : Nat} (h : i < n) : (ancAll n).getD i [] = List.range i := by simp [ancAll, h]
theorem wp_region_seq {P : Program} {id : Nat} {ol : List Oper} {Q : Exit → Act → World → Prop} {l : List Value} {df : List Deferred} {w0 : World}
    (ds : List (Nat × Nat)) (anc : List (List Nat)) (W : Nat → Value → (Nat → Value) → World → Prop) (G : Nat → World → Prop)
    (hds : dsOk ol ds l.length = true) (hanc : anc = ancAll ol.length) (h0 : G 0 w0)
    (hop : Obs P ol.length ol.toArray l df ds anc W G 0 ol)
    (hend : ∀ xs w', (∀ i, i < ol.length → W i (xs i) (mask anc i xs) w') → G ol.length w' → Q .normal ⟨(patchS 0 l ds xs).toArray, df⟩ w') :
    (Code.region id ol.toArray false).wp P Q ⟨l.toArray, df⟩ w0 := by
  subst hanc
  simp only [dsOk, Bool.and_eq_true, List.all_eq_true, decide_eq_true_eq, beq_iff_eq, List.mem_range] at hds
  obtain ⟨⟨⟨ha, hd1⟩, hnd⟩, hd2⟩ := hds
  have key : ∀ (m j : Nat) (xs : Nat → Value) (w : World), j + m = ol.length → G j w → (∀ i, i < j → W i (xs i) (mask (ancAll ol.length) i xs) w) → (∀ i d, j ≤ i → (ol.toArray[i]?).bind (·.dst) = some d → xs i = l.getD d undef) →
      wpOps P ol.toArray Q (List.range' j m) ⟨(patchS 0 l ds xs).toArray, df⟩ w := by
    intro m
    induction m with
    | zero =>
      intro j xs w hj hG hV _
      obtain rfl : j = ol.length := by omega
      simp only [List.range', wpOps]
      exact hend xs w hV hG
    | succ m ih =>
      intro j xs w hj hG hV hI
      have hlt : j < ol.length := by omega
      have h2' : ol[j]? = some ol[j] := by simp [hlt]
      have h1 := hop.get j ol[j] h2'
      rw [Nat.zero_add] at h1
      have goal := h1 j xs w hlt hG (fun i hi => hV i (by rw [ancAll_get hlt] at hi; simpa using hi)) (fun i d hi hd => hI i d (by
        have hil : i < ol.length := by
          cases ho : ol[i]? with
          | none => simp [ho] at hd
          | some o => exact (List.getElem?_eq_some_iff.1 ho).1
        rw [ancAll_get hil] at hi; simp at hi; omega) hd)
      rw [List.range'_succ, wpOps_cons]
      refine wpOp_of_goal (by simp [hlt]) goal fun v w' hp => ?_
      obtain ⟨hp1, hp2, hp3⟩ := hp
      have hself : ((ancAll ol.length).getD j []).contains j = false := by rw [ancAll_get hlt]; simp
      have hput : (⟨(patchS 0 l ds xs).toArray, df⟩ : Act).put ol[j].dst v = ⟨(patchS 0 l ds (upd xs j v)).toArray, df⟩ := by
        cases hd : ol[j].dst with
        | none =>
          have hni : j ∉ ds.map (·.2) := by
            intro hmem
            obtain ⟨x, hx, rfl⟩ := List.mem_map.1 hmem
            have := (hd1 x hx).2
            rw [h2'] at this
            simp [hd] at this
          have rest : ∀ (q : Nat) (l : List Value) (ds : List (Nat × Nat)), j ∉ ds.map (·.2) → patchS q l ds (upd xs j v) = patchS q l ds xs := by
            intro q l
            induction l generalizing q with
            | nil => intro ds _; simp [patchS]
            | cons u l ih2 =>
              intro ds hj
              cases ds with
              | nil => simp [patchS]
              | cons e ds =>
                obtain ⟨e1, e2⟩ := e
                simp only [patchS]
                simp at hj
                have : upd xs j v e2 = xs e2 := by unfold upd; rw [if_neg (fun h => hj.1 h.symm)]
                rw [this, ih2 (q + 1) ds (by simpa using hj.2), ih2 (q + 1) ((e1, e2) :: ds) (by simpa using hj)]
          rw [rest _ _ _ hni]
          rfl
        | some d =>
          have hmem : (d, j) ∈ ds := by
            have := hd2 j hlt
            rw [h2'] at this
            simpa [hd] using this
          have h5 := patchS_set xs v l 0 ds d j ha (by simpa using hnd) hmem
          simp only [Nat.sub_zero] at h5
          rw [← h5]
          simp [Act.put]
      rw [hput]
      refine ih (j + 1) _ _ (by omega) hp2 (fun i hi => ?_) (fun i d hi hd => by rw [show upd xs j v i = xs i by simp [upd, show i ≠ j by omega]]; exact hI i d (by omega) hd)
      by_cases hij : i = j
      · subst hij
        rw [mask_upd hself, show upd xs i v i = v by simp [upd]]
        exact hp1
      · have hc : ((ancAll ol.length).getD i []).contains j = false := by
          rw [ancAll_get (by omega)]
          simp; omega
        rw [mask_upd hc, show upd xs j v i = xs i by simp [upd, hij]]
        exact hp3 i (by omega) hij hc _ _ (hV i (by omega))
  refine wp_region ?_
  have init := key ol.length 0 (fun i => (((ol[i]?).bind (·.dst)).map (fun d => l.getD d undef)).getD undef) w0 (by simp) h0 (fun i hi => by omega) (fun i d _ hd => by
    have hd' : (ol[i]?).bind (·.dst) = some d := by simpa using hd
    simp [hd'])
  have hsame := patchS_same (fun i => (((ol[i]?).bind (·.dst)).map (fun d => l.getD d undef)).getD undef) l 0 ds ha (fun x hx _ => by
    have := (hd1 x hx).2
    rw [this]
    simp)
  rw [hsame] at init
  rw [List.range_eq_range']
  simpa using init
end Go.Proofs.YtmokncpppmchfaaDoor
