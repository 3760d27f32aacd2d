/- A region whose operations may come in any order: what each operation does, said by invariants. | Quantization: both sides, for arguments in range. | Pictures: samples, half samples, blocks, edges, predictions: plain. | append(dst, src...) onto a row of the call's own, whatever the source. | A sample of a picture, a half sample, the samples that predict a macroblock: both sides. -/
import Derived.Test.YtbnhaegidfbgbaaGreatDoorQn1
import Derived.RegionTactic
import Derived.Deep.Cut
set_option linter.unusedVariables false
set_option linter.unusedSimpArgs false
namespace Go.Proofs.YtbnhaegidfbgbaaGreatDoor
open Go.RowKit
/-- The frame of a region: slot d holds xs i for each (d, i) of ds (ds ascends). -/
def patchS : Nat → List Value → List (Nat × Nat) → (Nat → Value) → List Value
 | _, [], _, _ => []
 | _, v :: l, [], _ => v :: l
 | p, v :: l, (d, i) :: ds, xs => if p = d then xs i :: patchS (p + 1) l ds xs else v :: patchS (p + 1) l ((d, i) :: ds) xs
def upd (xs : Nat → Value) (j : Nat) (v : Value) : Nat → Value := fun i => if i = j then v else xs i
def ascends : Nat → List (Nat × Nat) → Bool
 | _, [] => true
 | p, (d, _) :: ds => decide (p ≤ d) && ascends (d + 1) ds
theorem ascends_ge {p : Nat} : ∀ {ds : List (Nat × Nat)}, ascends p ds = true → ∀ x ∈ ds, p ≤ x.1
 | [], _, x, hx => by cases hx
 | (d, i) :: ds, ha, x, hx => by
  simp [ascends] at ha
  rcases List.mem_cons.1 hx with rfl | hx
  ·exact ha.1
  ·have := ascends_ge ha.2 x hx
   omega
theorem patchS_same (xs : Nat → Value) : ∀ (l : List Value) (p : Nat) (ds : List (Nat × Nat)), ascends p ds = true →
 (∀ x ∈ ds, x.1 < p + l.length → xs x.2 = l.getD (x.1 - p) undef) → patchS p l ds xs = l
 | [], p, ds, _, _ => by simp [patchS]
 | v :: l, p, [], _, _ => by simp [patchS]
 | v :: l, p, (d, i) :: ds, ha, h => by
  simp [ascends] at ha
  simp only [patchS]
  by_cases hp : p = d
  ·subst hp
   rw [if_pos rfl]
   have h1 := h (p, i) (by simp) (by simp)
   simp at h1
   rw [h1, patchS_same xs l (p + 1) ds ha.2 (fun x hx hlt => by
    have h2 := h x (by simp [hx]) (by simp; omega)
    have h3 := ascends_ge ha.2 x hx
    rw [h2, show x.1 - p = (x.1 - (p + 1)) + 1 by omega]
    simp)]
  ·rw [if_neg hp, patchS_same xs l (p + 1) ((d, i) :: ds) (by simp [ascends]; exact ⟨by omega, ha.2⟩) (fun x hx hlt => by
    have h2 := h x hx (by simp; omega)
    have h3 : p + 1 ≤ x.1 := by
     rcases List.mem_cons.1 hx with rfl | hx
     ·show p + 1 ≤ d; omega
     ·have := ascends_ge ha.2 x hx; omega
    rw [h2, show x.1 - p = (x.1 - (p + 1)) + 1 by omega]
    simp)]
theorem patchS_set (xs : Nat → Value) (v : Value) : ∀ (l : List Value) (p : Nat) (ds : List (Nat × Nat)) (d j : Nat), ascends p ds = true → (ds.map (·.2)).Nodup → (d, j) ∈ ds →
 (patchS p l ds xs).set (d - p) v = patchS p l ds (upd xs j v)
 | [], p, ds, d, j, _, _, _ => by simp [patchS]
 | u :: l, p, [], d, j, _, _, hm => by cases hm
 | u :: l, p, (e, i) :: ds, d, j, ha, hn, hm => by
  have ha' := ha
  simp [ascends] at ha
  simp only [List.map_cons, List.nodup_cons] at hn
  have rest : ∀ (q : Nat) (l : List Value) (ds : List (Nat × Nat)), j ∉ ds.map (·.2) → patchS q l ds (upd xs j v) = patchS q l ds xs := by
   intro q l
   induction l generalizing q with
   | nil => intro ds _; simp [patchS]
   | cons u l ih =>
    intro ds hj
    cases ds with
    | nil => simp [patchS]
    | cons e ds =>
     obtain ⟨e1, e2⟩ := e
     simp only [patchS]
     simp at hj
     have : upd xs j v e2 = xs e2 := by unfold upd; rw [if_neg (fun h => hj.1 h.symm)]
     rw [this, ih (q + 1) ds (by simpa using hj.2), ih (q + 1) ((e1, e2) :: ds) (by simpa using hj)]
  simp only [patchS]
  rcases List.mem_cons.1 hm with he | hm2
  ·simp only [Prod.mk.injEq] at he
   obtain ⟨rfl, rfl⟩ := he
   by_cases hp : p = d
   ·subst hp
    rw [if_pos rfl, if_pos rfl, Nat.sub_self, List.set_cons_zero, rest _ _ _ hn.1]
    simp [upd]
   ·rw [if_neg hp, if_neg hp, show d - p = (d - (p + 1)) + 1 by omega, List.set_cons_succ,
     patchS_set xs v l (p + 1) ((d, j) :: ds) d j (by simp [ascends]; exact ⟨by omega, ha.2⟩) (by simp [hn.2]; simpa using hn.1) (by simp)]
  ·have hge := ascends_ge ha.2 _ hm2
   have hji : j ≠ i := fun h => hn.1 (h ▸ List.mem_map.2 ⟨(d, j), hm2, rfl⟩)
   by_cases hp : p = e
   ·subst hp
    simp only at hge
    rw [if_pos rfl, if_pos rfl, show d - p = (d - (p + 1)) + 1 by omega, List.set_cons_succ, patchS_set xs v l (p + 1) ds d j ha.2 hn.2 hm2]
    have : upd xs j v i = xs i := by unfold upd; rw [if_neg (Ne.symm hji)]
    rw [this]
   ·simp only at hge
    rw [if_neg hp, if_neg hp, show d - p = (d - (p + 1)) + 1 by omega, List.set_cons_succ,
     patchS_set xs v l (p + 1) ((e, i) :: ds) d j (by simp [ascends]; exact ⟨by omega, ha.2⟩) (by simp [hn.2]; simpa using hn.1) (by simp [hm2])]
/-- One operation, run from the frame act: whatever comes next holds behind it. -/
def OpGoal (P : Program) (ops : Array Oper) (o : Oper) (act : Act) (w : World) (Post : Value → World → Prop) : Prop :=
 ∀ (Qo : Exit → Act → World → Prop) (K : Value → World → Prop), Hid (∀ v w', Post v w' → K v w') → (∀ v w', K v w' → Qo .normal (act.put o.dst v) w') → wpList P ops Qo [o] act w
theorem OpGoal.plain {P : Program} {ops : Array Oper} {o : Oper} {act : Act} {w : World} {Post : Value → World → Prop} (h : OpGoal P ops o act w Post) (Qo : Exit → Act → World → Prop) (hQ : ∀ v w', Post v w' → Qo .normal (act.put o.dst v) w') : wpList P ops Qo [o] act w :=
 h Qo Post (fun _ _ hp => hp) hQ
theorem wp_then {P : Program} {o : Oper} {a : Act} {w : World} {K K' : Act → World → Prop} {Q : Exit → Act → World → Prop} (h : o.wp P a w K (Exit.then K' Q)) : o.wp P a w K Q := by
 unfold Oper.wp at *
 generalize (execOp a.eval o).run P w = r at *
 cases r with
 | ok n w' => cases n <;> exact h
 | halt x w' => cases x <;> exact h
theorem wpOp_of_goal {P : Program} {ops : Array Oper} {Q : Exit → Act → World → Prop} {i : Nat} {o : Oper} {a : Act} {w : World} {K : Act → World → Prop} {Post : Value → World → Prop} (hi : ops[i]? = some o)
 (h : OpGoal P ops o a w Post) (hK : ∀ v w', Post v w' → K (a.put o.dst v) w') : wpOp P ops Q i K a w := by
 have h1 := h.plain (Exit.then K Q) (fun v w' hp => hK v w' hp)
 unfold wpOp
 simp only [hi]
 unfold wpList at h1
 by_cases hw : Region.wanted o (yielded ops a.tmps) = true
 ·rw [if_pos hw] at h1 ⊢
  rcases h1 with h1 | ⟨h2, h3⟩
  ·exact .inl (wp_then h1)
  ·exact .inr ⟨h2, h3⟩
 ·rw [if_neg hw] at h1 ⊢
  exact h1
/-- ds lists the slots that the operations write. -/
def dsOk (ol : List Oper) (ds : List (Nat × Nat)) (n : Nat) : Bool :=
 ascends 0 ds && ds.all (fun x => decide (x.1 < n) && ((ol[x.2]?).bind (·.dst) == some x.1)) && (ds.map (·.2)).Nodup &&
 (List.range ol.length).all (fun i => match (ol[i]?).bind (·.dst) with | some d => ds.contains (d, i) | none => true)
def direct (o : Oper) : List Nat := (o.after.toList.filter (Region.binds .any)).map (·.on)
/-- anc lists, of each operation, some that come before it in every order; every edge leads back. -/
def ancOk (ol : List Oper) (anc : List (List Nat)) : Bool :=
 anc.length == ol.length && (List.range ol.length).all fun i => match ol[i]? with
  | none => true
  | some o => (direct o).all (fun j => decide (j < i)) && (anc.getD i []).all fun j => (direct o).contains j || (direct o).any fun d => (anc.getD d []).contains j
/-- What every operation must do. -/
structure ObOk (P : Program) (ol : List Oper) (l : List Value) (df : List Deferred) (ds : List (Nat × Nat)) (anc : List (List Nat)) (V : Nat → (Nat → Value) → World → Prop) (G : Nat → World → Prop) (j : Nat) (o : Oper) : Prop where
 run : ∀ k xs w, k < ol.length → G k w → (∀ i, (anc.getD j []).contains i = true → V i xs w) → (∀ i d, (anc.getD i []).contains j = true → (ol.toArray[i]?).bind (·.dst) = some d → xs i = l.getD d undef) →
  OpGoal P ol.toArray o ⟨(patchS 0 l ds xs).toArray, df⟩ w (fun v w' => V j (upd xs j v) w' ∧ G (k + 1) w' ∧ ∀ i, i < ol.length → i ≠ j → (anc.getD i []).contains j = false → V i xs w → V i (upd xs j v) w')
theorem wp_region_inv {P : Program} {id : Nat} {ol : List Oper} {Q : Exit → Act → World → Prop} {l : List Value} {df : List Deferred} {w0 : World}
 (hm : P.follows .mixedOrders = true) (ds : List (Nat × Nat)) (anc : List (List Nat)) (V : Nat → (Nat → Value) → World → Prop) (G : Nat → World → Prop)
 (hds : dsOk ol ds l.length = true) (hanc : ancOk ol anc = true) (h0 : G 0 w0.drew)
 (hop : ∀ j o, ol[j]? = some o → ObOk P ol l df ds anc V G j o)
 (hend : ∀ xs w', (∀ i, i < ol.length → V i xs w') → G ol.length w' → Q .normal ⟨(patchS 0 l ds xs).toArray, df⟩ w') :
 (Code.region id ol.toArray true).wp P Q ⟨l.toArray, df⟩ w0 := by
 simp only [dsOk, Bool.and_eq_true, List.all_eq_true, decide_eq_true_eq, beq_iff_eq, List.mem_range] at hds
 obtain ⟨⟨⟨ha, hd1⟩, hnd⟩, hd2⟩ := hds
 simp only [ancOk, Bool.and_eq_true, List.all_eq_true, beq_iff_eq, List.mem_range] at hanc
 obtain ⟨hal, hanc⟩ := hanc
 -- the states that are met
 have key : ∀ (fuel : Nat) (listed : Array Bool) (xs : Nat → Value) (w : World), listed.size = ol.length → listed.toList.count true + fuel = ol.length →
  (∀ i, listed.getD i false = true → ∀ j, (anc.getD i []).contains j = true → listed.getD j false = true) →
  (∀ i, i < ol.length → listed.getD i false = true → V i xs w) → G (listed.toList.count true) w →
  (∀ i d, listed.getD i false = false → (ol.toArray[i]?).bind (·.dst) = some d → xs i = l.getD d undef) →
  wpAny P .any ol.toArray Q fuel listed ⟨(patchS 0 l ds xs).toArray, df⟩ w := by
  intro fuel
  have full : ∀ (listed : Array Bool), listed.size = ol.length → listed.toList.count true = ol.length → ∀ i, i < ol.length → listed.getD i false = true := by
   intro listed hs hc i hi
   have h1 : ∀ b ∈ listed.toList, true = b := List.count_eq_length.1 (by rw [hc]; simp [hs])
   have h2 := h1 listed[i] (by simp)
   simp [Array.getD, hs, hi, ← h2]
  have none_ready : ∀ (listed : Array Bool), listed.size = ol.length → listed.toList.count true < ol.length → Region.ready .any ol.toArray listed ≠ [] := by
   intro listed hs hc hr
   -- the least that is not listed
   have hex : ∃ i, i < ol.length ∧ listed.getD i false = false := by
    refine Classical.byContradiction fun hno => ?_
    have : listed.toList.count true = ol.length := by
     rw [← hs, ← Array.length_toList, List.count_eq_length]
     intro b hb
     obtain ⟨i, hi, rfl⟩ := List.getElem_of_mem hb
     simp at hi
     refine Classical.byContradiction fun hne => hno ⟨i, by omega, ?_⟩
     simp [Array.getD, hi]
     simpa using hne
    omega
   obtain ⟨i, ⟨hi, hli⟩, hmin⟩ := exists_least hex
   have : i ∈ Region.ready .any ol.toArray listed := by
    rw [mem_ready]
    refine ⟨?_, ol[i], by simp [hi], fun e he hb => ?_⟩
    ·simp [Array.getD, hs, hi] at hli ⊢; exact hli
    ·have h1 := (hanc i hi)
     simp only [List.getElem?_eq_getElem hi, Bool.and_eq_true, List.all_eq_true, decide_eq_true_eq] at h1
     have h2 := h1.1 e.on (List.mem_map.2 ⟨e, List.mem_filter.2 ⟨by simpa using he, hb⟩, rfl⟩)
     cases hle : listed.getD e.on false with
     | true => rfl
     | false => have := hmin e.on ⟨by omega, hle⟩; omega
   rw [hr] at this
   cases this
  induction fuel with
  | zero =>
   intro listed xs w hs hc hcl hV hG _
   have hf := full listed hs (by omega)
   refine ⟨?_, ?_⟩
   ·refine List.eq_nil_iff_forall_not_mem.2 fun i hi => ?_
    obtain ⟨h1, o, h2, -⟩ := mem_ready.1 hi
    have hlt : i < ol.length := by
     have := (Array.getElem?_eq_some_iff.1 h2).1
     simpa using this
    have := hf i hlt
    simp [Array.getD, hs, hlt] at this h1
    rw [this] at h1
    cases h1
   ·refine hend xs w (fun i hi => hV i hi (hf i hi)) ?_
    rw [show ol.length = listed.toList.count true by omega]
    exact hG
  | succ fuel ih =>
   intro listed xs w hs hc hcl hV hG hI
   refine ⟨fun hr => absurd hr (none_ready listed hs (by omega)), fun i hi => ?_⟩
   obtain ⟨h1, o, h2, h3⟩ := mem_ready.1 hi
   have hlt : i < ol.length := by
    have := (Array.getElem?_eq_some_iff.1 h2).1
    simpa using this
   have h2' : ol[i]? = some o := by simpa using h2
   have hun : listed.getD i false = false := by simp [Array.getD, hs, hlt] at h1 ⊢; exact h1
   have hA := hanc i hlt
   rw [h2'] at hA
   simp only [Bool.and_eq_true, List.all_eq_true, decide_eq_true_eq, Bool.or_eq_true, List.any_eq_true] at hA
   have dirL : ∀ d ∈ direct o, listed.getD d false = true := by
    intro d hd
    obtain ⟨e, he, rfl⟩ := List.mem_map.1 hd
    obtain ⟨he1, he2⟩ := List.mem_filter.1 he
    exact h3 e (by simpa using he1) he2
   have ancL : ∀ j, (anc.getD i []).contains j = true → listed.getD j false = true := by
    intro j hj
    rcases hA.2 j (by simpa using hj) with h | ⟨d, hd, h⟩
    ·exact dirL j (by simpa using h)
    ·exact hcl d (dirL d hd) j h
   have ltL : ∀ j, listed.getD j false = true → j < ol.length := by
    intro j hj
    refine Classical.byContradiction fun hge => ?_
    simp [Array.getD, show ¬ j < listed.size by omega] at hj
   have goal := (hop i o h2').run (listed.toList.count true) xs w (by omega) hG (fun j hj => hV j (ltL j (ancL j hj)) (ancL j hj)) (fun j d hj hd => hI j d (by
    cases hc2 : listed.getD j false with
    | false => rfl
    | true => have := hcl j hc2 i hj; rw [hun] at this; cases this) hd)
   refine wpOp_of_goal h2 goal fun v w' hp => ?_
   obtain ⟨hp1, hp2, hp3⟩ := hp
   have hcount : (listed.setIfInBounds i true).toList.count true = listed.toList.count true + 1 := by
    rw [Array.toList_setIfInBounds, List.count_set (by simp; omega)]
    have : listed.toList[i]'(by simp; omega) = false := by
     simp [Array.getD, hs, hlt] at hun
     simpa using hun
    simp [this]
   have hput : (⟨(patchS 0 l ds xs).toArray, df⟩ : Act).put o.dst v = ⟨(patchS 0 l ds (upd xs i v)).toArray, df⟩ := by
    cases hd : o.dst with
    | none =>
     have hni : i ∉ ds.map (·.2) := by
      intro hmem
      obtain ⟨x, hx, rfl⟩ := List.mem_map.1 hmem
      have := (hd1 x hx).2
      rw [h2'] at this
      simp [hd] at this
     have rest : ∀ (q : Nat) (l : List Value) (ds : List (Nat × Nat)), i ∉ ds.map (·.2) → patchS q l ds (upd xs i v) = patchS q l ds xs := by
      intro q l
      induction l generalizing q with
      | nil => intro ds _; simp [patchS]
      | cons u l ih2 =>
       intro ds hj
       cases ds with
       | nil => simp [patchS]
       | cons e ds =>
        obtain ⟨e1, e2⟩ := e
        simp only [patchS]
        simp at hj
        have : upd xs i v e2 = xs e2 := by unfold upd; rw [if_neg (fun h => hj.1 h.symm)]
        rw [this, ih2 (q + 1) ds (by simpa using hj.2), ih2 (q + 1) ((e1, e2) :: ds) (by simpa using hj)]
     rw [rest _ _ _ hni]
     rfl
    | some d =>
     have hmem : (d, i) ∈ ds := by
      have := hd2 i hlt
      rw [h2'] at this
      simpa [hd] using this
     have h5 := patchS_set xs v l 0 ds d i ha (by simpa using hnd) hmem
     simp only [Nat.sub_zero] at h5
     rw [← h5]
     simp [Act.put]
   rw [hput]
   refine ih _ _ _ (by simpa using hs) (by rw [hcount]; omega) ?_ ?_ (by rw [hcount]; exact hp2) (fun q d hq hd => ?_)
   rotate_right
   ·by_cases hqi : q = i
    ·subst hqi
     rw [Array.getD_eq_getD_getElem?, Array.getElem?_setIfInBounds, if_pos rfl, if_pos (by omega)] at hq
     simp at hq
    ·rw [getD_set_ne false (Ne.symm hqi)] at hq
     rw [show upd xs i v q = xs q by simp [upd, hqi]]
     exact hI q d hq hd
   ·intro q hq j hj
    by_cases hqi : q = i
    ·subst hqi
     exact getD_set_true (ancL j hj)
    ·rw [getD_set_ne false (Ne.symm hqi)] at hq
     exact getD_set_true (hcl q hq j hj)
   ·intro q hq hl
    by_cases hqi : q = i
    ·subst hqi; exact hp1
    ·rw [getD_set_ne false (Ne.symm hqi)] at hl
     refine hp3 q hq hqi ?_ (hV q hq hl)
     cases hc2 : (anc.getD q []).contains i with
     | false => rfl
     | true => have := hcl q hl i hc2; rw [hun] at this; cases this
 refine wp_region_any hm ?_
 have init := key ol.length (Array.replicate ol.length false) (fun i => (((ol[i]?).bind (·.dst)).map (fun d => l.getD d undef)).getD undef) w0.drew (by simp) (by simp [List.count_replicate]) (fun i hi => by simp [Array.getD] at hi) (fun i _ hi => by simp [Array.getD] at hi) (by simpa [List.count_replicate] using h0) (fun i d _ hd => by
  have hd' : (ol[i]?).bind (·.dst) = some d := by simpa using hd
  simp [hd'])
 have hsame := patchS_same (fun i => (((ol[i]?).bind (·.dst)).map (fun d => l.getD d undef)).getD undef) l 0 ds ha (fun x hx _ => by
  have := (hd1 x hx).2
  rw [this]
  simp)
 rw [hsame] at init
 simpa using init
/-- xs, as far as operation i may look: at what comes before it. -/
def mask (anc : List (List Nat)) (i : Nat) (xs : Nat → Value) : Nat → Value := fun q => if (anc.getD i []).contains q then xs q else undef
theorem mask_upd {anc : List (List Nat)} {i j : Nat} {xs : Nat → Value} {v : Value} (h : (anc.getD i []).contains j = false) : mask anc i (upd xs j v) = mask anc i xs := by
 funext q
 unfold mask upd
 by_cases hq : q = j
 ·subst hq; rw [if_neg (by rw [h]; simp), if_neg (by rw [h]; simp)]
 ·simp [hq]
/-- What operation j must do: own value v, what is kept of the others. -/
def Ob (P : Program) (n : Nat) (ops : Array Oper) (l : List Value) (df : List Deferred) (ds : List (Nat × Nat)) (anc : List (List Nat)) (W : Nat → Value → (Nat → Value) → World → Prop) (G : Nat → World → Prop) (j : Nat) (o : Oper) : Prop :=
 ∀ k xs w, k < n → G k w → (∀ i, (anc.getD j []).contains i = true → W i (xs i) (mask anc i xs) w) → (∀ i d, (anc.getD i []).contains j = true → (ops[i]?).bind (·.dst) = some d → xs i = l.getD d undef) →
  OpGoal P ops o ⟨(patchS 0 l ds xs).toArray, df⟩ w (fun v w' => W j v (mask anc j xs) w' ∧ G (k + 1) w' ∧ ∀ i, i < n → i ≠ j → (anc.getD i []).contains j = false → ∀ own ys, W i own ys w → W i own ys w')
def Obs (P : Program) (n : Nat) (ops : Array Oper) (l : List Value) (df : List Deferred) (ds : List (Nat × Nat)) (anc : List (List Nat)) (W : Nat → Value → (Nat → Value) → World → Prop) (G : Nat → World → Prop) : Nat → List Oper → Prop
 | _, [] => True
 | j, o :: os => Ob P n ops l df ds anc W G j o ∧ Obs P n ops l df ds anc W G (j + 1) os
theorem Obs.get {P : Program} {n : Nat} {ops : Array Oper} {l : List Value} {df : List Deferred} {ds : List (Nat × Nat)} {anc : List (List Nat)} {W : Nat → Value → (Nat → Value) → World → Prop} {G : Nat → World → Prop} :
 ∀ {os : List Oper} {p : Nat}, Obs P n ops l df ds anc W G p os → ∀ j o, os[j]? = some o → Ob P n ops l df ds anc W G (p + j) o
 | [], _, _, j, o, h => by simp at h
 | u :: os, p, h, j, o, hj => by
  cases j with
  | zero => simp at hj; subst hj; exact h.1
  | succ j =>
   simp at hj
   have := h.2.get j o hj
   rwa [show p + 1 + j = p + (j + 1) by omega] at this
theorem wp_region_inv2 {P : Program} {id : Nat} {ol : List Oper} {Q : Exit → Act → World → Prop} {l : List Value} {df : List Deferred} {w0 : World}
 (hm : P.follows .mixedOrders = true) (ds : List (Nat × Nat)) (anc : List (List Nat)) (W : Nat → Value → (Nat → Value) → World → Prop) (G : Nat → World → Prop)
 (hds : dsOk ol ds l.length = true) (hanc : ancOk ol anc = true) (hself : (List.range ol.length).all (fun i => !(anc.getD i []).contains i) = true) (h0 : G 0 w0.drew)
 (hop : Obs P ol.length ol.toArray l df ds anc W G 0 ol)
 (hend : ∀ xs w', (∀ i, i < ol.length → W i (xs i) (mask anc i xs) w') → G ol.length w' → Q .normal ⟨(patchS 0 l ds xs).toArray, df⟩ w') :
 (Code.region id ol.toArray true).wp P Q ⟨l.toArray, df⟩ w0 := by
 refine wp_region_inv hm ds anc (fun i xs w => W i (xs i) (mask anc i xs) w) G hds hanc h0 (fun j o hj => ⟨fun k xs w hk hG hD hI => ?_⟩) hend
 have h1 := hop.get j o hj
 rw [Nat.zero_add] at h1
 have hjl : j < ol.length := (List.getElem?_eq_some_iff.1 hj).1
 have hs : (anc.getD j []).contains j = false := by
  simp only [List.all_eq_true, List.mem_range] at hself
  simpa using hself j hjl
 have h2 := h1 k xs w hk hG hD hI
 intro Qo K hK hQo
 refine h2 Qo K (fun v w' ⟨p1, p2, p3⟩ => hK v w' ⟨?_, p2, fun i hi hne hc hV => ?_⟩) hQo
 ·rw [mask_upd hs, show upd xs j v j = v by simp [upd]]; exact p1
 ·rw [mask_upd hc, show upd xs j v i = xs i by simp [upd, hne]]; exact p3 i hi hne hc _ _ hV
/-- The order of the text: what each operation of a region that draws nothing does. -/
def ancAll (n : Nat) : List (List Nat) := (List.range n).map List.range
theorem ancAll_get {n i : Nat} (h : i < n) : (ancAll n).getD i [] = List.range i := by simp [ancAll, h]
theorem wp_region_seq {P : Program} {id : Nat} {ol : List Oper} {Q : Exit → Act → World → Prop} {l : List Value} {df : List Deferred} {w0 : World}
 (ds : List (Nat × Nat)) (anc : List (List Nat)) (W : Nat → Value → (Nat → Value) → World → Prop) (G : Nat → World → Prop)
 (hds : dsOk ol ds l.length = true) (hanc : anc = ancAll ol.length) (h0 : G 0 w0)
 (hop : Obs P ol.length ol.toArray l df ds anc W G 0 ol)
 (hend : ∀ xs w', (∀ i, i < ol.length → W i (xs i) (mask anc i xs) w') → G ol.length w' → Q .normal ⟨(patchS 0 l ds xs).toArray, df⟩ w') :
 (Code.region id ol.toArray false).wp P Q ⟨l.toArray, df⟩ w0 := by
 subst hanc
 simp only [dsOk, Bool.and_eq_true, List.all_eq_true, decide_eq_true_eq, beq_iff_eq, List.mem_range] at hds
 obtain ⟨⟨⟨ha, hd1⟩, hnd⟩, hd2⟩ := hds
 have key : ∀ (m j : Nat) (xs : Nat → Value) (w : World), j + m = ol.length → G j w → (∀ i, i < j → W i (xs i) (mask (ancAll ol.length) i xs) w) → (∀ i d, j ≤ i → (ol.toArray[i]?).bind (·.dst) = some d → xs i = l.getD d undef) →
  wpOps P ol.toArray Q (List.range' j m) ⟨(patchS 0 l ds xs).toArray, df⟩ w := by
  intro m
  induction m with
  | zero =>
   intro j xs w hj hG hV _
   obtain rfl : j = ol.length := by omega
   simp only [List.range', wpOps]
   exact hend xs w hV hG
  | succ m ih =>
   intro j xs w hj hG hV hI
   have hlt : j < ol.length := by omega
   have h2' : ol[j]? = some ol[j] := by simp [hlt]
   have h1 := hop.get j ol[j] h2'
   rw [Nat.zero_add] at h1
   have goal := h1 j xs w hlt hG (fun i hi => hV i (by rw [ancAll_get hlt] at hi; simpa using hi)) (fun i d hi hd => hI i d (by
    have hil : i < ol.length := by
     cases ho : ol[i]? with
     | none => simp [ho] at hd
     | some o => exact (List.getElem?_eq_some_iff.1 ho).1
    rw [ancAll_get hil] at hi; simp at hi; omega) hd)
   rw [List.range'_succ, wpOps_cons]
   refine wpOp_of_goal (by simp [hlt]) goal fun v w' hp => ?_
   obtain ⟨hp1, hp2, hp3⟩ := hp
   have hself : ((ancAll ol.length).getD j []).contains j = false := by rw [ancAll_get hlt]; simp
   have hput : (⟨(patchS 0 l ds xs).toArray, df⟩ : Act).put ol[j].dst v = ⟨(patchS 0 l ds (upd xs j v)).toArray, df⟩ := by
    cases hd : ol[j].dst with
    | none =>
     have hni : j ∉ ds.map (·.2) := by
      intro hmem
      obtain ⟨x, hx, rfl⟩ := List.mem_map.1 hmem
      have := (hd1 x hx).2
      rw [h2'] at this
      simp [hd] at this
     have rest : ∀ (q : Nat) (l : List Value) (ds : List (Nat × Nat)), j ∉ ds.map (·.2) → patchS q l ds (upd xs j v) = patchS q l ds xs := by
      intro q l
      induction l generalizing q with
      | nil => intro ds _; simp [patchS]
      | cons u l ih2 =>
       intro ds hj
       cases ds with
       | nil => simp [patchS]
       | cons e ds =>
        obtain ⟨e1, e2⟩ := e
        simp only [patchS]
        simp at hj
        have : upd xs j v e2 = xs e2 := by unfold upd; rw [if_neg (fun h => hj.1 h.symm)]
        rw [this, ih2 (q + 1) ds (by simpa using hj.2), ih2 (q + 1) ((e1, e2) :: ds) (by simpa using hj)]
     rw [rest _ _ _ hni]
     rfl
    | some d =>
     have hmem : (d, j) ∈ ds := by
      have := hd2 j hlt
      rw [h2'] at this
      simpa [hd] using this
     have h5 := patchS_set xs v l 0 ds d j ha (by simpa using hnd) hmem
     simp only [Nat.sub_zero] at h5
     rw [← h5]
     simp [Act.put]
   rw [hput]
   refine ih (j + 1) _ _ (by omega) hp2 (fun i hi => ?_) (fun i d hi hd => by rw [show upd xs j v i = xs i by simp [upd, show i ≠ j by omega]]; exact hI i d (by omega) hd)
   by_cases hij : i = j
   ·subst hij
    rw [mask_upd hself, show upd xs i v i = v by simp [upd]]
    exact hp1
   ·have hc : ((ancAll ol.length).getD i []).contains j = false := by
     rw [ancAll_get (by omega)]
     simp; omega
    rw [mask_upd hc, show upd xs j v i = xs i by simp [upd, hij]]
    exact hp3 i (by omega) hij hc _ _ (hV i (by omega))
 refine wp_region ?_
 have init := key ol.length 0 (fun i => (((ol[i]?).bind (·.dst)).map (fun d => l.getD d undef)).getD undef) w0 (by simp) h0 (fun i hi => by omega) (fun i d _ hd => by
  have hd' : (ol[i]?).bind (·.dst) = some d := by simpa using hd
  simp [hd'])
 have hsame := patchS_same (fun i => (((ol[i]?).bind (·.dst)).map (fun d => l.getD d undef)).getD undef) l 0 ds ha (fun x hx _ => by
  have := (hd1 x hx).2
  rw [this]
  simp)
 rw [hsame] at init
 rw [List.range_eq_range']
 simpa using init
end Go.Proofs.YtbnhaegidfbgbaaGreatDoor
namespace Go.Proofs.YtbnhaegidfbgbaaGreatDoor
open Go.RowKit
set_option maxHeartbeats 1000000
/-- The steps. -/
def stepL : List Int := [1, 2, 4, 8, 12, 16, 24, 32, 48, 64, 96, 128, 192, 256, 384, 512]
def stp (q : Nat) : Int := nth stepL q
theorem stp_rng {q : Nat} (h : q < 16) : 1 ≤ stp q ∧ stp q ≤ 512 := by
 have : ∀ q, q < 16 → 1 ≤ stp q ∧ stp q ≤ 512 := by decide
 exact this q h
/-- |c| divided by s, rounded. -/
def rnd (c s : Int) : Int := (2 * c + s) / (2 * s)
def qz (c : Int) (q : Nat) : Int := if c < 0 then -rnd (-c) (stp q) else rnd c (stp q)
def dq (l : Int) (q : Nat) : Int := clipI (l * stp q) (-4080) 4080
theorem rnd_rng {c s : Int} (h0 : 0 ≤ c) (hs : 1 ≤ s) : 0 ≤ rnd c s ∧ rnd c s ≤ c := by
 unfold rnd
 constructor
 ·exact Int.ediv_nonneg (by omega) (by omega)
 ·have h2 : 2 * c + s < (c + 1) * (2 * s) := by
   have h3 : 0 ≤ c * (2 * s - 2) := Int.mul_nonneg h0 (by omega)
   have h4 : (c + 1) * (2 * s) = c * (2 * s - 2) + 2 * c + 2 * s := by
    rw [Int.add_mul, Int.mul_sub]; omega
   omega
  have := Int.ediv_lt_of_lt_mul (by omega) h2
  omega
theorem dq_rng (l : Int) (q : Nat) : -4080 ≤ dq l q ∧ dq l q ≤ 4080 := clipI_lo (by omega)
theorem qz_rng {c : Int} {q : Nat} (h1 : -4080 ≤ c) (h2 : c ≤ 4080) (hq : q < 16) : -4080 ≤ qz c q ∧ qz c q ≤ 4080 := by
 have hs := stp_rng hq
 unfold qz
 split
 ·have := rnd_rng (c := -c) (s := stp q) (by omega) hs.1; omega
 ·have := rnd_rng (c := c) (s := stp q) (by omega) hs.1; omega
theorem cellOfBlk {w : World} {b : Nat} {arr : Array Value} {T : TypeId} {i : Nat} {v : Value} (h : w.heap[b]? = some (.cells arr T (0, 0))) (hi : arr[i]? = some v) : w.cell? ⟨b, i, none⟩ = some v := by
 simp [World.cell?, h, hi]
theorem mul_bnd {l s : Int} (h1 : -4080 ≤ l) (h2 : l ≤ 4080) (s1 : 1 ≤ s) (s2 : s ≤ 512) : -2088960 ≤ l * s ∧ l * s ≤ 2088960 := by
 have a1 : l * s ≤ 4080 * s := Int.mul_le_mul_of_nonneg_right h2 (by omega)
 have a2 : -4080 * s ≤ l * s := Int.mul_le_mul_of_nonneg_right h1 (by omega)
 omega
theorem spec_QuantStep_in (q : Nat) (w : World) (hq : q < 16) :
 Calls Tryz.prog 98 #[.int .i64 q] w fun e w' => e = .returned (.int .i64 (stp q)) ∧ Ext w w' := by
 have E1 := Ext.alloc w (.cells (stepL.map (Value.int .i64)).toArray 3)
 have hc : (w.alloc (.cells (stepL.map (Value.int .i64)).toArray 3)).cell? ⟨w.heap.size, q, none⟩ = some (.int .i64 (stp q)) := by
  refine cellOfBlk (blk_new w _) ?_
  have : ∀ q, q < 16 → (stepL.map (Value.int .i64)).toArray[q]? = some (.int .i64 (stp q)) := by
   intro q hq
   have hl : q < stepL.length := hq
   simp [stp, nth, hl]
  exact this q hq
 have e : (stepL.map (Value.int .i64)).toArray = #[.int .i64 1, .int .i64 2, .int .i64 4, .int .i64 8, .int .i64 12, .int .i64 16, .int .i64 24, .int .i64 32, .int .i64 48, .int .i64 64, .int .i64 96, .int .i64 128, .int .i64 192, .int .i64 256, .int .i64 384, .int .i64 512] := rfl
 rw [e] at hc E1
 go_enter Tryz.func98, Tryz.ntmps98
 go_wp2_with fail
 refine (l1In_yes _ _ _ _ (by omega) (by omega)).mono ?_
 rintro e w1 ⟨rfl, rfl⟩
 go_wp2
 go_ret
 exact ⟨rfl, E1⟩
theorem l4Quant_in (c : Int) (q : Nat) (w : World) (h1 : -4080 ≤ c) (h2 : c ≤ 4080) (hq : q < 16) :
 Calls Tryz.prog 170 #[.int .i64 c, .int .i64 q] w fun e w' => e = .returned (.int .i64 (qz c q)) ∧ Ext w w' := by
 have hs := stp_rng hq
 go_enter Tryz.func170, Tryz.ntmps170
 go_wp2_with fail
 refine (spec_QuantStep_in q _ hq).mono ?_
 rintro e w1 ⟨rfl, E1⟩
 have hz : qz c q = if c < 0 then -rnd (-c) (stp q) else rnd c (stp q) := rfl
 have Hz := Lib.hid hz
 clear hz
 generalize stp q = s at *
 by_cases hc : c < 0
 ·have hr : rnd (-c) s = (-c * 2 + s) / (2 * s) := by unfold rnd; congr 1; omega
  have Hr := Lib.hid hr
  have hr2 := rnd_rng (c := -c) (s := s) (by omega) hs.1
  rw [hr] at hr2
  clear hr
  go_wp2
  go_ret
  exact ⟨by rw [Hz.out, if_pos hc, Hr.out]; rfl, E1⟩
 ·have hr : rnd c s = (c * 2 + s) / (2 * s) := by unfold rnd; congr 1; omega
  have Hr := Lib.hid hr
  have hr2 := rnd_rng (c := c) (s := s) (by omega) hs.1
  rw [hr] at hr2
  clear hr
  go_wp2
  go_ret
  exact ⟨by rw [Hz.out, if_neg (by omega), Hr.out]; rfl, E1⟩
/-- The program's table of steps lies in its variable. -/
def TabQ (w : World) : Prop := ∀ j, j < 16 → w.cell? ⟨0, j, none⟩ = some (.int .i64 (stp j))
theorem TabQ.ext {w w' : World} (h : TabQ w) (e : Ext w w') : TabQ w' := fun j hj => cell_ext e (h j hj)
theorem qualityValid_in (q : Int) (w : World) (h1 : 0 ≤ q) (h2 : q ≤ 15) :
 Calls Tryz.prog 51 #[.int .i64 q] w fun e w' => e = .returned (.bool true) ∧ w = w' := by
 go_enter Tryz.func51, Tryz.ntmps51
 go_wp2
 go_ret
 exact ⟨by first | rfl | (simp; done) | (simp; omega), rfl⟩
theorem impl_abs_any (c : Int) (w : World) (h1 : -1099511627776 ≤ c) (h2 : c ≤ 1099511627776) :
 Calls Tryz.prog 117 #[.int .i64 c] w fun e w' => e = .returned (.int .i64 (if c < 0 then -c else c)) ∧ w = w' := by
 go_enter Tryz.func117, Tryz.ntmps117
 by_cases hc : c < 0
 ·rw [if_pos hc]
  go_wp2
  go_ret
  first | exact ⟨rfl, rfl⟩ | exact ⟨by simp; omega, rfl⟩
 ·rw [if_neg hc]
  go_wp2
  go_ret
  first | exact ⟨rfl, rfl⟩ | exact ⟨by simp; omega, rfl⟩
theorem rounded_any (c s : Int) (w : World) (h1 : 0 ≤ c) (h2 : c ≤ 1000000) (h3 : 1 ≤ s) (h4 : s ≤ 1000000) :
 Calls Tryz.prog 156 #[.int .i64 c, .int .i64 s] w fun e w' => e = .returned (.int .i64 (rnd c s)) ∧ w = w' := by
 have hr : rnd c s = (2 * c + s) / (2 * s) := rfl
 have Hr := Lib.hid hr
 have hr2 := rnd_rng h1 h3
 rw [hr] at hr2
 clear hr
 go_enter Tryz.func156, Tryz.ntmps156
 go_wp2
 go_ret
 exact ⟨by rw [Hr.out]; rfl, rfl⟩
theorem impl_Quantize_in (c : Int) (q : Nat) (w : World) (hT : TabQ w) (h1 : -4080 ≤ c) (h2 : c ≤ 4080) (hq : q < 16) :
 Calls Tryz.prog 115 #[.int .i64 c, .int .i64 q] w fun e w' => e = .returned (.int .i64 (qz c q)) ∧ ∃ n, w' = w.drewN n := by
 have hs := stp_rng hq
 have ht := hT q hq
 have hz : qz c q = if c < 0 then -rnd (-c) (stp q) else rnd c (stp q) := rfl
 have Hz := Lib.hid hz
 clear hz
 have HT := Lib.hid ht
 generalize stp q = s at *
 go_enter Tryz.func115, Tryz.ntmps115
 go_wp2_with fail
 refine (qualityValid_in _ _ (by omega) (by omega)).mono ?_
 rintro e w1 ⟨rfl, rfl⟩
 obtain ⟨ac, hac⟩ : ∃ ac, ac = (if c < 0 then -c else c) := ⟨_, rfl⟩
 have hac1 : 0 ≤ ac ∧ ac ≤ 4080 := by rw [hac]; split <;> omega
 have HA := Lib.hid hac
 clear hac ht
 have hr1 := rnd_rng (c := ac) (s := s) hac1.1 hs.1
 have Hr1 := Lib.hid hr1
 clear hr1
 go_wp2_with fail
 refine wp_region_inv2 (by kernel_rfl) [(5, 6), (17, 0), (18, 1), (19, 2), (20, 3), (21, 4), (22, 5)] [[], [0], [], [2], [2, 3], [0, 1, 2, 3, 4], [0, 1, 2, 3, 4, 5]] (fun i own ys wx => match i with | 0 => own = .int .i64 c | 1 => own = .int .i64 ac | 2 => own = .int .i64 q | 3 => own = .pointer (some ⟨0, q, none⟩) | 4 => own = .int .i64 s | 5 => own = .int .i64 (rnd ac s) | 6 => own = .int .i64 (rnd ac s) | _ => True) (fun kx wx => ∃ n, wx = w.drewN n) (by kernel_rfl) (by kernel_rfl) (by kernel_rfl) ?g0_r1 ?gop_r1 ?gend_r1
 case g0_r1 => exact ⟨1, rfl⟩
 case gop_r1 =>
  refine ⟨?_, ?o1, ?_, ?o3, ?o4, ?o5, ?o6, trivial⟩ <;> (intro kx xs wx hk hG hD hI Qo Kx hK hQo; simp only [patchS, Nat.reduceAdd, Nat.reduceEqDiff, ↓reduceIte] at hQo ⊢)
  case o1 =>
   have d0 : _ = _ := hD 0 rfl
   clear hD hI
   generalize xs 0 = y0 at *
   subst d0
   go_wp2_with fail
   refine (impl_abs_any c _ (by omega) (by omega)).mono ?_
   rintro e w2 ⟨rfl, rfl⟩
   rw [← HA.out]
   go_wp2
   exact hK.out _ _ ⟨rfl, hG, fun _ _ _ _ _ _ h => h⟩
  case o3 =>
   have d2 : _ = _ := hD 2 rfl
   clear hD hI
   generalize xs 2 = y2 at *
   subst d2
   go_wp2
   exact hK.out _ _ ⟨rfl, hG, fun _ _ _ _ _ _ h => h⟩
  case o4 =>
   have d3 : _ = _ := hD 3 rfl
   clear hD hI
   generalize xs 3 = y3 at *
   subst d3
   obtain ⟨nn, rfl⟩ := hG
   have ht := HT.out
   have hG : ∃ n, w.drewN nn = w.drewN n := ⟨nn, rfl⟩
   go_wp2
   exact hK.out _ _ ⟨rfl, hG, fun _ _ _ _ _ _ h => h⟩
  case o5 =>
   have d1 : _ = _ := hD 1 rfl
   have d4 : _ = _ := hD 4 rfl
   clear hD hI
   generalize xs 1 = y1 at *
   generalize xs 4 = y4 at *
   subst d1 d4
   go_wp2_with fail
   refine (rounded_any ac s _ (by omega) (by omega) (by omega) (by omega)).mono ?_
   rintro e w2 ⟨rfl, rfl⟩
   go_wp2
   exact hK.out _ _ ⟨rfl, hG, fun _ _ _ _ _ _ h => h⟩
  case o6 =>
   have d5 : _ = _ := hD 5 rfl
   clear hD hI
   generalize xs 5 = y5 at *
   subst d5
   go_wp2
   exact hK.out _ _ ⟨rfl, hG, fun _ _ _ _ _ _ h => h⟩
  all_goals
   clear hD hI
   go_wp2
   exact hK.out _ _ ⟨rfl, hG, fun _ _ _ _ _ _ h => h⟩
 intro xs wx hV hG
 have d6 : _ = _ := hV 6 (by decide)
 clear hV
 simp only [patchS, Nat.reduceAdd, Nat.reduceEqDiff, ↓reduceIte]
 generalize xs 0 = y0 at *
 generalize xs 1 = y1 at *
 generalize xs 2 = y2 at *
 generalize xs 3 = y3 at *
 generalize xs 4 = y4 at *
 generalize xs 5 = y5 at *
 generalize xs 6 = y6 at *
 replace hG : ∃ n, wx = w.drewN n := hG
 subst d6
 obtain ⟨nn, rfl⟩ := hG
 have hr1 := Hr1.out
 by_cases hc : c < 0
 ·rw [if_pos hc] at HA
  have ha2 := HA.out
  have hz2 : qz c q = -rnd ac s := by rw [Hz.out, if_pos hc, ← ha2]
  have HZ2 := Lib.hid hz2
  clear hz2 Hz Hr1 HA ha2
  generalize rnd ac s = R at *
  go_wp2
  go_ret
  exact ⟨by rw [HZ2.out]; rfl, nn, rfl⟩
 ·rw [if_neg hc] at HA
  have ha2 := HA.out
  go_wp2
  go_ret
  exact ⟨by rw [Hz.out, if_neg (by omega), ← ha2]; rfl, nn, rfl⟩
theorem impl_Dequantize_in (l : Int) (q : Nat) (w : World) (hT : TabQ w) (h1 : -4080 ≤ l) (h2 : l ≤ 4080) (hq : q < 16) :
 Calls Tryz.prog 126 #[.int .i64 l, .int .i64 q] w fun e w' => e = .returned (.int .i64 (dq l q)) ∧ w = w' := by
 have hs := stp_rng hq
 have ht := hT q hq
 have hm := mul_bnd h1 h2 hs.1 hs.2
 have hz : dq l q = clipI (l * stp q) (-4080) 4080 := rfl
 have Hz := Lib.hid hz
 clear hz
 generalize stp q = s at *
 go_enter Tryz.func126, Tryz.ntmps126
 go_wp2_with fail
 refine (qualityValid_in _ _ (by omega) (by omega)).mono ?_
 rintro e w1 ⟨rfl, rfl⟩
 go_wp2_with fail
 refine (clamp_any _ _ _ _ (by omega)).mono ?_
 rintro e w1 ⟨rfl, rfl⟩
 go_wp2
 go_ret
 exact ⟨by rw [Hz.out]; rfl, rfl⟩
end Go.Proofs.YtbnhaegidfbgbaaGreatDoor
namespace Go.Proofs.YtbnhaegidfbgbaaGreatDoor
open Go.RowKit
set_option maxHeartbeats 1000000
/-- The sample at a position, or the nearest one. -/
def pat (p : Pic) (x y : Int) : Int := nth p.px (clipI y 0 (p.h - 1) * p.w + clipI x 0 (p.w - 1)).toNat
theorem pat_idx {p : Pic} (hv : p.valid) (x y : Int) : 0 ≤ clipI y 0 (p.h - 1) * p.w + clipI x 0 (p.w - 1) ∧ clipI y 0 (p.h - 1) * p.w + clipI x 0 (p.w - 1) < p.px.length ∧ 0 ≤ clipI y 0 (p.h - 1) * p.w ∧ clipI y 0 (p.h - 1) * p.w ≤ 1024 := by
 obtain ⟨⟨w1, w2, w3⟩, ⟨h1, h2, h3⟩, hl, -⟩ := hv
 have a1 := clipI_lo (n := y) (show (0 : Int) ≤ p.h - 1 by omega)
 have a2 := clipI_lo (n := x) (show (0 : Int) ≤ p.w - 1 by omega)
 rw [hl]
 generalize clipI y 0 (p.h - 1) = u at *
 generalize clipI x 0 (p.w - 1) = v at *
 have b1 : 0 ≤ u * p.w := Int.mul_nonneg (by omega) (by omega)
 have b2 : (u + 1) * p.w ≤ p.h * p.w := Int.mul_le_mul_of_nonneg_right (by omega) (by omega)
 have b3 : p.h * p.w ≤ 32 * 32 := Int.mul_le_mul h2 w2 (by omega) (by omega)
 rw [Int.add_mul, Int.one_mul] at b2
 rw [Int.mul_comm p.h] at b2 b3
 omega
theorem pat_rng {p : Pic} (hv : p.valid) (x y : Int) : 0 ≤ pat p x y ∧ pat p x y ≤ 255 := by
 have := pat_idx hv x y
 exact smp_nth hv.2.2.2 (by omega)
theorem pat_in {p : Pic} {x y : Nat} (hx : (x : Int) < p.w) (hy : (y : Int) < p.h) {W : Nat} (hW : p.w = W) : pat p x y = nth p.px (y * W + x) := by
 unfold pat
 rw [clipI_in (by omega) (by omega), clipI_in (by omega) (by omega), hW, ← Int.natCast_mul, ← Int.natCast_add, Int.toNat_natCast]
/-- The sample at a position in half samples. -/
def hlf (p : Pic) (x y : Int) : Int :=
 if y % 2 = 0 then if x % 2 = 0 then pat p (x / 2) (y / 2) else (pat p (x / 2) (y / 2) + pat p (x / 2 + 1) (y / 2) + 1) / 2
 else if x % 2 = 0 then (pat p (x / 2) (y / 2) + pat p (x / 2) (y / 2 + 1) + 1) / 2
 else (pat p (x / 2) (y / 2) + pat p (x / 2 + 1) (y / 2) + pat p (x / 2) (y / 2 + 1) + pat p (x / 2 + 1) (y / 2 + 1) + 2) / 4
theorem hlf_rng {p : Pic} (hv : p.valid) (x y : Int) : 0 ≤ hlf p x y ∧ hlf p x y ≤ 255 := by
 have h1 := pat_rng hv (x / 2) (y / 2)
 have h2 := pat_rng hv (x / 2 + 1) (y / 2)
 have h3 := pat_rng hv (x / 2) (y / 2 + 1)
 have h4 := pat_rng hv (x / 2 + 1) (y / 2 + 1)
 unfold hlf
 split <;> split <;> omega
theorem hlf_two (p : Pic) (x y : Int) : hlf p (2 * x) (2 * y) = pat p x y := by
 unfold hlf
 rw [if_pos (by omega), if_pos (by omega), show 2 * x / 2 = x by omega, show 2 * y / 2 = y by omega]
/-- The 64 samples that predict a macroblock. -/
def blkL (p : Pic) (x y vx vy : Int) : List Int := (List.range 64).map fun k => hlf p (2 * (x + (k % 8 : Nat)) + vx) (2 * (y + (k / 8 : Nat)) + vy)
theorem blkL_len (p : Pic) (x y vx vy : Int) : (blkL p x y vx vy).length = 64 := by simp [blkL]
theorem nth_blkL (p : Pic) (x y vx vy : Int) {k : Nat} (h : k < 64) : nth (blkL p x y vx vy) k = hlf p (2 * (x + (k % 8 : Nat)) + vx) (2 * (y + (k / 8 : Nat)) + vy) := by
 simp [nth, blkL, h]
theorem blkL_smp {p : Pic} (hv : p.valid) (x y vx vy : Int) : smp (blkL p x y vx vy) := by
 refine smp_of_nth fun i hi => ?_
 rw [blkL_len] at hi
 rw [nth_blkL _ _ _ _ _ hi]
 exact hlf_rng hv _ _
/-- The block of 4 by 4 samples at a position. -/
def prt (p : Pic) (x y : Int) : List Int := (List.range 16).map fun k => pat p (x + (k % 4 : Nat)) (y + (k / 4 : Nat))
theorem prt_len (p : Pic) (x y : Int) : (prt p x y).length = 16 := by simp [prt]
theorem nth_prt (p : Pic) (x y : Int) {k : Nat} (h : k < 16) : nth (prt p x y) k = pat p (x + (k % 4 : Nat)) (y + (k / 4 : Nat)) := by simp [nth, prt, h]
theorem prt_smp {p : Pic} (hv : p.valid) (x y : Int) : smp (prt p x y) := by
 refine smp_of_nth fun i hi => ?_
 rw [prt_len] at hi
 rw [nth_prt _ _ _ hi]
 exact pat_rng hv _ _
/-- A block of a macroblock's samples. -/
def pof (L : List Int) (i j : Nat) : List Int := (List.range 16).map fun t => nth L ((j + t / 4) * 8 + i + t % 4)
theorem pof_len (L : List Int) (i j : Nat) : (pof L i j).length = 16 := by simp [pof]
theorem nth_pof (L : List Int) (i j : Nat) {k : Nat} (h : k < 16) : nth (pof L i j) k = nth L ((j + k / 4) * 8 + i + k % 4) := by simp [nth, pof, h]
theorem pof_blk (p : Pic) (x y : Int) {i j : Nat} (hi : i ≤ 4) (hj : j ≤ 4) : pof (blkL p x y 0 0) i j = prt p (x + i) (y + j) := by
 refine ext_nth (by rw [pof_len, prt_len]) fun t ht => ?_
 rw [pof_len] at ht
 have h1 : ((j + t / 4) * 8 + i + t % 4) % 8 = i + t % 4 := by omega
 have h2 : ((j + t / 4) * 8 + i + t % 4) / 8 = j + t / 4 := by omega
 rw [nth_pof _ _ _ ht, nth_prt _ _ _ ht, nth_blkL _ _ _ _ _ (by omega), h1, h2, Int.add_zero, Int.add_zero, hlf_two]
 congr 1 <;> omega
theorem pof_smp {L : List Int} (h : smp L) (hl : L.length = 64) {i j : Nat} (hi : i ≤ 4) (hj : j ≤ 4) : smp (pof L i j) := by
 refine smp_of_nth fun k hk => ?_
 rw [pof_len] at hk
 rw [nth_pof _ _ _ hk]
 exact smp_nth h (by omega)
/-- The samples around a block. -/
structure Ed where
 ab : List Int
 lf : List Int
 co : Int
 up : Bool
 le : Bool
structure Ed.ok (e : Ed) : Prop where
 ab : e.ab.length = 4
 lf : e.lf.length = 4
 sab : smp e.ab
 slf : smp e.lf
 sco : 0 ≤ e.co ∧ e.co ≤ 255
def edg (p : Pic) (x y top : Int) : Ed :=
 ⟨(List.range 4).map fun k : Nat => if top < y then pat p (x + k) (y - 1) else 128, (List.range 4).map fun k : Nat => if 0 < x then pat p (x - 1) (y + k) else 128,
  if top < y ∧ 0 < x then pat p (x - 1) (y - 1) else 128, decide (top < y), decide (0 < x)⟩
theorem edg_ab (p : Pic) (x y top : Int) {k : Nat} (h : k < 4) : nth (edg p x y top).ab k = if top < y then pat p (x + k) (y - 1) else 128 := by simp [nth, edg, h]
theorem edg_lf (p : Pic) (x y top : Int) {k : Nat} (h : k < 4) : nth (edg p x y top).lf k = if 0 < x then pat p (x - 1) (y + k) else 128 := by simp [nth, edg, h]
theorem edg_ok {p : Pic} (hv : p.valid) (x y top : Int) : (edg p x y top).ok := by
 have l1 : (edg p x y top).ab.length = 4 := by simp [edg]
 have l2 : (edg p x y top).lf.length = 4 := by simp [edg]
 refine ⟨l1, l2, smp_of_nth fun k hk => ?_, smp_of_nth fun k hk => ?_, ?_⟩
 ·rw [l1] at hk
  rw [edg_ab _ _ _ _ hk]
  split
  ·exact pat_rng hv _ _
  ·omega
 ·rw [l2] at hk
  rw [edg_lf _ _ _ _ hk]
  split
  ·exact pat_rng hv _ _
  ·omega
 ·show 0 ≤ (if top < y ∧ 0 < x then pat p (x - 1) (y - 1) else 128) ∧ _
  unfold edg
  simp only
  split
  ·exact pat_rng hv _ _
  ·omega
/-- The sum of the edge's available samples, and how many. -/
def mnT (e : Ed) : Nat → Int
 | 0 => 0
 | k + 1 => mnT e k + (if e.up then nth e.ab k else 0) + (if e.le then nth e.lf k else 0)
def mnN (e : Ed) (k : Nat) : Int := k * ((if e.up then 1 else 0) + (if e.le then 1 else 0))
def mean (e : Ed) : Int := if mnN e 4 = 0 then 128 else (2 * mnT e 4 + mnN e 4) / (2 * mnN e 4)
theorem mnT_rng {e : Ed} (h : e.ok) {k : Nat} (hk : k ≤ 4) : 0 ≤ mnT e k ∧ mnT e k ≤ 255 * mnN e k := by
 induction k with
 | zero => simp [mnT, mnN]
 | succ k ih =>
  have h1 := ih (by omega)
  have h2 := smp_nth h.sab (i := k) (by rw [h.ab]; omega)
  have h3 := smp_nth h.slf (i := k) (by rw [h.lf]; omega)
  have e1 : mnN e (k + 1) = mnN e k + ((if e.up then 1 else 0) + (if e.le then 1 else 0)) := by
   unfold mnN
   rw [Int.natCast_add, Int.add_mul]; omega
  rw [e1]
  simp only [mnT]
  split <;> split <;> omega
theorem mnN_cases (e : Ed) : mnN e 4 = 0 ∨ mnN e 4 = 4 ∨ mnN e 4 = 8 := by
 unfold mnN
 cases e.up <;> cases e.le <;> simp
theorem mean_rng {e : Ed} (h : e.ok) : 0 ≤ mean e ∧ mean e ≤ 255 := by
 have h1 := mnT_rng h (k := 4) (by omega)
 unfold mean
 rcases mnN_cases e with h2 | h2 | h2 <;> rw [h2] at h1 ⊢
 ·rw [if_pos rfl]; omega
 ·rw [if_neg (by omega)]; omega
 ·rw [if_neg (by omega)]; omega
/-- The border from the lowest left sample over the corner to the last one above. -/
def bord (e : Ed) (k : Nat) : Int := if k < 4 then nth e.lf (3 - k) else if k = 4 then e.co else nth e.ab (k - 5)
theorem bord_rng {e : Ed} (h : e.ok) {k : Nat} (hk : k ≤ 8) : 0 ≤ bord e k ∧ bord e k ≤ 255 := by
 unfold bord
 split
 ·exact smp_nth h.slf (by rw [h.lf]; omega)
 ·split
  ·exact h.sco
  ·exact smp_nth h.sab (by rw [h.ab]; omega)
/-- The prediction of the sample in column x and row y. -/
def prd1 (mode : Nat) (e : Ed) (x y : Nat) : Int :=
 match mode with
 | 0 => mean e
 | 1 => nth e.ab x
 | 2 => nth e.lf y
 | 3 => (bord e (3 + x - y) + 2 * bord e (4 + x - y) + bord e (5 + x - y) + 2) / 4
 | _ => clipI (nth e.ab x + nth e.lf y - e.co) 0 255
def prd (mode : Nat) (e : Ed) : List Int := (List.range 16).map fun k => prd1 mode e (k % 4) (k / 4)
theorem prd_len (mode : Nat) (e : Ed) : (prd mode e).length = 16 := by simp [prd]
theorem nth_prd (mode : Nat) (e : Ed) {k : Nat} (h : k < 16) : nth (prd mode e) k = prd1 mode e (k % 4) (k / 4) := by simp [nth, prd, h]
theorem prd1_rng (mode : Nat) {e : Ed} (h : e.ok) {x y : Nat} (hx : x < 4) (hy : y < 4) : 0 ≤ prd1 mode e x y ∧ prd1 mode e x y ≤ 255 := by
 unfold prd1
 split
 ·exact mean_rng h
 ·exact smp_nth h.sab (by rw [h.ab]; omega)
 ·exact smp_nth h.slf (by rw [h.lf]; omega)
 ·have h1 := bord_rng h (k := 3 + x - y) (by omega)
  have h2 := bord_rng h (k := 4 + x - y) (by omega)
  have h3 := bord_rng h (k := 5 + x - y) (by omega)
  omega
 ·exact clipI_lo (by omega)
theorem prd_smp (mode : Nat) {e : Ed} (h : e.ok) : smp (prd mode e) := by
 refine smp_of_nth fun i hi => ?_
 rw [prd_len] at hi
 rw [nth_prd _ _ hi]
 exact prd1_rng mode h (by omega) (by omega)
/-- The differences. -/
def dif (a b : List Int) : List Int := (List.range 16).map fun k => nth a k - nth b k
theorem dif_len (a b : List Int) : (dif a b).length = 16 := by simp [dif]
theorem nth_dif (a b : List Int) {k : Nat} (h : k < 16) : nth (dif a b) k = nth a k - nth b k := by simp [nth, dif, h]
theorem dif_rng {a b : List Int} (ha : smp a) (hb : smp b) (la : a.length = 16) (lb : b.length = 16) : inB 255 (dif a b) = true := by
 refine inB_yes fun j hj => ?_
 rw [dif_len] at hj
 rw [nth_dif _ _ hj]
 have := smp_nth ha (i := j) (by omega)
 have := smp_nth hb (i := j) (by omega)
 omega
/-- Levels of residuals; residuals of levels. -/
def cod (b : List Int) (q : Nat) : List Int := (had b).map fun c => qz c q
def dec (l : List Int) (q : Nat) : List Int := ihad (l.map fun x => dq x q)
theorem cod_len (b : List Int) (q : Nat) : (cod b q).length = 16 := by simp [cod, had_len]
theorem nth_cod (b : List Int) (q : Nat) {k : Nat} (h : k < 16) : nth (cod b q) k = qz (nth (had b) k) q := by
 have hl := had_len b
 have h1 : k < (had b).length := by omega
 rw [nth_eq _ _ h1, nth_eq _ _ (by rw [cod_len]; exact h)]
 simp [cod]
theorem ihad_len (b : List Int) : (ihad b).length = 16 := by simp [ihad, had_len]
theorem dec_len (l : List Int) (q : Nat) : (dec l q).length = 16 := ihad_len _
theorem had_255 {b : List Int} (hl : b.length = 16) (hb : inB 255 b = true) {k : Nat} (hk : k < 16) : -4080 ≤ nth (had b) k ∧ nth (had b) k ≤ 4080 := by
 have := had_rng (b := b) (B := 255) (fun t ht => inB_iff.1 hb t (by omega)) hk
 omega
theorem cod_rng {b : List Int} (hl : b.length = 16) (hb : inB 255 b = true) {q : Nat} (hq : q < 16) : inB 4080 (cod b q) = true := by
 refine inB_yes fun j hj => ?_
 rw [cod_len] at hj
 rw [nth_cod _ _ hj]
 have := had_255 hl hb hj
 exact qz_rng this.1 this.2 hq
/-- A block of a picture replaced, its first k samples. -/
def putS (px : List Int) (W x y : Nat) (pr rs : List Int) : Nat → List Int
 | 0 => px
 | k + 1 => (putS px W x y pr rs k).set ((y + k / 4) * W + x + k % 4) (clipI (nth pr k + nth rs k) 0 255)
theorem putS_len (px : List Int) (W x y : Nat) (pr rs : List Int) (k : Nat) : (putS px W x y pr rs k).length = px.length := by
 induction k with
 | zero => rfl
 | succ k ih => simp [putS, ih]
theorem smp_setP {zs : List Int} (h : smp zs) (i : Nat) {v : Int} (hv : 0 ≤ v ∧ v ≤ 255) : smp (zs.set i v) := by
 intro z hz
 rcases List.mem_or_eq_of_mem_set hz with h1 | rfl
 ·exact h z h1
 ·exact hv
theorem putS_smp {px : List Int} (h : smp px) (W x y : Nat) (pr rs : List Int) (k : Nat) : smp (putS px W x y pr rs k) := by
 induction k with
 | zero => exact h
 | succ k ih => exact smp_setP ih _ (clipI_lo (by omega))
/-- How block k of a macroblock is predicted. -/
def prK (ref : Pic) (W H : Int) (cur : List Int) (x y : Nat) (m : Mac) (top : Int) (k : Nat) : List Int :=
 if m.kind = 2 then prd (nth m.modes k).toNat (edg ⟨W, H, cur⟩ (x + k % 2 * 4 : Nat) (y + k / 2 * 4 : Nat) top) else pof (blkL ref x y m.x m.y) (k % 2 * 4) (k / 2 * 4)
/-- A macroblock of a picture replaced, its first k blocks. -/
def bldS (ref p : Pic) (x y : Nat) (m : Mac) (q : Nat) (top : Int) : Nat → List Int
 | 0 => p.px
 | k + 1 => putS (bldS ref p x y m q top k) p.w.toNat (x + k % 2 * 4) (y + k / 2 * 4) (prK ref p.w p.h (bldS ref p x y m q top k) x y m top k) (dec (sub m.lv (k * 16) 16) q) 16
theorem bldS_len (ref p : Pic) (x y : Nat) (m : Mac) (q : Nat) (top : Int) (k : Nat) : (bldS ref p x y m q top k).length = p.px.length := by
 induction k with
 | zero => rfl
 | succ k ih => simp only [bldS]; rw [putS_len, ih]
theorem bldS_smp {p : Pic} (h : smp p.px) (ref : Pic) (x y : Nat) (m : Mac) (q : Nat) (top : Int) (k : Nat) : smp (bldS ref p x y m q top k) := by
 induction k with
 | zero => exact h
 | succ k ih => exact putS_smp ih _ _ _ _ _ _
theorem bldS_valid {p : Pic} (h : p.valid) (ref : Pic) (x y : Nat) (m : Mac) (q : Nat) (top : Int) (k : Nat) : Pic.valid ⟨p.w, p.h, bldS ref p x y m q top k⟩ :=
 ⟨h.1, h.2.1, by show ((bldS ref p x y m q top k).length : Int) = _; rw [bldS_len]; exact h.2.2.1, bldS_smp h.2.2.2 _ _ _ _ _ _ _⟩
end Go.Proofs.YtbnhaegidfbgbaaGreatDoor
namespace Go.Proofs.YtbnhaegidfbgbaaGreatDoor
open Go.RowKit
section
variable {P : Program} (w : World)
theorem run_app_nil (base : Nat) (t ty e : TypeId) (i : TypeInfo) (size : Nat) (ht : P.underlying t = some (.slice e)) (hi : P.info? e = some i)
 (v : Value) (n : Nat) (xs : List Value) (hown : w.ownsRow base e size v n xs) (c : Nat) : (Builtin.append_ #[t, t] ty #[v, .slice none 0 c]).run P w = .ok v w := by
 rcases hown.2 with ⟨rfl, rfl⟩ | ⟨g, cap, cur, rfl, _, _, hnc, _⟩
 ·simp [Builtin.append_, run_underlying ht, sizeOf, typeInfo, hi, Builtin.lenOf, Builtin.firstCells]
 ·simp [Builtin.append_, run_underlying ht, sizeOf, typeInfo, hi, Builtin.lenOf, Builtin.firstCells, hnc, storeCells]
theorem Sl.cellsOf {a : Addr} {m : Nat} {us : List Value} (h : Sl w (some a) m us) (hm : 0 < m) : ∀ j u, us[j]? = some u → w.cell? (a.add j) = some u := by
 intro j u hu
 have hj : j < us.length := (List.getElem?_eq_some_iff.1 hu).1
 obtain ⟨b, off, ha, hc⟩ := h.2 j (by rw [← h.1]; exact hj)
 simp only [Option.some.injEq] at ha
 subst ha
 rw [Addr.add_lit, hc]
 simp [List.getD, hu]
theorem wpList_apps {ops : Array Oper} {rest : List Oper} {o : Oper} {a : Act} {Q : Exit → Act → World → Prop} {base e : Nat} {v : Value} {n : Nat} {xs : List Value}
 (hown : w.ownsRow base e 1 v n xs) (hbase : base ≤ w.heap.size)
 (hg : o.guard = none) (s x : Operand) (t : TypeId) (ho : o.op = .call { callee := .builtin .append, args := #[s, x], argTypes := #[t, t] })
 (z : Value) (bytes : Nat) (h1 : P.underlying t = some (.slice e)) (h2 : (P.info? e).map (fun i => (i.zero, i.size, i.bytes)) = some (some z, 1, bytes)) (hz1 : z.cells.size = 1)
 (hs : a.eval s = v) (A : Option Addr) (m c : Nat) (us : List Value) (hx : a.eval x = .slice A m c) (src : Sl w A m us) (hu1 : ∀ u ∈ us, u.oneCell' = true)
 (hb : (n + m) * bytes ≤ 140737488355328) (hn : n + m < 2 ^ 62)
 (h : ∀ v' w', w'.ownsRow base e 1 v' (n + m) (xs ++ us) → w.grownBy w' v.ownBlock → wpList P ops Q rest (a.put o.dst v') w') : wpList P ops Q (o :: rest) a w := by
 obtain ⟨i0, hi, hz0, hz1', hz2⟩ := info_parts h2
 cases A with
 | none =>
  have hm : m = 0 := by
   refine Classical.byContradiction fun h0 => ?_
   obtain ⟨b, off, ha, -⟩ := src.2 0 (by omega)
   cases ha
  subst hm
  have hus : us = [] := List.eq_nil_of_length_eq_zero src.1
  subst hus
  refine wpList_plain hg fun _ hK => ?_
  have hrun := run_app_nil (P := P) w base t o.type e i0 1 h1 hi v n xs hown c
  unfold Oper.wp execOp
  simp only [ho, resolve, invoke, builtin, Sem.run_bind, Sem.run_pure, Result.andThen_ok, List.map_toArray, List.map_cons, List.map_nil, hs, hx, hrun]
  exact hK _ _ (h v w (by simpa using hown) (World.grownBy.refl w _))
 | some ad =>
  refine wpList_append_own _ hg s x t ho base e i0 z 1 bytes h1 hi hz0 hz1' hz2 hz1 (by decide) v n xs hs hown ad m c us hx (by rw [src.1]; omega) ?_ hu1 (by unfold maxLen; omega) hb hbase ?_
  ·by_cases hm : 0 < m
   ·exact src.cellsOf _ hm
   ·have hus : us = [] := List.eq_nil_of_length_eq_zero (by rw [src.1]; omega)
    subst hus
    intro j u hj
    simp at hj
  ·intro v' w' a1 a2 _
   exact h v' w' a1 a2
end
end Go.Proofs.YtbnhaegidfbgbaaGreatDoor
namespace Go.Proofs.YtbnhaegidfbgbaaGreatDoor
open Go.RowKit
set_option maxHeartbeats 1000000
/-- The value of a picture. -/
def picV (W H : Int) (a : Option Addr) (n c : Nat) : Value := .agg #[.int .i64 W, .int .i64 H, .slice a n c]
theorem ret_intH {k : IntKind} {a b : Int} (h : Hid (a = b)) : Ending.returned (.int k a) = .returned (.int k b) := by rw [h.out]
set_option maxRecDepth 100000 in
theorem at_any (p : Pic) (x y : Int) (a : Option Addr) (c n : Nat) (w : World) (hv : p.valid) (hn : n = p.px.length) (r : Sl w a n (p.px.map (Value.int .i64))) :
 Calls Tryz.prog 93 #[.agg #[.int .i64 p.w, .int .i64 p.h, .slice a n c], .int .i64 x, .int .i64 y] w fun e w' => e = .returned (.int .i64 (pat p x y)) ∧ Ext w w' := by
 have hi := pat_idx hv x y
 have hw := hv.1
 have hh := hv.2.1
 obtain ⟨w1, w2, -⟩ := hw
 obtain ⟨h1, h2, -⟩ := hh
 have Hp := Lib.hid (show pat p x y = nth p.px (clipI y 0 (p.h - 1) * p.w + clipI x 0 (p.w - 1)).toNat from rfl)
 have c1 := clipI_lo (n := y) (show (0 : Int) ≤ p.h - 1 by omega)
 have c2 := clipI_lo (n := x) (show (0 : Int) ≤ p.w - 1 by omega)
 obtain ⟨cy, hcy⟩ : ∃ cy, cy = clipI y 0 (p.h - 1) := ⟨_, rfl⟩
 obtain ⟨cx, hcx⟩ : ∃ cx, cx = clipI x 0 (p.w - 1) := ⟨_, rfl⟩
 rw [← hcy] at hi c1 Hp
 rw [← hcx] at hi c2 Hp
 have Hcy := Lib.hid hcy
 have Hcx := Lib.hid hcx
 clear hcy hcx
 have hk : (cy * p.w + cx).toNat < n := by omega
 obtain ⟨k, hk2⟩ : ∃ k : Nat, cy * p.w + cx = (k : Int) := ⟨(cy * p.w + cx).toNat, by omega⟩
 rw [hk2] at hi hk
 rw [hk2, Int.toNat_natCast] at Hp
 rw [Int.toNat_natCast] at hk
 have Hk := Lib.hid hk2
 clear hk2
 obtain ⟨b, off, rfl, hc⟩ := r.int hk
 have Hc := Lib.hid hc
 have p0 := blk_new w (.cells #[.int .i64 p.w, .int .i64 p.h, .slice (some ⟨b, off, none⟩) n c] 25)
 have E0 := Ext.alloc w (.cells #[.int .i64 p.w, .int .i64 p.h, .slice (some ⟨b, off, none⟩) n c] 25)
 have HN := Lib.hid hn
 obtain ⟨B, hB⟩ : ∃ B, B = w.heap.size := ⟨_, rfl⟩
 rw [← hB] at p0
 have HB := Lib.hid hB
 clear hn r hc hv
 go_enter Tryz.func93, Tryz.ntmps93
 go_wp2_with fail
 rw [← hB]
 clear hB
 generalize w.alloc (.cells #[.int .i64 p.w, .int .i64 p.h, .slice (some ⟨b, off, none⟩) n c] 25) = w0 at *
 obtain ⟨pw, ph, px⟩ := p
 simp only at *
 refine wp_region_inv2 (by kernel_rfl) [(6, 18), (7, 0), (8, 1), (9, 2), (10, 3), (11, 4), (12, 5), (13, 6), (14, 7), (15, 8), (16, 9), (17, 10), (18, 11), (19, 12), (20, 13), (21, 14), (22, 15), (23, 16), (24, 17)] [[], [0], [], [], [3], [3, 4], [2, 3, 4, 5], [], [7], [2, 3, 4, 5, 6, 7, 8], [], [], [11], [11, 12], [2, 3, 4, 5, 6, 10, 11, 12, 13], [2, 3, 4, 5, 6, 7, 8, 9, 10, 11, 12, 13, 14], [0, 1, 2, 3, 4, 5, 6, 7, 8, 9, 10, 11, 12, 13, 14, 15], [0, 1, 2, 3, 4, 5, 6, 7, 8, 9, 10, 11, 12, 13, 14, 15, 16], [0, 1, 2, 3, 4, 5, 6, 7, 8, 9, 10, 11, 12, 13, 14, 15, 16, 17]] (fun i own ys wx => match i with | 0 => own = .pointer (some ⟨B, 2, none⟩) | 1 => own = .slice (some ⟨b, off, none⟩) n c | 2 => own = .int .i64 y | 3 => own = .pointer (some ⟨B, 1, none⟩) | 4 => own = .int .i64 ph | 5 => own = .int .i64 (ph - 1) | 6 => own = .int .i64 cy | 7 => own = .pointer (some ⟨B, 0, none⟩) | 8 => own = .int .i64 pw | 9 => own = .int .i64 (cy * pw) | 10 => own = .int .i64 x | 11 => own = .pointer (some ⟨B, 0, none⟩) | 12 => own = .int .i64 pw | 13 => own = .int .i64 (pw - 1) | 14 => own = .int .i64 cx | 15 => own = .int .i64 (k : Nat) | 16 => own = .pointer (some ⟨b, off + k, none⟩) | 17 => own = .int .i64 (nth px k) | 18 => own = .int .i64 (nth px k) | _ => True) (fun kx wx => Ext w0 wx) (by kernel_rfl) (by kernel_rfl) (by kernel_rfl) ?g0_r1 ?gop_r1 ?gend_r1
 case g0_r1 => exact Ext.drewN _ 1
 case gop_r1 =>
  refine ⟨?_, ?o1, ?_, ?_, ?o4, ?o5, ?o6, ?_, ?o8, ?o9, ?_, ?_, ?o12, ?o13, ?o14, ?o15, ?o16, ?o17, ?o18, trivial⟩ <;> (intro kx xs wx hk hG hD hI Qo Kx hK hQo; simp only [patchS, Nat.reduceAdd, Nat.reduceEqDiff, ↓reduceIte] at hQo ⊢)
  case o1 =>
   have d0 : _ = _ := hD 0 rfl
   clear hD hI
   generalize xs 0 = y0 at *
   subst d0
   obtain ⟨-, k0, k1, k2, -⟩ := bx3 (hG.blk p0)
   go_wp2
   exact hK.out _ _ ⟨rfl, hG, fun _ _ _ _ _ _ h => h⟩
  case o4 =>
   have d3 : _ = _ := hD 3 rfl
   clear hD hI
   generalize xs 3 = y3 at *
   subst d3
   obtain ⟨-, k0, k1, k2, -⟩ := bx3 (hG.blk p0)
   go_wp2
   exact hK.out _ _ ⟨rfl, hG, fun _ _ _ _ _ _ h => h⟩
  case o5 =>
   have d4 : _ = _ := hD 4 rfl
   clear hD hI
   generalize xs 4 = y4 at *
   subst d4
   go_wp2
   exact hK.out _ _ ⟨rfl, hG, fun _ _ _ _ _ _ h => h⟩
  case o6 =>
   have d2 : _ = _ := hD 2 rfl
   have d5 : _ = _ := hD 5 rfl
   clear hD hI
   generalize xs 2 = y2 at *
   generalize xs 5 = y5 at *
   subst d2 d5
   go_wp2_with fail
   refine (clamp_any _ _ _ _ (by omega)).mono ?_
   rintro e w2 ⟨rfl, rfl⟩
   rw [← Hcy.out]
   go_wp2
   exact hK.out _ _ ⟨rfl, hG, fun _ _ _ _ _ _ h => h⟩
  case o8 =>
   have d7 : _ = _ := hD 7 rfl
   clear hD hI
   generalize xs 7 = y7 at *
   subst d7
   obtain ⟨-, k0, k1, k2, -⟩ := bx3 (hG.blk p0)
   go_wp2
   exact hK.out _ _ ⟨rfl, hG, fun _ _ _ _ _ _ h => h⟩
  case o9 =>
   have d6 : _ = _ := hD 6 rfl
   have d8 : _ = _ := hD 8 rfl
   clear hD hI
   generalize xs 6 = y6 at *
   generalize xs 8 = y8 at *
   subst d6 d8
   go_wp2
   exact hK.out _ _ ⟨rfl, hG, fun _ _ _ _ _ _ h => h⟩
  case o12 =>
   have d11 : _ = _ := hD 11 rfl
   clear hD hI
   generalize xs 11 = y11 at *
   subst d11
   obtain ⟨-, k0, k1, k2, -⟩ := bx3 (hG.blk p0)
   go_wp2
   exact hK.out _ _ ⟨rfl, hG, fun _ _ _ _ _ _ h => h⟩
  case o13 =>
   have d12 : _ = _ := hD 12 rfl
   clear hD hI
   generalize xs 12 = y12 at *
   subst d12
   go_wp2
   exact hK.out _ _ ⟨rfl, hG, fun _ _ _ _ _ _ h => h⟩
  case o14 =>
   have d10 : _ = _ := hD 10 rfl
   have d13 : _ = _ := hD 13 rfl
   clear hD hI
   generalize xs 10 = y10 at *
   generalize xs 13 = y13 at *
   subst d10 d13
   go_wp2_with fail
   refine (clamp_any _ _ _ _ (by omega)).mono ?_
   rintro e w2 ⟨rfl, rfl⟩
   rw [← Hcx.out]
   go_wp2
   exact hK.out _ _ ⟨rfl, hG, fun _ _ _ _ _ _ h => h⟩
  case o15 =>
   have d9 : _ = _ := hD 9 rfl
   have d14 : _ = _ := hD 14 rfl
   clear hD hI
   generalize xs 9 = y9 at *
   generalize xs 14 = y14 at *
   subst d9 d14
   have hkb : 0 ≤ cy * pw + cx ∧ cy * pw + cx ≤ 2000 := by omega
   go_wp2
   exact hK.out _ _ ⟨by rw [← Hk.out], hG, fun _ _ _ _ _ _ h => h⟩
  case o16 =>
   have d1 : _ = _ := hD 1 rfl
   have d15 : _ = _ := hD 15 rfl
   clear hD hI
   generalize xs 1 = y1 at *
   generalize xs 15 = y15 at *
   subst d1 d15
   go_wp2
   exact hK.out _ _ ⟨rfl, hG, fun _ _ _ _ _ _ h => h⟩
  case o17 =>
   have d16 : _ = _ := hD 16 rfl
   clear hD hI
   generalize xs 16 = y16 at *
   subst d16
   have hcc := cell_ext (E0.trans hG) Hc.out
   go_wp2
   exact hK.out _ _ ⟨rfl, hG, fun _ _ _ _ _ _ h => h⟩
  case o18 =>
   have d17 : _ = _ := hD 17 rfl
   clear hD hI
   generalize xs 17 = y17 at *
   subst d17
   go_wp2
   exact hK.out _ _ ⟨rfl, hG, fun _ _ _ _ _ _ h => h⟩
  all_goals
   clear hD hI
   go_wp2
   exact hK.out _ _ ⟨rfl, hG, fun _ _ _ _ _ _ h => h⟩
 intro xs wx hV hG
 have d18 : _ = _ := hV 18 (by decide)
 clear hV
 simp only [patchS, Nat.reduceAdd, Nat.reduceEqDiff, ↓reduceIte]
 generalize xs 0 = y0 at *
 generalize xs 1 = y1 at *
 generalize xs 2 = y2 at *
 generalize xs 3 = y3 at *
 generalize xs 4 = y4 at *
 generalize xs 5 = y5 at *
 generalize xs 6 = y6 at *
 generalize xs 7 = y7 at *
 generalize xs 8 = y8 at *
 generalize xs 9 = y9 at *
 generalize xs 10 = y10 at *
 generalize xs 11 = y11 at *
 generalize xs 12 = y12 at *
 generalize xs 13 = y13 at *
 generalize xs 14 = y14 at *
 generalize xs 15 = y15 at *
 generalize xs 16 = y16 at *
 generalize xs 17 = y17 at *
 generalize xs 18 = y18 at *
 replace hG : Ext w0 wx := hG
 subst d18
 go_wp2
 go_ret
 exact ⟨(ret_intH Hp).symm, E0.trans hG⟩
set_option maxRecDepth 100000 in
theorem l1At_any (p : Pic) (x y : Int) (a : Option Addr) (c n : Nat) (w : World) (hv : p.valid) (hn : n = p.px.length) (r : Sl w a n (p.px.map (Value.int .i64))) :
 Calls Tryz.prog 90 #[.agg #[.int .i64 p.w, .int .i64 p.h, .slice a n c], .int .i64 x, .int .i64 y] w fun e w' => e = .returned (.int .i64 (pat p x y)) ∧ Ext w w' := by
 have hi := pat_idx hv x y
 have hw := hv.1
 have hh := hv.2.1
 obtain ⟨w1, w2, -⟩ := hw
 obtain ⟨h1, h2, -⟩ := hh
 have Hp := Lib.hid (show pat p x y = nth p.px (clipI y 0 (p.h - 1) * p.w + clipI x 0 (p.w - 1)).toNat from rfl)
 have c1 := clipI_lo (n := y) (show (0 : Int) ≤ p.h - 1 by omega)
 have c2 := clipI_lo (n := x) (show (0 : Int) ≤ p.w - 1 by omega)
 obtain ⟨cy, hcy⟩ : ∃ cy, cy = clipI y 0 (p.h - 1) := ⟨_, rfl⟩
 obtain ⟨cx, hcx⟩ : ∃ cx, cx = clipI x 0 (p.w - 1) := ⟨_, rfl⟩
 rw [← hcy] at hi c1 Hp
 rw [← hcx] at hi c2 Hp
 have Hcy := Lib.hid hcy
 have Hcx := Lib.hid hcx
 clear hcy hcx
 have hk : (cy * p.w + cx).toNat < n := by omega
 obtain ⟨k, hk2⟩ : ∃ k : Nat, cy * p.w + cx = (k : Int) := ⟨(cy * p.w + cx).toNat, by omega⟩
 rw [hk2] at hi hk
 rw [hk2, Int.toNat_natCast] at Hp
 rw [Int.toNat_natCast] at hk
 have Hk := Lib.hid hk2
 clear hk2
 obtain ⟨b, off, rfl, hc⟩ := r.int hk
 have Hc := Lib.hid hc
 have p0 := blk_new w (.cells #[.int .i64 p.w, .int .i64 p.h, .slice (some ⟨b, off, none⟩) n c] 25)
 have E0 := Ext.alloc w (.cells #[.int .i64 p.w, .int .i64 p.h, .slice (some ⟨b, off, none⟩) n c] 25)
 have HN := Lib.hid hn
 obtain ⟨B, hB⟩ : ∃ B, B = w.heap.size := ⟨_, rfl⟩
 rw [← hB] at p0
 have HB := Lib.hid hB
 clear hn r hc hv
 go_enter Tryz.func90, Tryz.ntmps90
 go_wp2_with fail
 rw [← hB]
 clear hB
 generalize w.alloc (.cells #[.int .i64 p.w, .int .i64 p.h, .slice (some ⟨b, off, none⟩) n c] 25) = w0 at *
 obtain ⟨pw, ph, px⟩ := p
 simp only at *
 refine wp_region_inv2 (by kernel_rfl) [(6, 18), (7, 0), (8, 1), (9, 2), (10, 3), (11, 4), (12, 5), (13, 6), (14, 7), (15, 8), (16, 9), (17, 10), (18, 11), (19, 12), (20, 13), (21, 14), (22, 15), (23, 16), (24, 17)] [[], [0], [], [], [3], [3, 4], [2, 3, 4, 5], [], [7], [2, 3, 4, 5, 6, 7, 8], [], [], [11], [11, 12], [2, 3, 4, 5, 6, 10, 11, 12, 13], [2, 3, 4, 5, 6, 7, 8, 9, 10, 11, 12, 13, 14], [0, 1, 2, 3, 4, 5, 6, 7, 8, 9, 10, 11, 12, 13, 14, 15], [0, 1, 2, 3, 4, 5, 6, 7, 8, 9, 10, 11, 12, 13, 14, 15, 16], [0, 1, 2, 3, 4, 5, 6, 7, 8, 9, 10, 11, 12, 13, 14, 15, 16, 17]] (fun i own ys wx => match i with | 0 => own = .pointer (some ⟨B, 2, none⟩) | 1 => own = .slice (some ⟨b, off, none⟩) n c | 2 => own = .int .i64 y | 3 => own = .pointer (some ⟨B, 1, none⟩) | 4 => own = .int .i64 ph | 5 => own = .int .i64 (ph - 1) | 6 => own = .int .i64 cy | 7 => own = .pointer (some ⟨B, 0, none⟩) | 8 => own = .int .i64 pw | 9 => own = .int .i64 (cy * pw) | 10 => own = .int .i64 x | 11 => own = .pointer (some ⟨B, 0, none⟩) | 12 => own = .int .i64 pw | 13 => own = .int .i64 (pw - 1) | 14 => own = .int .i64 cx | 15 => own = .int .i64 (k : Nat) | 16 => own = .pointer (some ⟨b, off + k, none⟩) | 17 => own = .int .i64 (nth px k) | 18 => own = .int .i64 (nth px k) | _ => True) (fun kx wx => Ext w0 wx) (by kernel_rfl) (by kernel_rfl) (by kernel_rfl) ?g0_r2 ?gop_r2 ?gend_r2
 case g0_r2 => exact Ext.drewN _ 1
 case gop_r2 =>
  refine ⟨?_, ?o1, ?_, ?_, ?o4, ?o5, ?o6, ?_, ?o8, ?o9, ?_, ?_, ?o12, ?o13, ?o14, ?o15, ?o16, ?o17, ?o18, trivial⟩ <;> (intro kx xs wx hk hG hD hI Qo Kx hK hQo; simp only [patchS, Nat.reduceAdd, Nat.reduceEqDiff, ↓reduceIte] at hQo ⊢)
  case o1 =>
   have d0 : _ = _ := hD 0 rfl
   clear hD hI
   generalize xs 0 = y0 at *
   subst d0
   obtain ⟨-, k0, k1, k2, -⟩ := bx3 (hG.blk p0)
   go_wp2
   exact hK.out _ _ ⟨rfl, hG, fun _ _ _ _ _ _ h => h⟩
  case o4 =>
   have d3 : _ = _ := hD 3 rfl
   clear hD hI
   generalize xs 3 = y3 at *
   subst d3
   obtain ⟨-, k0, k1, k2, -⟩ := bx3 (hG.blk p0)
   go_wp2
   exact hK.out _ _ ⟨rfl, hG, fun _ _ _ _ _ _ h => h⟩
  case o5 =>
   have d4 : _ = _ := hD 4 rfl
   clear hD hI
   generalize xs 4 = y4 at *
   subst d4
   go_wp2
   exact hK.out _ _ ⟨rfl, hG, fun _ _ _ _ _ _ h => h⟩
  case o6 =>
   have d2 : _ = _ := hD 2 rfl
   have d5 : _ = _ := hD 5 rfl
   clear hD hI
   generalize xs 2 = y2 at *
   generalize xs 5 = y5 at *
   subst d2 d5
   go_wp2_with fail
   refine (l1Clip_any _ _ _ _).mono ?_
   rintro e w2 ⟨rfl, rfl⟩
   rw [← Hcy.out]
   go_wp2
   exact hK.out _ _ ⟨rfl, hG, fun _ _ _ _ _ _ h => h⟩
  case o8 =>
   have d7 : _ = _ := hD 7 rfl
   clear hD hI
   generalize xs 7 = y7 at *
   subst d7
   obtain ⟨-, k0, k1, k2, -⟩ := bx3 (hG.blk p0)
   go_wp2
   exact hK.out _ _ ⟨rfl, hG, fun _ _ _ _ _ _ h => h⟩
  case o9 =>
   have d6 : _ = _ := hD 6 rfl
   have d8 : _ = _ := hD 8 rfl
   clear hD hI
   generalize xs 6 = y6 at *
   generalize xs 8 = y8 at *
   subst d6 d8
   go_wp2
   exact hK.out _ _ ⟨rfl, hG, fun _ _ _ _ _ _ h => h⟩
  case o12 =>
   have d11 : _ = _ := hD 11 rfl
   clear hD hI
   generalize xs 11 = y11 at *
   subst d11
   obtain ⟨-, k0, k1, k2, -⟩ := bx3 (hG.blk p0)
   go_wp2
   exact hK.out _ _ ⟨rfl, hG, fun _ _ _ _ _ _ h => h⟩
  case o13 =>
   have d12 : _ = _ := hD 12 rfl
   clear hD hI
   generalize xs 12 = y12 at *
   subst d12
   go_wp2
   exact hK.out _ _ ⟨rfl, hG, fun _ _ _ _ _ _ h => h⟩
  case o14 =>
   have d10 : _ = _ := hD 10 rfl
   have d13 : _ = _ := hD 13 rfl
   clear hD hI
   generalize xs 10 = y10 at *
   generalize xs 13 = y13 at *
   subst d10 d13
   go_wp2_with fail
   refine (l1Clip_any _ _ _ _).mono ?_
   rintro e w2 ⟨rfl, rfl⟩
   rw [← Hcx.out]
   go_wp2
   exact hK.out _ _ ⟨rfl, hG, fun _ _ _ _ _ _ h => h⟩
  case o15 =>
   have d9 : _ = _ := hD 9 rfl
   have d14 : _ = _ := hD 14 rfl
   clear hD hI
   generalize xs 9 = y9 at *
   generalize xs 14 = y14 at *
   subst d9 d14
   have hkb : 0 ≤ cy * pw + cx ∧ cy * pw + cx ≤ 2000 := by omega
   go_wp2
   exact hK.out _ _ ⟨by rw [← Hk.out], hG, fun _ _ _ _ _ _ h => h⟩
  case o16 =>
   have d1 : _ = _ := hD 1 rfl
   have d15 : _ = _ := hD 15 rfl
   clear hD hI
   generalize xs 1 = y1 at *
   generalize xs 15 = y15 at *
   subst d1 d15
   go_wp2
   exact hK.out _ _ ⟨rfl, hG, fun _ _ _ _ _ _ h => h⟩
  case o17 =>
   have d16 : _ = _ := hD 16 rfl
   clear hD hI
   generalize xs 16 = y16 at *
   subst d16
   have hcc := cell_ext (E0.trans hG) Hc.out
   go_wp2
   exact hK.out _ _ ⟨rfl, hG, fun _ _ _ _ _ _ h => h⟩
  case o18 =>
   have d17 : _ = _ := hD 17 rfl
   clear hD hI
   generalize xs 17 = y17 at *
   subst d17
   go_wp2
   exact hK.out _ _ ⟨rfl, hG, fun _ _ _ _ _ _ h => h⟩
  all_goals
   clear hD hI
   go_wp2
   exact hK.out _ _ ⟨rfl, hG, fun _ _ _ _ _ _ h => h⟩
 intro xs wx hV hG
 have d18 : _ = _ := hV 18 (by decide)
 clear hV
 simp only [patchS, Nat.reduceAdd, Nat.reduceEqDiff, ↓reduceIte]
 generalize xs 0 = y0 at *
 generalize xs 1 = y1 at *
 generalize xs 2 = y2 at *
 generalize xs 3 = y3 at *
 generalize xs 4 = y4 at *
 generalize xs 5 = y5 at *
 generalize xs 6 = y6 at *
 generalize xs 7 = y7 at *
 generalize xs 8 = y8 at *
 generalize xs 9 = y9 at *
 generalize xs 10 = y10 at *
 generalize xs 11 = y11 at *
 generalize xs 12 = y12 at *
 generalize xs 13 = y13 at *
 generalize xs 14 = y14 at *
 generalize xs 15 = y15 at *
 generalize xs 16 = y16 at *
 generalize xs 17 = y17 at *
 generalize xs 18 = y18 at *
 replace hG : Ext w0 wx := hG
 subst d18
 go_wp2
 go_ret
 exact ⟨(ret_intH Hp).symm, E0.trans hG⟩
end Go.Proofs.YtbnhaegidfbgbaaGreatDoor
