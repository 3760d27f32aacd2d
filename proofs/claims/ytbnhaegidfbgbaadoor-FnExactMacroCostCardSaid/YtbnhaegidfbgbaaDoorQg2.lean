/- A region whose operations may come in any order: what each operation does, said by invariants. | The reader of drawn numbers: l20Open, pick, odd. | Drawing: the reader within regions; the draws of the first laws. | append(dst, src...) onto a row of the call's own, whatever the source. | The decisions for a number. | The decisions for a number: the reference. | Ranges over functions: entering and leaving a function that holds one. | Drawing: odd, buffers. | Macroblocks: their validity, plain; blocks within a bound; vectors. | Macroblocks: what is valid; the program's and the reference's tests. | Copies of macroblocks. | Drawing: vectors, blocks. | The runs in a block of levels: a range over a function; how many levels are not zero. -/
import Derived.Test.YtbnhaegidfbgbaaDoorQg1
import Derived.RegionTactic
import Derived.RangeFuncNested
import Derived.RangeFuncBound
import Derived.RangeFuncCalls
import Derived.RangeFuncLeaves
import Derived.Shelf.Abstract
import Derived.Shelf.RegionOpen
import Derived.WalkKit
import Derived.OwnWalkIn
import Derived.TacticsInMore
import Derived.LoopNIn
import Derived.LoopIn
import Derived.Deep.Cut
namespace Go.Proofs.YtbnhaegidfbgbaaDoor
open Go.RowKit
/-- The frame of a region: slot d holds xs i for each (d, i) of ds (ds ascends). -/
def patchS : Nat → List Value → List (Nat × Nat) → (Nat → Value) → List Value
 | _, [], _, _ => []
 | _, v :: l, [], _ => v :: l
 | p, v :: l, (d, i) :: ds, xs => if p = d then xs i :: patchS (p + 1) l ds xs else v :: patchS (p + 1) l ((d, i) :: ds) xs
def upd (xs : Nat → Value) (j : Nat) (v : Value) : Nat → Value := fun i => if i = j then v else xs i
def ascends : Nat → List (Nat × Nat) → Bool
 | _, [] => true
 | p, (d, _) :: ds => decide (p ≤ d) && ascends (d + 1) ds
theorem ascends_ge {p : Nat} : ∀ {ds : List (Nat × Nat)}, ascends p ds = true → ∀ x ∈ ds, p ≤ x.1
 | [], _, x, hx => by cases hx
 | (d, i) :: ds, ha, x, hx => by
  simp [ascends] at ha
  rcases List.mem_cons.1 hx with rfl | hx
  ·exact ha.1
  ·have := ascends_ge ha.2 x hx
   omega
theorem patchS_same (xs : Nat → Value) : ∀ (l : List Value) (p : Nat) (ds : List (Nat × Nat)), ascends p ds = true →
 (∀ x ∈ ds, x.1 < p + l.length → xs x.2 = l.getD (x.1 - p) undef) → patchS p l ds xs = l
 | [], p, ds, _, _ => by simp [patchS]
 | v :: l, p, [], _, _ => by simp [patchS]
 | v :: l, p, (d, i) :: ds, ha, h => by
  simp [ascends] at ha
  simp only [patchS]
  by_cases hp : p = d
  ·subst hp
   rw [if_pos rfl]
   have h1 := h (p, i) (by simp) (by simp)
   simp at h1
   rw [h1, patchS_same xs l (p + 1) ds ha.2 (fun x hx hlt => by
    have h2 := h x (by simp [hx]) (by simp; omega)
    have h3 := ascends_ge ha.2 x hx
    rw [h2, show x.1 - p = (x.1 - (p + 1)) + 1 by omega]
    simp)]
  ·rw [if_neg hp, patchS_same xs l (p + 1) ((d, i) :: ds) (by simp [ascends]; exact ⟨by omega, ha.2⟩) (fun x hx hlt => by
    have h2 := h x hx (by simp; omega)
    have h3 : p + 1 ≤ x.1 := by
     rcases List.mem_cons.1 hx with rfl | hx
     ·show p + 1 ≤ d; omega
     ·have := ascends_ge ha.2 x hx; omega
    rw [h2, show x.1 - p = (x.1 - (p + 1)) + 1 by omega]
    simp)]
theorem patchS_set (xs : Nat → Value) (v : Value) : ∀ (l : List Value) (p : Nat) (ds : List (Nat × Nat)) (d j : Nat), ascends p ds = true → (ds.map (·.2)).Nodup → (d, j) ∈ ds →
 (patchS p l ds xs).set (d - p) v = patchS p l ds (upd xs j v)
 | [], p, ds, d, j, _, _, _ => by simp [patchS]
 | u :: l, p, [], d, j, _, _, hm => by cases hm
 | u :: l, p, (e, i) :: ds, d, j, ha, hn, hm => by
  have ha' := ha
  simp [ascends] at ha
  simp only [List.map_cons, List.nodup_cons] at hn
  have rest : ∀ (q : Nat) (l : List Value) (ds : List (Nat × Nat)), j ∉ ds.map (·.2) → patchS q l ds (upd xs j v) = patchS q l ds xs := by
   intro q l
   induction l generalizing q with
   | nil => intro ds _; simp [patchS]
   | cons u l ih =>
    intro ds hj
    cases ds with
    | nil => simp [patchS]
    | cons e ds =>
     obtain ⟨e1, e2⟩ := e
     simp only [patchS]
     simp at hj
     have : upd xs j v e2 = xs e2 := by unfold upd; rw [if_neg (fun h => hj.1 h.symm)]
     rw [this, ih (q + 1) ds (by simpa using hj.2), ih (q + 1) ((e1, e2) :: ds) (by simpa using hj)]
  simp only [patchS]
  rcases List.mem_cons.1 hm with he | hm2
  ·simp only [Prod.mk.injEq] at he
   obtain ⟨rfl, rfl⟩ := he
   by_cases hp : p = d
   ·subst hp
    rw [if_pos rfl, if_pos rfl, Nat.sub_self, List.set_cons_zero, rest _ _ _ hn.1]
    simp [upd]
   ·rw [if_neg hp, if_neg hp, show d - p = (d - (p + 1)) + 1 by omega, List.set_cons_succ,
     patchS_set xs v l (p + 1) ((d, j) :: ds) d j (by simp [ascends]; exact ⟨by omega, ha.2⟩) (by simp [hn.2]; simpa using hn.1) (by simp)]
  ·have hge := ascends_ge ha.2 _ hm2
   have hji : j ≠ i := fun h => hn.1 (h ▸ List.mem_map.2 ⟨(d, j), hm2, rfl⟩)
   by_cases hp : p = e
   ·subst hp
    simp only at hge
    rw [if_pos rfl, if_pos rfl, show d - p = (d - (p + 1)) + 1 by omega, List.set_cons_succ, patchS_set xs v l (p + 1) ds d j ha.2 hn.2 hm2]
    have : upd xs j v i = xs i := by unfold upd; rw [if_neg (Ne.symm hji)]
    rw [this]
   ·simp only at hge
    rw [if_neg hp, if_neg hp, show d - p = (d - (p + 1)) + 1 by omega, List.set_cons_succ,
     patchS_set xs v l (p + 1) ((e, i) :: ds) d j (by simp [ascends]; exact ⟨by omega, ha.2⟩) (by simp [hn.2]; simpa using hn.1) (by simp [hm2])]
/-- One operation, run from the frame act: whatever comes next holds behind it. -/
def OpGoal (P : Program) (ops : Array Oper) (o : Oper) (act : Act) (w : World) (Post : Value → World → Prop) : Prop :=
 ∀ (Qo : Exit → Act → World → Prop) (K : Value → World → Prop), Hid (∀ v w', Post v w' → K v w') → (∀ v w', K v w' → Qo .normal (act.put o.dst v) w') → wpList P ops Qo [o] act w
theorem OpGoal.plain {P : Program} {ops : Array Oper} {o : Oper} {act : Act} {w : World} {Post : Value → World → Prop} (h : OpGoal P ops o act w Post) (Qo : Exit → Act → World → Prop) (hQ : ∀ v w', Post v w' → Qo .normal (act.put o.dst v) w') : wpList P ops Qo [o] act w :=
 h Qo Post (fun _ _ hp => hp) hQ
theorem wp_then {P : Program} {o : Oper} {a : Act} {w : World} {K K' : Act → World → Prop} {Q : Exit → Act → World → Prop} (h : o.wp P a w K (Exit.then K' Q)) : o.wp P a w K Q := by
 unfold Oper.wp at *
 generalize (execOp a.eval o).run P w = r at *
 cases r with
 | ok n w' => cases n <;> exact h
 | halt x w' => cases x <;> exact h
theorem wpOp_of_goal {P : Program} {ops : Array Oper} {Q : Exit → Act → World → Prop} {i : Nat} {o : Oper} {a : Act} {w : World} {K : Act → World → Prop} {Post : Value → World → Prop} (hi : ops[i]? = some o)
 (h : OpGoal P ops o a w Post) (hK : ∀ v w', Post v w' → K (a.put o.dst v) w') : wpOp P ops Q i K a w := by
 have h1 := h.plain (Exit.then K Q) (fun v w' hp => hK v w' hp)
 unfold wpOp
 simp only [hi]
 unfold wpList at h1
 by_cases hw : Region.wanted o (yielded ops a.tmps) = true
 ·rw [if_pos hw] at h1 ⊢
  rcases h1 with h1 | ⟨h2, h3⟩
  ·exact .inl (wp_then h1)
  ·exact .inr ⟨h2, h3⟩
 ·rw [if_neg hw] at h1 ⊢
  exact h1
/-- ds lists the slots that the operations write. -/
def dsOk (ol : List Oper) (ds : List (Nat × Nat)) (n : Nat) : Bool :=
 ascends 0 ds && ds.all (fun x => decide (x.1 < n) && ((ol[x.2]?).bind (·.dst) == some x.1)) && (ds.map (·.2)).Nodup &&
 (List.range ol.length).all (fun i => match (ol[i]?).bind (·.dst) with | some d => ds.contains (d, i) | none => true)
def direct (o : Oper) : List Nat := (o.after.toList.filter (Region.binds .any)).map (·.on)
/-- anc lists, of each operation, some that come before it in every order; every edge leads back. -/
def ancOk (ol : List Oper) (anc : List (List Nat)) : Bool :=
 anc.length == ol.length && (List.range ol.length).all fun i => match ol[i]? with
  | none => true
  | some o => (direct o).all (fun j => decide (j < i)) && (anc.getD i []).all fun j => (direct o).contains j || (direct o).any fun d => (anc.getD d []).contains j
/-- What every operation must do. -/
structure ObOk (P : Program) (ol : List Oper) (l : List Value) (df : List Deferred) (ds : List (Nat × Nat)) (anc : List (List Nat)) (V : Nat → (Nat → Value) → World → Prop) (G : Nat → World → Prop) (j : Nat) (o : Oper) : Prop where
 run : ∀ k xs w, k < ol.length → G k w → (∀ i, (anc.getD j []).contains i = true → V i xs w) → (∀ i d, (anc.getD i []).contains j = true → (ol.toArray[i]?).bind (·.dst) = some d → xs i = l.getD d undef) →
  OpGoal P ol.toArray o ⟨(patchS 0 l ds xs).toArray, df⟩ w (fun v w' => V j (upd xs j v) w' ∧ G (k + 1) w' ∧ ∀ i, i < ol.length → i ≠ j → (anc.getD i []).contains j = false → V i xs w → V i (upd xs j v) w')
theorem wp_region_inv {P : Program} {id : Nat} {ol : List Oper} {Q : Exit → Act → World → Prop} {l : List Value} {df : List Deferred} {w0 : World}
 (hm : P.follows .mixedOrders = true) (ds : List (Nat × Nat)) (anc : List (List Nat)) (V : Nat → (Nat → Value) → World → Prop) (G : Nat → World → Prop)
 (hds : dsOk ol ds l.length = true) (hanc : ancOk ol anc = true) (h0 : G 0 w0.drew)
 (hop : ∀ j o, ol[j]? = some o → ObOk P ol l df ds anc V G j o)
 (hend : ∀ xs w', (∀ i, i < ol.length → V i xs w') → G ol.length w' → Q .normal ⟨(patchS 0 l ds xs).toArray, df⟩ w') :
 (Code.region id ol.toArray true).wp P Q ⟨l.toArray, df⟩ w0 := by
 simp only [dsOk, Bool.and_eq_true, List.all_eq_true, decide_eq_true_eq, beq_iff_eq, List.mem_range] at hds
 obtain ⟨⟨⟨ha, hd1⟩, hnd⟩, hd2⟩ := hds
 simp only [ancOk, Bool.and_eq_true, List.all_eq_true, beq_iff_eq, List.mem_range] at hanc
 obtain ⟨hal, hanc⟩ := hanc
 -- the states that are met
 have key : ∀ (fuel : Nat) (listed : Array Bool) (xs : Nat → Value) (w : World), listed.size = ol.length → listed.toList.count true + fuel = ol.length →
  (∀ i, listed.getD i false = true → ∀ j, (anc.getD i []).contains j = true → listed.getD j false = true) →
  (∀ i, i < ol.length → listed.getD i false = true → V i xs w) → G (listed.toList.count true) w →
  (∀ i d, listed.getD i false = false → (ol.toArray[i]?).bind (·.dst) = some d → xs i = l.getD d undef) →
  wpAny P .any ol.toArray Q fuel listed ⟨(patchS 0 l ds xs).toArray, df⟩ w := by
  intro fuel
  have full : ∀ (listed : Array Bool), listed.size = ol.length → listed.toList.count true = ol.length → ∀ i, i < ol.length → listed.getD i false = true := by
   intro listed hs hc i hi
   have h1 : ∀ b ∈ listed.toList, true = b := List.count_eq_length.1 (by rw [hc]; simp [hs])
   have h2 := h1 listed[i] (by simp)
   simp [Array.getD, hs, hi, ← h2]
  have none_ready : ∀ (listed : Array Bool), listed.size = ol.length → listed.toList.count true < ol.length → Region.ready .any ol.toArray listed ≠ [] := by
   intro listed hs hc hr
   -- the least that is not listed
   have hex : ∃ i, i < ol.length ∧ listed.getD i false = false := by
    refine Classical.byContradiction fun hno => ?_
    have : listed.toList.count true = ol.length := by
     rw [← hs, ← Array.length_toList, List.count_eq_length]
     intro b hb
     obtain ⟨i, hi, rfl⟩ := List.getElem_of_mem hb
     simp at hi
     refine Classical.byContradiction fun hne => hno ⟨i, by omega, ?_⟩
     simp [Array.getD, hi]
     simpa using hne
    omega
   obtain ⟨i, ⟨hi, hli⟩, hmin⟩ := exists_least hex
   have : i ∈ Region.ready .any ol.toArray listed := by
    rw [mem_ready]
    refine ⟨?_, ol[i], by simp [hi], fun e he hb => ?_⟩
    ·simp [Array.getD, hs, hi] at hli ⊢; exact hli
    ·have h1 := (hanc i hi)
     simp only [List.getElem?_eq_getElem hi, Bool.and_eq_true, List.all_eq_true, decide_eq_true_eq] at h1
     have h2 := h1.1 e.on (List.mem_map.2 ⟨e, List.mem_filter.2 ⟨by simpa using he, hb⟩, rfl⟩)
     cases hle : listed.getD e.on false with
     | true => rfl
     | false => have := hmin e.on ⟨by omega, hle⟩; omega
   rw [hr] at this
   cases this
  induction fuel with
  | zero =>
   intro listed xs w hs hc hcl hV hG _
   have hf := full listed hs (by omega)
   refine ⟨?_, ?_⟩
   ·refine List.eq_nil_iff_forall_not_mem.2 fun i hi => ?_
    obtain ⟨h1, o, h2, -⟩ := mem_ready.1 hi
    have hlt : i < ol.length := by
     have := (Array.getElem?_eq_some_iff.1 h2).1
     simpa using this
    have := hf i hlt
    simp [Array.getD, hs, hlt] at this h1
    rw [this] at h1
    cases h1
   ·refine hend xs w (fun i hi => hV i hi (hf i hi)) ?_
    rw [show ol.length = listed.toList.count true by omega]
    exact hG
  | succ fuel ih =>
   intro listed xs w hs hc hcl hV hG hI
   refine ⟨fun hr => absurd hr (none_ready listed hs (by omega)), fun i hi => ?_⟩
   obtain ⟨h1, o, h2, h3⟩ := mem_ready.1 hi
   have hlt : i < ol.length := by
    have := (Array.getElem?_eq_some_iff.1 h2).1
    simpa using this
   have h2' : ol[i]? = some o := by simpa using h2
   have hun : listed.getD i false = false := by simp [Array.getD, hs, hlt] at h1 ⊢; exact h1
   have hA := hanc i hlt
   rw [h2'] at hA
   simp only [Bool.and_eq_true, List.all_eq_true, decide_eq_true_eq, Bool.or_eq_true, List.any_eq_true] at hA
   have dirL : ∀ d ∈ direct o, listed.getD d false = true := by
    intro d hd
    obtain ⟨e, he, rfl⟩ := List.mem_map.1 hd
    obtain ⟨he1, he2⟩ := List.mem_filter.1 he
    exact h3 e (by simpa using he1) he2
   have ancL : ∀ j, (anc.getD i []).contains j = true → listed.getD j false = true := by
    intro j hj
    rcases hA.2 j (by simpa using hj) with h | ⟨d, hd, h⟩
    ·exact dirL j (by simpa using h)
    ·exact hcl d (dirL d hd) j h
   have ltL : ∀ j, listed.getD j false = true → j < ol.length := by
    intro j hj
    refine Classical.byContradiction fun hge => ?_
    simp [Array.getD, show ¬ j < listed.size by omega] at hj
   have goal := (hop i o h2').run (listed.toList.count true) xs w (by omega) hG (fun j hj => hV j (ltL j (ancL j hj)) (ancL j hj)) (fun j d hj hd => hI j d (by
    cases hc2 : listed.getD j false with
    | false => rfl
    | true => have := hcl j hc2 i hj; rw [hun] at this; cases this) hd)
   refine wpOp_of_goal h2 goal fun v w' hp => ?_
   obtain ⟨hp1, hp2, hp3⟩ := hp
   have hcount : (listed.setIfInBounds i true).toList.count true = listed.toList.count true + 1 := by
    rw [Array.toList_setIfInBounds, List.count_set (by simp; omega)]
    have : listed.toList[i]'(by simp; omega) = false := by
     simp [Array.getD, hs, hlt] at hun
     simpa using hun
    simp [this]
   have hput : (⟨(patchS 0 l ds xs).toArray, df⟩ : Act).put o.dst v = ⟨(patchS 0 l ds (upd xs i v)).toArray, df⟩ := by
    cases hd : o.dst with
    | none =>
     have hni : i ∉ ds.map (·.2) := by
      intro hmem
      obtain ⟨x, hx, rfl⟩ := List.mem_map.1 hmem
      have := (hd1 x hx).2
      rw [h2'] at this
      simp [hd] at this
     have rest : ∀ (q : Nat) (l : List Value) (ds : List (Nat × Nat)), i ∉ ds.map (·.2) → patchS q l ds (upd xs i v) = patchS q l ds xs := by
      intro q l
      induction l generalizing q with
      | nil => intro ds _; simp [patchS]
      | cons u l ih2 =>
       intro ds hj
       cases ds with
       | nil => simp [patchS]
       | cons e ds =>
        obtain ⟨e1, e2⟩ := e
        simp only [patchS]
        simp at hj
        have : upd xs i v e2 = xs e2 := by unfold upd; rw [if_neg (fun h => hj.1 h.symm)]
        rw [this, ih2 (q + 1) ds (by simpa using hj.2), ih2 (q + 1) ((e1, e2) :: ds) (by simpa using hj)]
     rw [rest _ _ _ hni]
     rfl
    | some d =>
     have hmem : (d, i) ∈ ds := by
      have := hd2 i hlt
      rw [h2'] at this
      simpa [hd] using this
     have h5 := patchS_set xs v l 0 ds d i ha (by simpa using hnd) hmem
     simp only [Nat.sub_zero] at h5
     rw [← h5]
     simp [Act.put]
   rw [hput]
   refine ih _ _ _ (by simpa using hs) (by rw [hcount]; omega) ?_ ?_ (by rw [hcount]; exact hp2) (fun q d hq hd => ?_)
   rotate_right
   ·by_cases hqi : q = i
    ·subst hqi
     rw [Array.getD_eq_getD_getElem?, Array.getElem?_setIfInBounds, if_pos rfl, if_pos (by omega)] at hq
     simp at hq
    ·rw [getD_set_ne false (Ne.symm hqi)] at hq
     rw [show upd xs i v q = xs q by simp [upd, hqi]]
     exact hI q d hq hd
   ·intro q hq j hj
    by_cases hqi : q = i
    ·subst hqi
     exact getD_set_true (ancL j hj)
    ·rw [getD_set_ne false (Ne.symm hqi)] at hq
     exact getD_set_true (hcl q hq j hj)
   ·intro q hq hl
    by_cases hqi : q = i
    ·subst hqi; exact hp1
    ·rw [getD_set_ne false (Ne.symm hqi)] at hl
     refine hp3 q hq hqi ?_ (hV q hq hl)
     cases hc2 : (anc.getD q []).contains i with
     | false => rfl
     | true => have := hcl q hl i hc2; rw [hun] at this; cases this
 refine wp_region_any hm ?_
 have init := key ol.length (Array.replicate ol.length false) (fun i => (((ol[i]?).bind (·.dst)).map (fun d => l.getD d undef)).getD undef) w0.drew (by simp) (by simp [List.count_replicate]) (fun i hi => by simp [Array.getD] at hi) (fun i _ hi => by simp [Array.getD] at hi) (by simpa [List.count_replicate] using h0) (fun i d _ hd => by
  have hd' : (ol[i]?).bind (·.dst) = some d := by simpa using hd
  simp [hd'])
 have hsame := patchS_same (fun i => (((ol[i]?).bind (·.dst)).map (fun d => l.getD d undef)).getD undef) l 0 ds ha (fun x hx _ => by
  have := (hd1 x hx).2
  rw [this]
  simp)
 rw [hsame] at init
 simpa using init
/-- xs, as far as operation i may look: at what comes before it. -/
def mask (anc : List (List Nat)) (i : Nat) (xs : Nat → Value) : Nat → Value := fun q => if (anc.getD i []).contains q then xs q else undef
theorem mask_upd {anc : List (List Nat)} {i j : Nat} {xs : Nat → Value} {v : Value} (h : (anc.getD i []).contains j = false) : mask anc i (upd xs j v) = mask anc i xs := by
 funext q
 unfold mask upd
 by_cases hq : q = j
 ·subst hq; rw [if_neg (by rw [h]; simp), if_neg (by rw [h]; simp)]
 ·simp [hq]
/-- What operation j must do: own value v, what is kept of the others. -/
def Ob (P : Program) (n : Nat) (ops : Array Oper) (l : List Value) (df : List Deferred) (ds : List (Nat × Nat)) (anc : List (List Nat)) (W : Nat → Value → (Nat → Value) → World → Prop) (G : Nat → World → Prop) (j : Nat) (o : Oper) : Prop :=
 ∀ k xs w, k < n → G k w → (∀ i, (anc.getD j []).contains i = true → W i (xs i) (mask anc i xs) w) → (∀ i d, (anc.getD i []).contains j = true → (ops[i]?).bind (·.dst) = some d → xs i = l.getD d undef) →
  OpGoal P ops o ⟨(patchS 0 l ds xs).toArray, df⟩ w (fun v w' => W j v (mask anc j xs) w' ∧ G (k + 1) w' ∧ ∀ i, i < n → i ≠ j → (anc.getD i []).contains j = false → ∀ own ys, W i own ys w → W i own ys w')
def Obs (P : Program) (n : Nat) (ops : Array Oper) (l : List Value) (df : List Deferred) (ds : List (Nat × Nat)) (anc : List (List Nat)) (W : Nat → Value → (Nat → Value) → World → Prop) (G : Nat → World → Prop) : Nat → List Oper → Prop
 | _, [] => True
 | j, o :: os => Ob P n ops l df ds anc W G j o ∧ Obs P n ops l df ds anc W G (j + 1) os
theorem Obs.get {P : Program} {n : Nat} {ops : Array Oper} {l : List Value} {df : List Deferred} {ds : List (Nat × Nat)} {anc : List (List Nat)} {W : Nat → Value → (Nat → Value) → World → Prop} {G : Nat → World → Prop} :
 ∀ {os : List Oper} {p : Nat}, Obs P n ops l df ds anc W G p os → ∀ j o, os[j]? = some o → Ob P n ops l df ds anc W G (p + j) o
 | [], _, _, j, o, h => by simp at h
 | u :: os, p, h, j, o, hj => by
  cases j with
  | zero => simp at hj; subst hj; exact h.1
  | succ j =>
   simp at hj
   have := h.2.get j o hj
   rwa [show p + 1 + j = p + (j + 1) by omega] at this
theorem wp_region_inv2 {P : Program} {id : Nat} {ol : List Oper} {Q : Exit → Act → World → Prop} {l : List Value} {df : List Deferred} {w0 : World}
 (hm : P.follows .mixedOrders = true) (ds : List (Nat × Nat)) (anc : List (List Nat)) (W : Nat → Value → (Nat → Value) → World → Prop) (G : Nat → World → Prop)
 (hds : dsOk ol ds l.length = true) (hanc : ancOk ol anc = true) (hself : (List.range ol.length).all (fun i => !(anc.getD i []).contains i) = true) (h0 : G 0 w0.drew)
 (hop : Obs P ol.length ol.toArray l df ds anc W G 0 ol)
 (hend : ∀ xs w', (∀ i, i < ol.length → W i (xs i) (mask anc i xs) w') → G ol.length w' → Q .normal ⟨(patchS 0 l ds xs).toArray, df⟩ w') :
 (Code.region id ol.toArray true).wp P Q ⟨l.toArray, df⟩ w0 := by
 refine wp_region_inv hm ds anc (fun i xs w => W i (xs i) (mask anc i xs) w) G hds hanc h0 (fun j o hj => ⟨fun k xs w hk hG hD hI => ?_⟩) hend
 have h1 := hop.get j o hj
 rw [Nat.zero_add] at h1
 have hjl : j < ol.length := (List.getElem?_eq_some_iff.1 hj).1
 have hs : (anc.getD j []).contains j = false := by
  simp only [List.all_eq_true, List.mem_range] at hself
  simpa using hself j hjl
 have h2 := h1 k xs w hk hG hD hI
 intro Qo K hK hQo
 refine h2 Qo K (fun v w' ⟨p1, p2, p3⟩ => hK v w' ⟨?_, p2, fun i hi hne hc hV => ?_⟩) hQo
 ·rw [mask_upd hs, show upd xs j v j = v by simp [upd]]; exact p1
 ·rw [mask_upd hc, show upd xs j v i = xs i by simp [upd, hne]]; exact p3 i hi hne hc _ _ hV
/-- The order of the text: what each operation of a region that draws nothing does. -/
def ancAll (n : Nat) : List (List Nat) := (List.range n).map List.range
end Go.Proofs.YtbnhaegidfbgbaaDoor
namespace Go.Proofs.YtbnhaegidfbgbaaDoor
open Go.RowKit
set_option maxHeartbeats 400000
/-- Block b is a reader of some bytes, at position p. -/
def Rd (w : World) (b : Nat) (p : Nat) : Prop :=
 ∃ (a : Option Addr) (m c : Nat) (zs : List Int), w.heap[b]? = some (.cells #[.slice a m c, .int .i64 p] 109 (0, 0)) ∧ m ≤ 2000 ∧ Sl w a m (zs.map (Value.int .u8)) ∧ (m = 0 ∨ ∀ x, a = some x → x.block < b) ∧ ∀ z ∈ zs, 0 ≤ z ∧ z ≤ 255
theorem Rd.ext {w w' : World} {b p : Nat} (h : Rd w b p) (e : Ext w w') : Rd w' b p := by
 obtain ⟨a, m, c, zs, h1, h2, h3, h4⟩ := h
 exact ⟨a, m, c, zs, e.blk h1, h2, h3.ext e, h4⟩
theorem Rd.lt {w : World} {b p : Nat} (h : Rd w b p) : b < w.heap.size := by
 obtain ⟨a, m, c, zs, h1, -⟩ := h
 exact lt_of_block h1
theorem grown_set {w wx : World} {r : Option Nat} {q j : Nat} {v : Value} (g : w.grownBy wx r) (hq : w.heap.size ≤ q) : w.grownBy (wx.setCell ⟨q, j, none⟩ v) r :=
 ⟨g.os, g.tape, g.output, by simpa using g.size, fun i hi hne => by rw [heap_setCell_other wx ⟨q, j, none⟩ i v (by simp; omega)]; exact g.block i hi hne⟩
theorem Rd.set {w : World} {b p q j : Nat} {v : Value} (h : Rd w b p) (hq : b < q) : Rd (w.setCell ⟨q, j, none⟩ v) b p := by
 obtain ⟨a, m, c, zs, h1, h2, h3, h4, h5⟩ := h
 refine ⟨a, m, c, zs, blk_set_other h1 (by omega), h2, ?_, h4, h5⟩
 rcases h4 with h4 | h4
 ·subst h4; exact ⟨h3.1, fun i hi => by omega⟩
 ·have g : w.grownBy (w.setCell ⟨q, j, none⟩ v) (some q) := ⟨rfl, rfl, rfl, by simp, fun k _ hk => heap_setCell_other w ⟨q, j, none⟩ k _ (fun e => hk (by simp [e]))⟩
  exact h3.grown g (fun x hx e => by have := h4 x hx; simp at e; omega)
end Go.Proofs.YtbnhaegidfbgbaaDoor
namespace Go.Proofs.YtbnhaegidfbgbaaDoor
open Go.RowKit
set_option maxHeartbeats 400000
/-- Block b is a reader whose position is at most P. -/
def RdP (w : World) (b P : Nat) : Prop := ∃ q, q ≤ P ∧ Rd w b q
theorem RdP.ext {w w' : World} {b P : Nat} (h : RdP w b P) (e : Ext w w') : RdP w' b P := by
 obtain ⟨q, h1, h2⟩ := h; exact ⟨q, h1, h2.ext e⟩
theorem RdP.mono {w : World} {b P P' : Nat} (h : RdP w b P) (e : P ≤ P') : RdP w b P' := by
 obtain ⟨q, h1, h2⟩ := h; exact ⟨q, by omega, h2⟩
theorem RdP.drew {w : World} {b P : Nat} (h : RdP w b P) : RdP w.drew b P := h
theorem RdP.lt {w : World} {b P : Nat} (h : RdP w b P) : b < w.heap.size := by
 obtain ⟨q, h1, h2⟩ := h; exact h2.lt
/-- What holds in a region that draws with reader b, k operations in, C places each at the most. -/
def DG (w : World) (b P C k : Nat) (wx : World) : Prop := w.grownBy wx (some b) ∧ RdP wx b (P + k * C)
theorem DG.zero {w : World} {b P C : Nat} (h : RdP w b P) : DG w b P C 0 w.drew := ⟨⟨rfl, rfl, rfl, Nat.le_refl _, fun _ _ _ => rfl⟩, by rw [Nat.zero_mul, Nat.add_zero]; exact h⟩
theorem DG.step {w wx : World} {b P C k : Nat} (h : DG w b P C k wx) : DG w b P C (k + 1) wx := ⟨h.1, h.2.mono (by rw [Nat.succ_mul]; omega)⟩
theorem DG.ext {w wx wy : World} {b P C k : Nat} (h : DG w b P C k wx) (e : Ext wx wy) : DG w b P C (k + 1) wy := ⟨grown_ext h.1 e, (h.2.ext e).mono (by rw [Nat.succ_mul]; omega)⟩
theorem RdP.set {w : World} {b P q j : Nat} {v : Value} (h : RdP w b P) (hq : b < q) : RdP (w.setCell ⟨q, j, none⟩ v) b P := by
 obtain ⟨p, h1, h2⟩ := h; exact ⟨p, h1, h2.set hq⟩
theorem DG.set {w wx : World} {b P C k q j : Nat} {v : Value} (h : DG w b P C k wx) (hq : w.heap.size ≤ q) (hb : b < q) : DG w b P C k (wx.setCell ⟨q, j, none⟩ v) := ⟨grown_set h.1 hq, h.2.set hb⟩
theorem grown_drew {w wx : World} {r : Option Nat} (g : w.grownBy wx r) : w.grownBy wx.drew r := ⟨g.os, g.tape, g.output, g.size, fun i hi hne => g.block i hi hne⟩
theorem DG.drew {w wx : World} {b P C k : Nat} (h : DG w b P C k wx) : DG w b P C k wx.drew := ⟨grown_drew h.1, h.2.drew⟩
theorem ext_gr {w w' : World} {r : Option Nat} (e : Ext w w') : w.grownBy w' r := ⟨e.os, e.tape, e.output, e.size, fun k hk _ => e.block k hk⟩
/-- The same, with a fact of the world that draws do not touch. -/
def DGI (w : World) (b P C : Nat) (I : World → Prop) (k : Nat) (wx : World) : Prop := DG w b P C k wx ∧ I wx ∧ ∀ wa wb : World, wa.grownBy wb (some b) → I wa → I wb
theorem DGI.step {w wx : World} {b P C k : Nat} {I : World → Prop} (h : DGI w b P C I k wx) : DGI w b P C I (k + 1) wx := ⟨h.1.step, h.2⟩
theorem DGI.ext {w wx wy : World} {b P C k : Nat} {I : World → Prop} (h : DGI w b P C I k wx) (e : Ext wx wy) : DGI w b P C I (k + 1) wy := ⟨h.1.ext e, h.2.2 _ _ (ext_gr e) h.2.1, h.2.2⟩
theorem DGI.drew {w wx : World} {b P C k : Nat} {I : World → Prop} (h : DGI w b P C I k wx) : DGI w b P C I k wx.drew := ⟨h.1.drew, h.2.2 _ _ (ext_gr (Ext.drewN _ 1)) h.2.1, h.2.2⟩
/-- A list of n numbers in lo..hi, in a block of its own. -/
def SlR (w : World) (b : Nat) (v : Value) (n : Nat) (lo hi : Int) : Prop :=
 ∃ (g : Nat) (xs : List Int), v = .slice (some ⟨g, 0, none⟩) n n ∧ b ≤ g ∧ Sl w (some ⟨g, 0, none⟩) n (xs.map (Value.int .i64)) ∧ ∀ x ∈ xs, lo ≤ x ∧ x ≤ hi
theorem SlR.grown {w w' : World} {b B : Nat} {v : Value} {n : Nat} {lo hi : Int} (h : SlR w B v n lo hi) (e : w.grownBy w' (some b)) (hb : b < B) : SlR w' B v n lo hi := by
 obtain ⟨g, xs, h1, h2, h3, h4⟩ := h
 exact ⟨g, xs, h1, h2, h3.grown e (fun x hx he => by simp at hx he; rw [← hx] at he; simp at he; omega), h4⟩
theorem SlR.set {w : World} {B q j : Nat} {u : Value} {v : Value} {n : Nat} {lo hi : Int} (h : SlR w B v n lo hi) (hq : q < B) : SlR (w.setCell ⟨q, j, none⟩ u) B v n lo hi :=
 h.grown ⟨rfl, rfl, rfl, by simp, fun k _ hk => heap_setCell_other w ⟨q, j, none⟩ k _ (fun e => hk (by simp [e]))⟩ hq
/-- An address of a number in lo..hi. -/
def PtR (w : World) (b : Nat) (v : Value) (lo hi : Int) : Prop :=
 ∃ (g j : Nat) (y : Int), v = .pointer (some ⟨g, j, none⟩) ∧ b ≤ g ∧ w.cell? ⟨g, j, none⟩ = some (.int .i64 y) ∧ lo ≤ y ∧ y ≤ hi
theorem PtR.grown {w w' : World} {b B : Nat} {v : Value} {lo hi : Int} (h : PtR w B v lo hi) (e : w.grownBy w' (some b)) (hb : b < B) : PtR w' B v lo hi := by
 obtain ⟨g, j, y, h1, h2, h3, h4, h5⟩ := h
 exact ⟨g, j, y, h1, h2, e.cell h3 (by intro he; simp at he; omega), h4, h5⟩
theorem PtR.set {w : World} {B q j : Nat} {u : Value} {v : Value} {lo hi : Int} (h : PtR w B v lo hi) (hq : q < B) : PtR (w.setCell ⟨q, j, none⟩ u) B v lo hi :=
 h.grown ⟨rfl, rfl, rfl, by simp, fun k _ hk => heap_setCell_other w ⟨q, j, none⟩ k _ (fun e => hk (by simp [e]))⟩ hq
theorem cell_of_blk {w : World} {b : Nat} {arr : Array Value} {T : TypeId} {i : Nat} {v : Value} (h : w.heap[b]? = some (.cells arr T (0, 0))) (hi : arr[i]? = some v) : w.cell? ⟨b, i, none⟩ = some v := by
 simp [World.cell?, h, hi]
theorem Sl_new (w : World) (vs : List Value) (T : TypeId) : Sl (w.alloc (.cells vs.toArray T (0, 0))) (some ⟨w.heap.size, 0, none⟩) vs.length vs := by
 refine ⟨rfl, fun i hi => ⟨w.heap.size, 0, rfl, ?_⟩⟩
 exact cell_of_blk (blk_new _ _) (by simp [hi])
theorem SlR.at {w : World} {g b n : Nat} {l : List Int} {lo hi : Int} {i : Nat} (hne : b ≤ g) (s : Sl w (some ⟨g, 0, none⟩) n (l.map (Value.int .i64))) (h : ∀ x ∈ l, lo ≤ x ∧ x ≤ hi) (hi' : i < n) : PtR w b (.pointer (some ⟨g, i, none⟩)) lo hi := by
 obtain ⟨b', o', h1, h2⟩ := s.int hi'
 simp only [Option.some.injEq, Addr.mk.injEq, and_true] at h1
 obtain ⟨rfl, rfl⟩ := h1
 rw [Nat.zero_add] at h2
 have hl : i < l.length := by rw [s.int_len]; exact hi'
 have h3 := h (nth l i) (by rw [nth_eq _ _ hl]; exact List.getElem_mem hl)
 exact ⟨_, _, _, rfl, hne, h2, h3.1, h3.2⟩
end Go.Proofs.YtbnhaegidfbgbaaDoor
namespace Go.Proofs.YtbnhaegidfbgbaaDoor
open Go.RowKit
section
variable {P : Program} (w : World)
theorem run_app_nil (base : Nat) (t ty e : TypeId) (i : TypeInfo) (size : Nat) (ht : P.underlying t = some (.slice e)) (hi : P.info? e = some i)
 (v : Value) (n : Nat) (xs : List Value) (hown : w.ownsRow base e size v n xs) (c : Nat) : (Builtin.append_ #[t, t] ty #[v, .slice none 0 c]).run P w = .ok v w := by
 rcases hown.2 with ⟨rfl, rfl⟩ | ⟨g, cap, cur, rfl, _, _, hnc, _⟩
 ·simp [Builtin.append_, run_underlying ht, sizeOf, typeInfo, hi, Builtin.lenOf, Builtin.firstCells]
 ·simp [Builtin.append_, run_underlying ht, sizeOf, typeInfo, hi, Builtin.lenOf, Builtin.firstCells, hnc, storeCells]
theorem Sl.cellsOf {a : Addr} {m : Nat} {us : List Value} (h : Sl w (some a) m us) (hm : 0 < m) : ∀ j u, us[j]? = some u → w.cell? (a.add j) = some u := by
 intro j u hu
 have hj : j < us.length := (List.getElem?_eq_some_iff.1 hu).1
 obtain ⟨b, off, ha, hc⟩ := h.2 j (by rw [← h.1]; exact hj)
 simp only [Option.some.injEq] at ha
 subst ha
 rw [Addr.add_lit, hc]
 simp [List.getD, hu]
theorem wpList_apps {ops : Array Oper} {rest : List Oper} {o : Oper} {a : Act} {Q : Exit → Act → World → Prop} {base e : Nat} {v : Value} {n : Nat} {xs : List Value}
 (hown : w.ownsRow base e 1 v n xs) (hbase : base ≤ w.heap.size)
 (hg : o.guard = none) (s x : Operand) (t : TypeId) (ho : o.op = .call { callee := .builtin .append, args := #[s, x], argTypes := #[t, t] })
 (z : Value) (bytes : Nat) (h1 : P.underlying t = some (.slice e)) (h2 : (P.info? e).map (fun i => (i.zero, i.size, i.bytes)) = some (some z, 1, bytes)) (hz1 : z.cells.size = 1)
 (hs : a.eval s = v) (A : Option Addr) (m c : Nat) (us : List Value) (hx : a.eval x = .slice A m c) (src : Sl w A m us) (hu1 : ∀ u ∈ us, u.oneCell' = true)
 (hb : (n + m) * bytes ≤ 140737488355328) (hn : n + m < 2 ^ 62)
 (h : ∀ v' w', w'.ownsRow base e 1 v' (n + m) (xs ++ us) → w.grownBy w' v.ownBlock → wpList P ops Q rest (a.put o.dst v') w') : wpList P ops Q (o :: rest) a w := by
 obtain ⟨i0, hi, hz0, hz1', hz2⟩ := info_parts h2
 cases A with
 | none =>
  have hm : m = 0 := by
   refine Classical.byContradiction fun h0 => ?_
   obtain ⟨b, off, ha, -⟩ := src.2 0 (by omega)
   cases ha
  subst hm
  have hus : us = [] := List.eq_nil_of_length_eq_zero src.1
  subst hus
  refine wpList_plain hg fun _ hK => ?_
  have hrun := run_app_nil (P := P) w base t o.type e i0 1 h1 hi v n xs hown c
  unfold Oper.wp execOp
  simp only [ho, resolve, invoke, builtin, Sem.run_bind, Sem.run_pure, Result.andThen_ok, List.map_toArray, List.map_cons, List.map_nil, hs, hx, hrun]
  exact hK _ _ (h v w (by simpa using hown) (World.grownBy.refl w _))
 | some ad =>
  refine wpList_append_own _ hg s x t ho base e i0 z 1 bytes h1 hi hz0 hz1' hz2 hz1 (by decide) v n xs hs hown ad m c us hx (by rw [src.1]; omega) ?_ hu1 (by unfold maxLen; omega) hb hbase ?_
  ·by_cases hm : 0 < m
   ·exact src.cellsOf _ hm
   ·have hus : us = [] := List.eq_nil_of_length_eq_zero (by rw [src.1]; omega)
    subst hus
    intro j u hj
    simp at hj
  ·intro v' w' a1 a2 _
   exact h v' w' a1 a2
end
end Go.Proofs.YtbnhaegidfbgbaaDoor
namespace Go.Proofs.YtbnhaegidfbgbaaDoor
open Go.RowKit
set_option maxHeartbeats 1000000
theorem info_Bin : (Tryd.prog.info? 141).map (fun i => (i.zero, i.size, i.bytes)) = some (some (.agg #[.int .i64 0, .int .i64 0]), 2, 16) := by kernel_rfl
theorem bin_new (w : World) (c b : Int) : Sl (w.alloc (.cells #[.int .i64 c, .int .i64 b] 141)) (some ⟨w.heap.size, 0, none⟩) 2 [.int .i64 c, .int .i64 b] := Sl_new w [.int .i64 c, .int .i64 b] 141
theorem i64_and_one (a : Nat) (ha : a < 9223372036854775808) : bits .and .i64 (a : Int) 1 = ((a % 2 : Nat) : Int) := by
 show IntKind.i64.wrap ((BitVec.ofInt 64 (a : Int) &&& BitVec.ofInt 64 ((1 : Nat) : Int)).toNat : Int) = _
 rw [BitVec.toNat_and, i64_nat_ofInt a ha, i64_nat_ofInt 1 (by decide), Nat.and_one_is_mod, IntKind.wrap_i64]
 omega
theorem ownc {w : World} {b e s n : Nat} {v : Value} {xs ys : List Value} (h : w.ownsRow b e s v n xs) (he : xs = ys) : w.ownsRow b e s v n ys := he ▸ h
set_option maxRecDepth 100000 in
theorem appendNumber_any (v : Value) (N : Nat) (xs : List Int) (n b B : Nat) (w : World) (own : w.ownsRow B 141 2 v N (xs.map (Value.int .i64))) (hB : B ≤ w.heap.size) (hN : N ≤ 1000000) (hn : n < 32768) (hb : b ≤ 100) :
 Calls Tryd.prog 146 #[v, .int .i64 n, .int .i64 b] w fun e w' => ∃ a c, e = .returned (.slice a (N + numN n) c) ∧ w'.ownsRow B 141 2 (.slice a (N + numN n) c) (N + numN n) ((xs ++ numL n b).map (Value.int .i64)) ∧ FR B 141 w w' := by
 obtain ⟨k, hk⟩ : ∃ k, k = kOf n := ⟨_, rfl⟩
 have hk15 := kOf_le hn
 have hbl := bitLen_of (kOf_lo n) (kOf_hi n) (by omega)
 rw [← hk] at hk15 hbl
 have HK := Lib.hid (show numL n b = upL b k (k + 1) ++ dnL (n + 1) b k k by rw [hk]; rfl)
 have HKN := Lib.hid (show numN n = 2 * k + 1 by rw [hk]; rfl)
 have hw : IntKind.u64.wrap ((n : Int) + 1) = ((n + 1 : Nat) : Int) := by rw [IntKind.wrap_u64]; omega
 have F0 := FR.refl B 141 w
 clear hk
 go_enter Tryd.func146, Tryd.ntmps146
 go_wp2_with fail
 refine (len_in ((n : Int) + 1) _ (by omega) (by omega)).mono ?_
 rintro e w1 ⟨rfl, rfl⟩
 rw [show ((n : Int) + 1).toNat = n + 1 by omega, hbl]
 clear hbl hw
 have hkk : ((k + 1 : Nat) : Int) - 1 = k := by omega
 go_wp2_with fail
 go_loopw [0, 18] (fun v y wr => ∃ i : Nat, i ≤ k + 1 ∧ y = .int .i64 i ∧ wr.ownsRow B 141 2 v (N + i) ((xs ++ upL b k i).map (Value.int .i64)) ∧ FR B 141 w wr) (fun _ y _ => k + 1 - (intOf y).toNat)
 case atStart => exact ⟨0, by omega, rfl, by simpa [upL] using own, F0⟩
 case round =>
  obtain ⟨i, hi, rfl, o1, F1⟩ := hrel
  clear own F0
  obtain ⟨a1, c1, rfl⟩ := owns_form o1
  have hB1 := Nat.le_trans hB F1.size
  by_cases hlt : i < k + 1
  ·have hd : decide ((i : Int) < (k : Int) + 1) = true := by simp; omega
   by_cases hik : i = k
   ·subst hik
    have HNX := Lib.hid (show upL b i (i + 1) = upL b i i ++ [(b : Int) + min (i : Int) 5, 0] by rw [upL, if_pos rfl]; congr 2; omega)
    have hd2 : ((i : Int) == (i : Int)) = true := by simp
    go_wp2_with (at_builtin; go_loud (refine wpList_appk _ rfl (o1.alloc _) (by simp; omega) _ _ 129 rfl (.agg #[.int .i64 0, .int .i64 0]) 16 Tryd.underlying129 info_Bin rfl (by decide) rfl ⟨wr.heap.size, 0, none⟩ 1 1 [.int .i64 _, .int .i64 _] rfl rfl ((bin_new wr _ _).cellsOf _ (by simp)) (by intro u hu; simp at hu; rcases hu with rfl | rfl <;> rfl) (by omega) (by omega) ?_; intro v2 w2 own2 gr2 _; refine Hid.out ?_))
    all_goals
     refine Lib.hid ?_
     obtain ⟨a2, c2, rfl⟩ := owns_form own2
     have F2 := (F1.trans (FR.of_ext (Ext.alloc wr (.cells #[_, _] 141)) hB1)).trans (FR.of_row (o1.alloc _) gr2 (by simp; omega))
     go_wp2
     go_roundw
     case rel => exact ⟨i + 1, by omega, by go_num, ownc own2 (by rw [HNX.out]; simp), F2⟩
     case measure => simp [intOf] <;> omega
   ·have HNX := Lib.hid (show upL b k (i + 1) = upL b k i ++ [(b : Int) + min (i : Int) 5, 1] by rw [upL, if_neg hik]; congr 2; omega)
    have hd2 : ((i : Int) == (k : Int)) = false := by simp; omega
    go_wp2_with (at_builtin; go_loud (refine wpList_appk _ rfl (o1.alloc _) (by simp; omega) _ _ 129 rfl (.agg #[.int .i64 0, .int .i64 0]) 16 Tryd.underlying129 info_Bin rfl (by decide) rfl ⟨wr.heap.size, 0, none⟩ 1 1 [.int .i64 _, .int .i64 _] rfl rfl ((bin_new wr _ _).cellsOf _ (by simp)) (by intro u hu; simp at hu; rcases hu with rfl | rfl <;> rfl) (by omega) (by omega) ?_; intro v2 w2 own2 gr2 _; refine Hid.out ?_))
    all_goals
     refine Lib.hid ?_
     obtain ⟨a2, c2, rfl⟩ := owns_form own2
     have F2 := (F1.trans (FR.of_ext (Ext.alloc wr (.cells #[_, _] 141)) hB1)).trans (FR.of_row (o1.alloc _) gr2 (by simp; omega))
     go_wp2
     go_roundw
     case rel => exact ⟨i + 1, by omega, by go_num, ownc own2 (by rw [HNX.out]; simp), F2⟩
     case measure => simp [intOf] <;> omega
  ·have HI := Lib.hid (show i = k + 1 by omega)
   have hd : decide ((i : Int) < (k : Int) + 1) = false := by simp; omega
   go_wp2_with fail
   go_loopw [0, 10] (fun v y wr => ∃ J : Nat, J ≤ k ∧ y = .int .i64 ((J : Int) - 1) ∧ wr.ownsRow B 141 2 v (N + (k + 1) + (k - J)) ((xs ++ upL b k (k + 1) ++ dnL (n + 1) b k (k - J)).map (Value.int .i64)) ∧ FR B 141 w wr) (fun _ y _ => ((intOf y) + 1).toNat)
   case atStart => exact ⟨k, by omega, rfl, by have hI := HI.out; subst hI; simpa [dnL] using o1, F1⟩
   case round =>
    obtain ⟨J, hJ, rfl, o3, F3⟩ := hrel
    clear o1 F1 hi hlt hd
    obtain ⟨a3, c3, rfl⟩ := owns_form o3
    have hB3 := Nat.le_trans hB F3.size
    cases J with
    | zero =>
     have hd3 : decide ((0 : Int) ≤ ((0 : Nat) : Int) - 1) = false := by simp
     have hc : N + (k + 1) + (k - 0) = N + numN n := by rw [HKN.out]; omega
     have ho := Lib.hid (show (xs ++ upL b k (k + 1) ++ dnL (n + 1) b k (k - 0)) = xs ++ numL n b by rw [HK.out, ← List.append_assoc]; rfl)
     rw [hc] at o3 ⊢
     rw [ho.out] at o3
     clear hc
     go_wp2
     go_ret
     exact ⟨_, _, rfl, o3, F3⟩
    | succ J' =>
     rw [show (((J' + 1 : Nat) : Int) - 1) = (J' : Int) by omega]
     have hd3 : decide ((0 : Int) ≤ (J' : Int)) = true := by simp
     have hq : ((n : Int) + 1) / 2 ^ J' = (((n + 1) / 2 ^ J' : Nat) : Int) := by simp
     have hand := i64_and_one ((n + 1) / 2 ^ J') (by have := Nat.div_le_self (n + 1) (2 ^ J'); omega)
     rw [← hq] at hand
     clear hq
     have hkJ : k - (J' + 1) + 1 = k - J' := by omega
     have HNX := Lib.hid (show dnL (n + 1) b k (k - J') = dnL (n + 1) b k (k - (J' + 1)) ++ [(b : Int) + 6, (((n + 1) / 2 ^ J' % 2 : Nat) : Int)] by rw [← hkJ, dnL, show k - 1 - (k - (J' + 1)) = J' by omega]; congr 2)
     have HC := Lib.hid (show N + (k + 1) + (k - (J' + 1)) + 1 = N + (k + 1) + (k - J') by omega)
     clear hkJ
     go_wp2_with (at_builtin; go_loud (refine wpList_appk _ rfl (o3.alloc _) (by simp; omega) _ _ 129 rfl (.agg #[.int .i64 0, .int .i64 0]) 16 Tryd.underlying129 info_Bin rfl (by decide) rfl ⟨wr.heap.size, 0, none⟩ 1 1 [.int .i64 _, .int .i64 _] rfl rfl ((bin_new wr _ _).cellsOf _ (by simp)) (by intro u hu; simp at hu; rcases hu with rfl | rfl <;> rfl) (by omega) (by omega) ?_; intro v2 w2 own2 gr2 _; refine Hid.out ?_))
     refine Lib.hid ?_
     obtain ⟨a2, c2, rfl⟩ := owns_form own2
     have F2 := (F3.trans (FR.of_ext (Ext.alloc wr (.cells #[_, _] 141)) hB3)).trans (FR.of_row (o3.alloc _) gr2 (by simp; omega))
     rw [HC.out] at own2 ⊢
     have own3 := ownc own2 (show _ = (xs ++ upL b k (k + 1) ++ dnL (n + 1) b k (k - J')).map (Value.int .i64) by rw [HNX.out]; simp)
     clear own2 hand
     go_wp2
     go_roundw
     case rel => exact ⟨J', by omega, by go_num, own3, F2⟩
     case measure => simp [intOf] <;> omega
end Go.Proofs.YtbnhaegidfbgbaaDoor
namespace Go.Proofs.YtbnhaegidfbgbaaDoor
open Go.RowKit
set_option maxHeartbeats 1000000
theorem upL_one {b k : Nat} {i : Nat} (h : i < k) : upL b k (i + 1) = upL b k i ++ [(b : Int) + min (i : Int) 5, 1] := by
 rw [upL, if_neg (by omega)]; congr 2; omega
theorem upL_zero (b k : Nat) : upL b k (k + 1) = upL b k k ++ [(b : Int) + min (k : Int) 5, 0] := by
 rw [upL, if_pos rfl]; congr 2; omega
theorem pow_le15 {i : Nat} (h : i ≤ 15) : 2 ^ (i + 1) ≤ 65536 := Nat.pow_le_pow_right (by decide) (show i + 1 ≤ 16 by omega)
set_option maxRecDepth 100000 in
theorem l10Number_any (n b : Nat) (w : World) (hn : n < 32768) (hb : b ≤ 100) :
 Calls Tryd.prog 138 #[.int .i64 n, .int .i64 b] w fun e w' => ∃ a c, e = .returned (.slice a (numN n) c) ∧ w'.ownsRow w.heap.size 141 2 (.slice a (numN n) c) (numN n) ((numL n b).map (Value.int .i64)) ∧ Ext w w' := by
 obtain ⟨k, hk⟩ : ∃ k, k = kOf n := ⟨_, rfl⟩
 have hk15 := kOf_le hn
 have hlo := kOf_lo n
 have hhi := kOf_hi n
 rw [← hk] at hk15 hlo hhi
 have HK := Lib.hid (show numL n b = upL b k (k + 1) ++ dnL (n + 1) b k k by rw [hk]; rfl)
 have HKN := Lib.hid (show numN n = 2 * k + 1 by rw [hk]; rfl)
 have HLO := Lib.hid hlo
 have HHI := Lib.hid hhi
 obtain ⟨W, hW⟩ : ∃ W, W = w.heap.size := ⟨_, rfl⟩
 have F0 : FR w.heap.size 141 w (w.alloc (.cells #[] 141)) := FR.of_ext (Ext.alloc w _) (Nat.le_refl _)
 have o0 := World.ownsRow_made (base := w.heap.size) (e := 141) (size := 2) w #[] 0 (Nat.le_refl _) (by simp) rfl
 rw [← hW] at F0 o0 ⊢
 have hWw : W ≤ w.heap.size := by omega
 have HW := Lib.hid hW
 clear hk hlo hhi
 go_enter Tryd.func138, Tryd.ntmps138
 go_wp2_with fail
 rw [← hW]
 clear hW
 go_loopw [5, 6] (fun v y wr => ∃ i : Nat, i ≤ k ∧ y = .int .i64 i ∧ wr.ownsRow W 141 2 v i ((upL b k i).map (Value.int .i64)) ∧ FR W 141 w wr) (fun _ y _ => k - (intOf y).toNat)
 case atStart => exact ⟨0, by omega, rfl, by simpa [upL] using o0, F0⟩
 case round =>
  obtain ⟨i, hi, rfl, o1, F1⟩ := hrel
  clear o0 F0
  obtain ⟨a1, c1, rfl⟩ := owns_form o1
  have hB1 := Nat.le_trans hWw F1.size
  have hp := pow_le15 (show i ≤ 15 by omega)
  have hpi : (2 : Int) ^ (i + 1) = ((2 ^ (i + 1) : Nat) : Int) := by simp
  have hp0 := Nat.pow_pos (show 0 < 2 by decide) (n := i + 1)
  have hsh : wrap64 (2 * 2 ^ i) = (2 : Int) ^ (i + 1) := by
   have e : (2 : Int) * 2 ^ i = 2 ^ (i + 1) := by rw [Int.pow_succ, Int.mul_comm]
   rw [e, hpi]; unfold wrap64; omega
  have HPI := Lib.hid hpi
  clear hpi
  by_cases hlt : i < k
  ·have hd : decide ((2 : Int) ^ (i + 1) ≤ (n : Int) + 1) = true := by
    have := Nat.pow_le_pow_right (show 0 < 2 by decide) (show i + 1 ≤ k by omega)
    have := HLO.out
    rw [HPI.out]
    simp only [decide_eq_true_eq]; omega
   have HNX := Lib.hid (upL_one (b := b) hlt)
   go_wp2_with (at_builtin; go_loud (refine wpList_appk _ rfl (o1.alloc _) (by simp; omega) _ _ 129 rfl (.agg #[.int .i64 0, .int .i64 0]) 16 Tryd.underlying129 info_Bin rfl (by decide) rfl ⟨wr.heap.size, 0, none⟩ 1 1 [.int .i64 _, .int .i64 _] rfl rfl ((bin_new wr _ _).cellsOf _ (by simp)) (by intro u hu; simp at hu; rcases hu with rfl | rfl <;> rfl) (by omega) (by omega) ?_; intro v2 w2 own2 gr2 _; refine Hid.out ?_))
   refine Lib.hid ?_
   obtain ⟨a2, c2, rfl⟩ := owns_form own2
   have F2 := (F1.trans (FR.of_ext (Ext.alloc wr (.cells #[_, _] 141)) hB1)).trans (FR.of_row (o1.alloc _) gr2 (by simp; omega))
   have own3 := ownc own2 (show _ = (upL b k (i + 1)).map (Value.int .i64) by rw [HNX.out]; simp)
   clear own2 hsh
   go_wp2
   go_roundw
   case rel => exact ⟨i + 1, by omega, by go_num, own3, F2⟩
   case measure => simp [intOf] <;> omega
  ·have HI := Lib.hid (show i = k by omega)
   have hd : decide ((2 : Int) ^ (i + 1) ≤ (n : Int) + 1) = false := by
    have := HHI.out
    rw [HPI.out, HI.out]
    simp only [decide_eq_false_iff_not]; omega
   go_wp2_with (at_builtin; go_loud (refine wpList_appk _ rfl (o1.alloc _) (by simp; omega) _ _ 129 rfl (.agg #[.int .i64 0, .int .i64 0]) 16 Tryd.underlying129 info_Bin rfl (by decide) rfl ⟨wr.heap.size, 0, none⟩ 1 1 [.int .i64 _, .int .i64 _] rfl rfl ((bin_new wr _ _).cellsOf _ (by simp)) (by intro u hu; simp at hu; rcases hu with rfl | rfl <;> rfl) (by omega) (by omega) ?_; intro v2 w2 own2 gr2 _; refine Hid.out ?_))
   refine Lib.hid ?_
   obtain ⟨a2, c2, rfl⟩ := owns_form own2
   have F2 := (F1.trans (FR.of_ext (Ext.alloc wr (.cells #[_, _] 141)) hB1)).trans (FR.of_row (o1.alloc _) gr2 (by simp; omega))
   have own3 := ownc own2 (show _ = (upL b k (k + 1)).map (Value.int .i64) by rw [upL_zero, HI.out]; simp)
   clear own2 hsh hd o1 F1 hlt hi
   go_wp2_with fail
   go_loopw [5, 7] (fun v y wr => ∃ J : Nat, J ≤ k ∧ y = .int .i64 ((J : Int) - 1) ∧ wr.ownsRow W 141 2 v (k + 1 + (k - J)) ((upL b k (k + 1) ++ dnL (n + 1) b k (k - J)).map (Value.int .i64)) ∧ FR W 141 w wr) (fun _ y _ => ((intOf y) + 1).toNat)
   case atStart => exact ⟨k, by omega, by rw [HI.out]; congr 1; unfold wrap64; omega, by have hI := HI.out; subst hI; simpa [dnL] using own3, F2⟩
   case round =>
    obtain ⟨J, hJ, rfl, o3, F3⟩ := hrel
    clear own3 F2
    obtain ⟨a3, c3, rfl⟩ := owns_form o3
    have hB3 := Nat.le_trans hWw F3.size
    cases J with
    | zero =>
     have hd3 : decide ((0 : Int) ≤ ((0 : Nat) : Int) - 1) = false := by simp
     have hc : k + 1 + (k - 0) = numN n := by rw [HKN.out]; omega
     have ho := Lib.hid (show (upL b k (k + 1) ++ dnL (n + 1) b k (k - 0)) = numL n b by rw [HK.out]; rfl)
     rw [hc] at o3 ⊢
     rw [ho.out] at o3
     clear hc
     go_wp2
     go_ret
     exact ⟨_, _, rfl, o3, by show Below w.heap.size w wr; rw [← HW.out]; exact F3.lo⟩
    | succ J' =>
     rw [show (((J' + 1 : Nat) : Int) - 1) = (J' : Int) by omega]
     have hd3 : decide ((0 : Int) ≤ (J' : Int)) = true := by simp
     have hq : ((n : Int) + 1) / 2 ^ J' = (((n + 1) / 2 ^ J' : Nat) : Int) := by simp
     have hkJ : k - (J' + 1) + 1 = k - J' := by omega
     have HNX := Lib.hid (show dnL (n + 1) b k (k - J') = dnL (n + 1) b k (k - (J' + 1)) ++ [(b : Int) + 6, ((n : Int) + 1) / 2 ^ J' % 2] by rw [← hkJ, dnL, show k - 1 - (k - (J' + 1)) = J' by omega]; congr 2)
     have HC := Lib.hid (show k + 1 + (k - (J' + 1)) + 1 = k + 1 + (k - J') by omega)
     have HTM := Lib.hid (show (((n : Int) + 1) / 2 ^ J').tmod 2 = ((n : Int) + 1) / 2 ^ J' % 2 from Int.tmod_eq_emod_of_nonneg (hq ▸ Int.natCast_nonneg _))
     clear hkJ hq
     go_wp2_with (at_builtin; go_loud (refine wpList_appk _ rfl (o3.alloc _) (by simp; omega) _ _ 129 rfl (.agg #[.int .i64 0, .int .i64 0]) 16 Tryd.underlying129 info_Bin rfl (by decide) rfl ⟨wr.heap.size, 0, none⟩ 1 1 [.int .i64 _, .int .i64 _] rfl rfl ((bin_new wr _ _).cellsOf _ (by simp)) (by intro u hu; simp at hu; rcases hu with rfl | rfl <;> rfl) (by omega) (by omega) ?_; intro v2 w2 own2 gr2 _; refine Hid.out ?_))
     refine Lib.hid ?_
     obtain ⟨a2, c2, rfl⟩ := owns_form own2
     have F2 := (F3.trans (FR.of_ext (Ext.alloc wr (.cells #[_, _] 141)) hB3)).trans (FR.of_row (o3.alloc _) gr2 (by simp; omega))
     rw [HC.out] at own2 ⊢
     have own3 := ownc own2 (show _ = (upL b k (k + 1) ++ dnL (n + 1) b k (k - J')).map (Value.int .i64) by rw [HNX.out]; simp; exact HTM.out)
     clear own2
     go_wp2
     go_roundw
     case rel => exact ⟨J', by omega, by go_num, own3, F2⟩
     case measure => simp [intOf] <;> omega
end Go.Proofs.YtbnhaegidfbgbaaDoor
namespace Go.Proofs.YtbnhaegidfbgbaaDoor
open Go.RowKit
/-- A function's contract from its body, where the body holds a range over a function: walked as any other. -/
theorem calls_of_marks (n : Nat) {P : Program} {f : FuncId} {fn : Func} {c : Code} {args : Array Value} {w : World} {R : Ending → World → Prop}
 (hf : P.funcs[f]? = some fn) (hb : fn.body = some c)
 (h : c.wp P (bodyPostM Fence.wide n P fn R) { tmps := args ++ Array.replicate (fn.ntmps - args.size) undef, defers := [] } w) : Calls P f args w R :=
 callsIn_wide.1 (callsIn_of_wp_marks (n := n) hf hb trivial (wpIn_wide.2 h))
/-- What is turned at the return lies at or behind the loop's start. -/
theorem ext_putObj {a W : World} {D : Nat} (h : Ext a W) (hD : a.heap.size ≤ D) (o : Obj) : Ext a (W.putObj D o) := Ext.grown h (grownBy_putObj' W D o) (fun k e => by cases e; exact hD)
def keepB (b : Nat) (W W' : World) : Prop := W'.heap[b]? = W.heap[b]?
theorem keepB.t {b : Nat} {A B C : World} (h : keepB b A B) (k : keepB b B C) : keepB b A C := k.trans h
theorem keepB.b {b n : Nat} (hb : b < n) (W : World) (l : Nat) (o o' : Obj) (hl : n ≤ l) (_ : W.heap[l]? = some o) (_ : o.isCells = false) (_ : o.isWalk = false) : keepB b W (W.putObj l o') := World.putObj_heap_other (by omega)
end Go.Proofs.YtbnhaegidfbgbaaDoor
namespace Go.Proofs.YtbnhaegidfbgbaaDoor
open Go.RowKit
set_option maxHeartbeats 400000
end Go.Proofs.YtbnhaegidfbgbaaDoor
namespace Go.Proofs.YtbnhaegidfbgbaaDoor
open Go.RowKit
set_option maxHeartbeats 400000
/-- Every number is in -B..B. -/
def inB (B : Int) (zs : List Int) : Bool := zs.all fun z => decide (-B ≤ z) && decide (z ≤ B)
theorem inB_yes {B : Int} {zs : List Int} (h : ∀ j, j < zs.length → -B ≤ nth zs j ∧ nth zs j ≤ B) : inB B zs = true := by
 unfold inB
 rw [List.all_eq_true]
 intro z hz
 obtain ⟨j, hj, rfl⟩ := List.getElem_of_mem hz
 have := h j hj
 rw [nth_eq zs j hj] at this
 simp [this]
theorem inB_no {B : Int} {zs : List Int} {j : Nat} (hj : j < zs.length) (h : nth zs j < -B ∨ B < nth zs j) : inB B zs = false := by
 unfold inB
 rw [List.all_eq_false]
 refine ⟨zs[j], List.getElem_mem hj, ?_⟩
 rw [nth_eq zs j hj] at h
 simp
 omega
theorem inB_iff {B : Int} {zs : List Int} : inB B zs = true ↔ ∀ j, j < zs.length → -B ≤ nth zs j ∧ nth zs j ≤ B := by
 constructor
 ·intro h j hj
  refine Classical.byContradiction fun hn => ?_
  rw [inB_no hj (by omega)] at h
  cases h
 ·exact inB_yes
theorem size_A16 : (Tryd.prog.info? 31).map (·.size) = some 16 := by kernel_rfl
theorem size_int : (Tryd.prog.info? 3).map (·.size) = some 1 := by kernel_rfl
set_option maxRecDepth 100000 in
theorem impl_blockWithin_any (zs : List Int) (B : Int) (w : World) (hl : zs.length = 16) (hB : 0 ≤ B) (hB2 : B ≤ 1099511627776) :
 Calls Tryd.prog 58 #[.agg (ic zs), .int .i64 B] w fun e w' => e = .returned (.bool (inB B zs)) ∧ Ext w w' := by
 have H := IB.new w 31 zs
 have hsa := sub_all zs 16 hl
 have Hl := Lib.hid hl
 clear hl
 go_enter Tryd.func58, Tryd.ntmps58
 go_wp2_with (refine wpList_iload 31 _ rfl rfl H 0 16 rfl _ Tryd.underlying31 rfl size_A16 (by rw [Hl.out]; omega) _ (by rw [hsa]) ?_)
 go_loopw [8] (fun i wr => ∃ k : Nat, k ≤ 16 ∧ i = .int .i64 k ∧ Ext w wr ∧ Hid (∀ j, j < k → -B ≤ nth zs j ∧ nth zs j ≤ B)) (fun i _ => 16 - (intOf i).toNat)
 case atStart => exact ⟨0, by omega, rfl, Ext.alloc _ _, Lib.hid (fun j hj => by omega)⟩
 case round =>
  obtain ⟨k, hk, rfl, E2, hall⟩ := hrel
  clear H hsa
  by_cases hlt : k < 16
  ·by_cases h1 : nth zs k < -B
   ·have hno := Lib.hid (inB_no (B := B) (by rw [Hl.out]; exact hlt) (.inl h1))
    go_wp2_with (refine wpList_iindex _ _ _ rfl rfl zs rfl k 16 _ rfl rfl _ Tryd.underlying31 Tryd.underlying3 size_int hlt Hl.out ?_)
    go_ret
    exact ⟨(ret_bool hno.out).symm, E2⟩
   ·have hd1 : decide (nth zs k < -B) = false := by simpa using h1
    by_cases h2 : B < nth zs k
    ·have hno := Lib.hid (inB_no (B := B) (by rw [Hl.out]; exact hlt) (.inr h2))
     go_wp2_with (refine wpList_iindex _ _ _ rfl rfl zs rfl k 16 _ rfl rfl _ Tryd.underlying31 Tryd.underlying3 size_int hlt Hl.out ?_)
     go_ret
     exact ⟨(ret_bool hno.out).symm, E2⟩
    ·have hd2 : decide (B < nth zs k) = false := by simpa using h2
     have hall2 := Lib.hid (show ∀ j, j < k + 1 → -B ≤ nth zs j ∧ nth zs j ≤ B from fun j hj => by
      by_cases hjk : j = k
      ·subst hjk; omega
      ·exact hall.out j (by omega))
     go_wp2_with (refine wpList_iindex _ _ _ rfl rfl zs rfl k 16 _ rfl rfl _ Tryd.underlying31 Tryd.underlying3 size_int hlt Hl.out ?_)
     go_roundw
     case rel => exact ⟨k + 1, by omega, by go_num, E2, hall2⟩
     case measure => simp [intOf]; omega
  ·obtain rfl : k = 16 := by omega
   have hy := Lib.hid (inB_yes (B := B) (zs := zs) (by rw [Hl.out]; exact hall.out))
   go_wp2
   go_ret
   exact ⟨(ret_bool hy.out).symm, E2⟩
end Go.Proofs.YtbnhaegidfbgbaaDoor
namespace Go.Proofs.YtbnhaegidfbgbaaDoor
open Go.RowKit
set_option maxHeartbeats 400000
structure Mac where
 kind : Int
 x : Int
 y : Int
 modes : List Int
 lv : List Int
/-- Four modes, four blocks of sixteen levels. -/
structure Mac.ok (m : Mac) : Prop where
 modes : m.modes.length = 4
 lv : m.lv.length = 64
/-- The 71 integers of a macroblock. -/
def Mac.zs (m : Mac) : List Int := m.kind :: m.x :: m.y :: (m.modes ++ m.lv)
def mac0 : Mac := ⟨0, 0, 0, List.replicate 4 0, List.replicate 64 0⟩
theorem Mac.zs_len {m : Mac} (h : m.ok) : m.zs.length = 71 := by simp [Mac.zs, h.modes, h.lv]
theorem Mac.zs_kind (m : Mac) : nth m.zs 0 = m.kind := rfl
theorem Mac.zs_x (m : Mac) : nth m.zs 1 = m.x := rfl
theorem Mac.zs_y (m : Mac) : nth m.zs 2 = m.y := rfl
theorem Mac.zs_mv {m : Mac} : ic (sub m.zs 1 2) = #[.int .i64 m.x, .int .i64 m.y] := rfl
theorem Mac.zs_modes {m : Mac} (h : m.ok) : sub m.zs 3 4 = m.modes := by
 simp only [Mac.zs, sub, List.drop_succ_cons, List.drop_zero]
 rw [List.take_append_of_le_length (by rw [h.modes]; exact Nat.le_refl _), List.take_of_length_le (by rw [h.modes]; exact Nat.le_refl _)]
theorem Mac.zs_lv {m : Mac} (h : m.ok) : sub m.zs 7 64 = m.lv := by
 simp only [Mac.zs, sub, List.drop_succ_cons]
 rw [List.drop_append_of_le_length (by rw [h.modes]; exact Nat.le_refl _), List.drop_of_length_le (by rw [h.modes]; exact Nat.le_refl _), List.nil_append, List.take_of_length_le (by rw [h.lv]; exact Nat.le_refl _)]
theorem Mac.zs_blk {m : Mac} (h : m.ok) (k : Nat) (hk : k < 4) : sub m.zs (7 + k * 16) 16 = sub m.lv (k * 16) 16 := by
 rw [← Mac.zs_lv h, sub_sub _ _ _ _ _ (by omega)]
theorem Mac.nth_mode {m : Mac} (h : m.ok) (k : Nat) (hk : k < 4) : nth m.zs (3 + k) = nth m.modes k := by
 rw [← Mac.zs_modes h, nth_sub _ _ _ _ hk]
def zero4 : List Int := List.replicate 4 0
def zero64 : List Int := List.replicate 64 0
/-- What MacroValid asks. -/
def Mac.valid (m : Mac) : Prop := (0 ≤ m.kind ∧ m.kind ≤ 2) ∧ (-16 ≤ m.x ∧ m.x ≤ 16 ∧ -16 ≤ m.y ∧ m.y ≤ 16) ∧ (m.kind ≠ 1 → m.x = 0 ∧ m.y = 0) ∧ (m.kind ≠ 2 → m.modes = zero4) ∧ (m.kind = 2 → ∀ j, j < 4 → 0 ≤ nth m.modes j ∧ nth m.modes j ≤ 4) ∧ (m.kind = 0 → m.lv = zero64) ∧ inB 4080 m.lv = true
noncomputable instance (m : Mac) : Decidable m.valid := Classical.propDecidable _
/-- Blocks of sixteen: all within the bound. -/
theorem inB_blocks {B : Int} {zs : List Int} (h : zs.length = 64) : inB B zs = true ↔ ∀ k, k < 4 → inB B (sub zs (k * 16) 16) = true := by
 constructor
 ·intro hb k hk
  refine inB_yes fun j hj => ?_
  rw [sub_len _ _ _ (by omega)] at hj
  rw [nth_sub _ _ _ _ hj]
  exact inB_iff.1 hb _ (by omega)
 ·intro hb
  refine inB_yes fun j hj => ?_
  have h1 := inB_iff.1 (hb (j / 16) (by omega)) (j % 16) (by rw [sub_len _ _ _ (by omega)]; omega)
  rw [nth_sub _ _ _ _ (by omega), show j / 16 * 16 + j % 16 = j by omega] at h1
  exact h1
theorem nth_zero4 {j : Nat} (h : j < 4) : nth zero4 j = 0 := by
 match j, h with
 | 0, _ => rfl
 | 1, _ => rfl
 | 2, _ => rfl
 | 3, _ => rfl
section
variable {P : Program}
theorem wpList_veql {ops : Array Oper} {rest : List Oper} {o : Oper} {a : Act} {w : World} {Q : Exit → Act → World → Prop} (t : TypeId) (x y : Operand) (t2 : TypeId) (ho : o.op = .binOp .eql t x y t2) (hgd : Region.wanted o (yielded ops a.tmps) = true)
 (cs ds : Array Value) (hx : a.eval x = .agg cs) (hy : a.eval y = .agg ds) (r : Bool) (hrun : ∀ w, (Op.equalIn 10000 t (.agg cs) (.agg ds)).run P w = .ok r w) (hm : P.eqGuardType P.depth t = false)
 (hK : wpList P ops Q rest (a.put o.dst (.bool r)) w) : wpList P ops Q (o :: rest) a w := by
 refine wpList_wanted hgd fun _ hK' => ?_
 unfold Oper.wp execOp
 simp [ho, hx, hy, Sem.run_bind, run_eqGuard_agg w .eql t x y _ _ hm, run_eql_struct w t, hrun, Result.andThen]
 exact hK' _ _ hK
theorem wpList_vneq {ops : Array Oper} {rest : List Oper} {o : Oper} {a : Act} {w : World} {Q : Exit → Act → World → Prop} (t : TypeId) (x y : Operand) (t2 : TypeId) (ho : o.op = .binOp .neq t x y t2) (hgd : Region.wanted o (yielded ops a.tmps) = true)
 (cs ds : Array Value) (hx : a.eval x = .agg cs) (hy : a.eval y = .agg ds) (r : Bool) (hrun : ∀ w, (Op.equalIn 10000 t (.agg cs) (.agg ds)).run P w = .ok r w) (hm : P.eqGuardType P.depth t = false)
 (hK : wpList P ops Q rest (a.put o.dst (.bool (!r))) w) : wpList P ops Q (o :: rest) a w := by
 refine wpList_wanted hgd fun _ hK' => ?_
 unfold Oper.wp execOp
 simp [ho, hx, hy, Sem.run_bind, run_eqGuard_agg w .neq t x y _ _ hm, run_neq_struct w t, hrun, Result.andThen]
 exact hK' _ _ (by simpa using hK)
end
/-- A valid vector. -/
def vv (x y : Int) : Prop := -16 ≤ x ∧ x ≤ 16 ∧ -16 ≤ y ∧ y ≤ 16
set_option maxRecDepth 100000 in
theorem vec_eq (x y : Int) (r : Bool) (hr : decide (x = 0 ∧ y = 0) = r) (w : World) : (Op.equalIn 10000 27 (.agg #[.int .i64 x, .int .i64 y]) (.agg #[.int .i64 0, .int .i64 0])).run Tryd.prog w = .ok r w := by
 have hf : Tryd.prog.underlying 27 = some (.struct (Tryd.prog.fieldsOf 27)) := by kernel_rfl
 have hp : Tryd.prog.stoodInHeld 27 = false := by kernel_rfl
 subst hr
 rw [run_equalIn_struct w 9999 _ _ _ hf hp]
 have hag : (isAgg 3).run Tryd.prog w = .ok false w := by
  unfold isAgg
  rw [Sem.run_bind, run_underlying Tryd.underlying3 w]
  simp
 have p1 : ∀ (u v : Int), (part 3 #[.int .i64 u, .int .i64 v] 0).run Tryd.prog w = .ok (.int .i64 u) w := fun u v => by simp [part, Sem.run_bind, hag]
 have p2 : ∀ (u v : Int), (part 3 #[.int .i64 u, .int .i64 v] 1).run Tryd.prog w = .ok (.int .i64 v) w := fun u v => by simp [part, Sem.run_bind, hag]
 have q : ∀ (u v : Int), (Op.equalIn 9999 3 (.int .i64 u) (.int .i64 v)).run Tryd.prog w = .ok (u == v) w := fun u v => run_equalIn_int w 9998 _ _ _ _ _ Tryd.underlying3
 simp only [Program.fieldsOf, Tryd.underlying27, Op.eqFields, Sem.run_bind, p1, p2, q, Result.andThen_ok]
 by_cases hx : x = 0
 ·subst hx
  by_cases hy : y = 0
  ·subst hy; simp [p1, p2, q, Result.andThen]
  ·simp [p1, p2, q, Result.andThen, hy]
 ·simp [p1, p2, q, Result.andThen, hx]
theorem guard_Vector : Tryd.prog.eqGuardType Tryd.prog.depth 27 = false := by kernel_rfl
theorem guard_A4 : Tryd.prog.eqGuardType Tryd.prog.depth 30 = false := by kernel_rfl
theorem guard_A16A4 : Tryd.prog.eqGuardType Tryd.prog.depth 32 = false := by kernel_rfl
theorem size_A4 : (Tryd.prog.info? 30).map (·.size) = some 4 := by kernel_rfl
theorem size_A16A4 : (Tryd.prog.info? 32).map (·.size) = some 64 := by kernel_rfl
theorem size_Vector : (Tryd.prog.info? 27).map (·.size) = some 2 := by kernel_rfl
theorem size_Macro : (Tryd.prog.info? 34).map (·.size) = some 71 := by kernel_rfl
theorem zero_A4 : (Tryd.prog.info? 30).map (·.zero) = some (some (.agg (ic (List.replicate 4 0)))) := by kernel_rfl
theorem zero_A16A4 : (Tryd.prog.info? 32).map (·.zero) = some (some (.agg (ic (List.replicate 64 0)))) := by kernel_rfl
theorem eqE_int : EqE Tryd.prog 3 1 9999 := EqE.int Tryd.underlying3 9998
theorem eqE_A16 : EqE Tryd.prog 31 16 9999 := EqE.arr (n := 16) Tryd.underlying31 size_int size_A16 (EqE.int Tryd.underlying3 9997)
theorem impl_VectorValid_yes (x y : Int) (w : World) (h : vv x y) :
 Calls Tryd.prog 40 #[.agg #[.int .i64 x, .int .i64 y]] w fun e w' => e = .returned (.bool true) ∧ Ext w w' := by
 obtain ⟨h1, h2, h3, h4⟩ := h
 go_enter Tryd.func40, Tryd.ntmps40
 go_wp2
 go_ret
 exact ⟨by first | rfl | (simp; done) | (simp; omega), Ext.alloc _ _⟩
theorem impl_VectorValid_no (x y : Int) (w : World) (h : ¬ vv x y) :
 Calls Tryd.prog 40 #[.agg #[.int .i64 x, .int .i64 y]] w fun e w' => e = .returned (.bool false) ∧ Ext w w' := by
 unfold vv at h
 by_cases h1 : -16 ≤ x
 ·by_cases h2 : x ≤ 16
  ·by_cases h3 : -16 ≤ y
   ·have h4 : ¬ y ≤ 16 := fun h4 => h ⟨h1, h2, h3, h4⟩
    clear h
    go_enter Tryd.func40, Tryd.ntmps40
    go_wp2
    go_ret
    exact ⟨by first | rfl | (simp; done) | (simp; omega), Ext.alloc _ _⟩
   ·clear h
    go_enter Tryd.func40, Tryd.ntmps40
    go_wp2
    go_ret
    exact ⟨by first | rfl | (simp; done) | (simp; omega), Ext.alloc _ _⟩
  ·clear h
   go_enter Tryd.func40, Tryd.ntmps40
   go_wp2
   go_ret
   exact ⟨by first | rfl | (simp; done) | (simp; omega), Ext.alloc _ _⟩
 ·clear h
  go_enter Tryd.func40, Tryd.ntmps40
  go_wp2
  go_ret
  exact ⟨by first | rfl | (simp; done) | (simp; omega), Ext.alloc _ _⟩
end Go.Proofs.YtbnhaegidfbgbaaDoor
namespace Go.Proofs.YtbnhaegidfbgbaaDoor
open Go.RowKit
set_option maxHeartbeats 400000
/-- The first k of xs, behind them what ys has. -/
def mixI (xs ys : List Int) (k : Nat) : List Int := xs.take k ++ ys.drop k
theorem mixI_zero (xs ys : List Int) : mixI xs ys 0 = ys := by simp [mixI]
theorem mixI_len (xs ys : List Int) (k n : Nat) (h1 : xs.length = n) (h2 : ys.length = n) : (mixI xs ys k).length = n := by simp [mixI]; omega
theorem mixI_all (xs ys : List Int) (n : Nat) (h1 : xs.length = n) (h2 : ys.length = n) : mixI xs ys n = xs := by
 unfold mixI
 rw [List.take_of_length_le (by omega), List.drop_of_length_le (by omega), List.append_nil]
theorem mixI_set (xs ys : List Int) (k n : Nat) (h1 : xs.length = n) (h2 : ys.length = n) (h : k < n) : (mixI xs ys k).set k (nth xs k) = mixI xs ys (k + 1) := by
 have hl : (xs.take k).length = k := by simp; omega
 have hk' : k < ys.length := by omega
 have hk : k < xs.length := by omega
 unfold mixI
 rw [List.drop_eq_getElem_cons hk', List.set_append_right _ _ (by omega), hl, Nat.sub_self, List.set_cons_zero, List.take_succ_eq_append_getElem hk, nth_eq _ _ hk, List.append_assoc]
 rfl
theorem mixI_spl (xs ys : List Int) (k m n : Nat) (h1 : xs.length = n) (h2 : ys.length = n) (h : k + m ≤ n) : spl (mixI xs ys k) k (sub xs k m) = mixI xs ys (k + m) := by
 have hs := sub_len xs k m (by omega)
 have hl := mixI_len xs ys k n h1 h2
 refine ext_nth (by rw [spl_len (by omega), hl, mixI_len _ _ _ n h1 h2]) fun j hj => ?_
 have hm : ∀ q i, i < n → nth (mixI xs ys q) i = if i < q then nth xs i else nth ys i := by
  intro q i hi
  unfold mixI nth
  by_cases hiq : i < q
  ·rw [if_pos hiq, List.getD_eq_getElem?_getD, List.getElem?_append_left (by simp; omega), List.getElem?_take_of_lt hiq, ← List.getD_eq_getElem?_getD]
  ·rw [if_neg hiq, List.getD_eq_getElem?_getD]
   by_cases hqn : q ≤ n
   ·rw [List.getElem?_append_right (by simp; omega), List.getElem?_drop, ← List.getD_eq_getElem?_getD]
    congr 1
    simp; omega
   ·omega
 have hjn : j < n := by rw [spl_len (by omega), hl] at hj; exact hj
 rw [hm _ _ hjn]
 by_cases h3 : k ≤ j ∧ j < k + m
 ·rw [nth_spl_in (by omega) h3.1 (by omega), nth_sub _ _ _ _ (by omega), if_pos (by omega)]
  congr 1; omega
 ·rw [nth_spl_out (by omega) (by omega), hm _ _ hjn]
  by_cases h4 : j < k
  ·rw [if_pos h4, if_pos (by omega)]
  ·rw [if_neg h4, if_neg (by omega)]
set_option maxRecDepth 100000 in
theorem toIntA4_any (zs : List Int) (w : World) (hl : zs.length = 4) :
 Calls Tryd.prog 65 #[.agg (ic zs)] w fun e w' => e = .returned (.agg (ic zs)) ∧ Ext w w' := by
 have Hl := Lib.hid hl
 clear hl
 go_enter Tryd.func65, Tryd.ntmps65
 go_wp2
 have a1 := Ext.alloc w (.cells (ic zs) 30)
 have a2 := Ext.alloc (w.alloc (.cells (ic zs) 30)) (.cells (ic (List.replicate 4 0)) 30)
 have a3 := Ext.alloc ((w.alloc (.cells (ic zs) 30)).alloc (.cells (ic (List.replicate 4 0)) 30)) (.cells (ic (List.replicate 4 0)) 30)
 have p0 := ((IB.new w 30 zs).ext a2).ext a3
 have p1 := (IB.new (w.alloc (.cells (ic zs) 30)) 30 (List.replicate 4 0)).ext a3
 have p2 := IB.new ((w.alloc (.cells (ic zs) 30)).alloc (.cells (ic (List.replicate 4 0)) 30)) 30 (List.replicate 4 0)
 have E1 := (a1.trans a2).trans a3
 simp only [World.size_alloc] at p1 p2
 clear a1 a2 a3
 go_loopw [4] (fun i wr => ∃ k : Nat, k ≤ 4 ∧ i = .int .i64 k ∧ Ext w wr ∧ IB wr w.heap.size 30 zs ∧ IB wr (w.heap.size + 1) 30 (List.replicate 4 0) ∧ IB wr (w.heap.size + 1 + 1) 30 (mixI zs (List.replicate 4 0) k)) (fun i _ => 4 - (intOf i).toNat)
 case atStart => exact ⟨0, by omega, rfl, E1, p0, p1, by rw [mixI_zero]; exact p2⟩
 case round =>
  obtain ⟨k, hk, rfl, E2, q0, q1, q2⟩ := hrel
  clear p0 p1 p2 E1
  by_cases hlt : k < 4
  ·have c0 := q0.cell (i := k) (by rw [Hl.out]; exact hlt)
   have c2 := q2.cell (i := k) (by rw [mixI_len _ _ _ 4 Hl.out (by simp)]; exact hlt)
   have f2 := q2.frozen k
   go_wp2
   go_roundw
   case rel => exact ⟨k + 1, by omega, by go_num, Ext.grown E2 (gr_set _ _ _ _) (fun q hq => by cases hq; omega), q0.set_other (by omega), q1.set_other (by omega), by rw [← mixI_set zs _ k 4 Hl.out (by simp) hlt]; exact q2.set k _⟩
   case measure => simp [intOf]; omega
  ·obtain rfl : k = 4 := by omega
   rw [mixI_all _ _ 4 Hl.out (by simp)] at q2
   go_wp2_with (first | (refine wpList_iload 30 _ rfl rfl q2 0 4 rfl _ Tryd.underlying30 rfl size_A4 (by rw [Hl.out]; omega) _ (by rw [sub_all _ _ Hl.out]) ?_) | (refine wpList_istore 30 _ _ rfl rfl q1 0 4 rfl _ rfl _ rfl size_A4 Hl.out (by simp) ?_; intro w6 p6 g6; refine Hid.out ?_))
   rw [spl_all (by rw [Hl.out]; simp)] at p6
   have E6 : Ext w w6 := Ext.grown E2 g6 (fun q hq => by cases hq; omega)
   refine Lib.hid ?_
   go_wp2
   exact bodyPost_ret (v := .agg (ic zs)) (results_cell_row rfl _ _ (w.heap.size + 1) 30 (ic zs) (0, 0) _ rfl p6 Tryd.underlying30 rfl (by rw [ic_size, Hl.out]; exact size_A4)) rfl ⟨rfl, E6⟩
set_option maxRecDepth 100000 in
theorem toIntA16_any (zs : List Int) (w : World) (hl : zs.length = 16) :
 Calls Tryd.prog 103 #[.agg (ic zs)] w fun e w' => e = .returned (.agg (ic zs)) ∧ Ext w w' := by
 have Hl := Lib.hid hl
 clear hl
 go_enter Tryd.func103, Tryd.ntmps103
 go_wp2
 have a1 := Ext.alloc w (.cells (ic zs) 31)
 have a2 := Ext.alloc (w.alloc (.cells (ic zs) 31)) (.cells (ic (List.replicate 16 0)) 31)
 have a3 := Ext.alloc ((w.alloc (.cells (ic zs) 31)).alloc (.cells (ic (List.replicate 16 0)) 31)) (.cells (ic (List.replicate 16 0)) 31)
 have p0 := ((IB.new w 31 zs).ext a2).ext a3
 have p1 := (IB.new (w.alloc (.cells (ic zs) 31)) 31 (List.replicate 16 0)).ext a3
 have p2 := IB.new ((w.alloc (.cells (ic zs) 31)).alloc (.cells (ic (List.replicate 16 0)) 31)) 31 (List.replicate 16 0)
 have E1 := (a1.trans a2).trans a3
 simp only [World.size_alloc] at p1 p2
 clear a1 a2 a3
 go_loopw [4] (fun i wr => ∃ k : Nat, k ≤ 16 ∧ i = .int .i64 k ∧ Ext w wr ∧ IB wr w.heap.size 31 zs ∧ IB wr (w.heap.size + 1) 31 (List.replicate 16 0) ∧ IB wr (w.heap.size + 1 + 1) 31 (mixI zs (List.replicate 16 0) k)) (fun i _ => 16 - (intOf i).toNat)
 case atStart => exact ⟨0, by omega, rfl, E1, p0, p1, by rw [mixI_zero]; exact p2⟩
 case round =>
  obtain ⟨k, hk, rfl, E2, q0, q1, q2⟩ := hrel
  clear p0 p1 p2 E1
  by_cases hlt : k < 16
  ·have c0 := q0.cell (i := k) (by rw [Hl.out]; exact hlt)
   have c2 := q2.cell (i := k) (by rw [mixI_len _ _ _ 16 Hl.out (by simp)]; exact hlt)
   have f2 := q2.frozen k
   go_wp2
   go_roundw
   case rel => exact ⟨k + 1, by omega, by go_num, Ext.grown E2 (gr_set _ _ _ _) (fun q hq => by cases hq; omega), q0.set_other (by omega), q1.set_other (by omega), by rw [← mixI_set zs _ k 16 Hl.out (by simp) hlt]; exact q2.set k _⟩
   case measure => simp [intOf]; omega
  ·obtain rfl : k = 16 := by omega
   rw [mixI_all _ _ 16 Hl.out (by simp)] at q2
   go_wp2_with (first | (refine wpList_iload 31 _ rfl rfl q2 0 16 rfl _ Tryd.underlying31 rfl size_A16 (by rw [Hl.out]; omega) _ (by rw [sub_all _ _ Hl.out]) ?_) | (refine wpList_istore 31 _ _ rfl rfl q1 0 16 rfl _ rfl _ rfl size_A16 Hl.out (by simp) ?_; intro w6 p6 g6; refine Hid.out ?_))
   rw [spl_all (by rw [Hl.out]; simp)] at p6
   have E6 : Ext w w6 := Ext.grown E2 g6 (fun q hq => by cases hq; omega)
   refine Lib.hid ?_
   go_wp2
   exact bodyPost_ret (v := .agg (ic zs)) (results_cell_row rfl _ _ (w.heap.size + 1) 31 (ic zs) (0, 0) _ rfl p6 Tryd.underlying31 rfl (by rw [ic_size, Hl.out]; exact size_A16)) rfl ⟨rfl, E6⟩
set_option maxRecDepth 100000 in
theorem toIntA16A4_any (zs : List Int) (w : World) (hl : zs.length = 64) :
 Calls Tryd.prog 66 #[.agg (ic zs)] w fun e w' => e = .returned (.agg (ic zs)) ∧ Ext w w' := by
 have Hl := Lib.hid hl
 clear hl
 go_enter Tryd.func66, Tryd.ntmps66
 go_wp2
 have a1 := Ext.alloc w (.cells (ic zs) 32)
 have a2 := Ext.alloc (w.alloc (.cells (ic zs) 32)) (.cells (ic (List.replicate 64 0)) 32)
 have a3 := Ext.alloc ((w.alloc (.cells (ic zs) 32)).alloc (.cells (ic (List.replicate 64 0)) 32)) (.cells (ic (List.replicate 64 0)) 32)
 have p0 := ((IB.new w 32 zs).ext a2).ext a3
 have p1 := (IB.new (w.alloc (.cells (ic zs) 32)) 32 (List.replicate 64 0)).ext a3
 have p2 := IB.new ((w.alloc (.cells (ic zs) 32)).alloc (.cells (ic (List.replicate 64 0)) 32)) 32 (List.replicate 64 0)
 have E1 := (a1.trans a2).trans a3
 simp only [World.size_alloc] at p1 p2
 clear a1 a2 a3
 go_loopw [4] (fun i wr => ∃ k : Nat, k ≤ 4 ∧ i = .int .i64 k ∧ Ext w wr ∧ IB wr w.heap.size 32 zs ∧ IB wr (w.heap.size + 1) 32 (List.replicate 64 0) ∧ IB wr (w.heap.size + 1 + 1) 32 (mixI zs (List.replicate 64 0) (k * 16))) (fun i _ => 4 - (intOf i).toNat)
 case atStart => exact ⟨0, by omega, rfl, E1, p0, p1, by rw [Nat.zero_mul, mixI_zero]; exact p2⟩
 case round =>
  obtain ⟨k, hk, rfl, E2, q0, q1, q2⟩ := hrel
  clear p0 p1 p2 E1
  by_cases hlt : k < 4
  ·have Hbl := Lib.hid (sub_len zs (k * 16) 16 (by rw [Hl.out]; omega))
   have Hml := Lib.hid (mixI_len zs (List.replicate 64 0) (k * 16) 64 Hl.out (by simp))
   go_wp2_with (refine wpList_iload 31 _ rfl rfl q0 (k * 16) 16 rfl _ Tryd.underlying31 rfl size_A16 (by rw [Hl.out]; omega) _ rfl ?_)
   refine (toIntA16_any _ _ Hbl.out).mono ?_
   rintro e w5 ⟨rfl, e5⟩
   have E5 := E2.trans e5
   have r0 := q0.ext e5
   have r1 := q1.ext e5
   have r2 := q2.ext e5
   clear E2 q0 q1 q2 e5
   go_wp2_with (refine wpList_istore 31 _ _ rfl rfl r2 (k * 16) 16 rfl _ rfl _ rfl size_A16 Hbl.out (by rw [Hml.out]; omega) ?_; intro w6 p6 g6; refine Hid.out ?_)
   rw [mixI_spl zs _ (k * 16) 16 64 Hl.out (by simp) (by omega), show k * 16 + 16 = (k + 1) * 16 by omega] at p6
   have E6 : Ext w w6 := Ext.grown E5 g6 (fun q hq => by cases hq; omega)
   have s0 := r0.gr g6 (by simp; omega)
   have s1 := r1.gr g6 (by simp)
   clear E5 r0 r1 r2 g6
   refine Lib.hid ?_
   go_wp2
   go_roundw
   case rel => exact ⟨k + 1, by omega, by go_num, E6, s0, s1, p6⟩
   case measure => simp [intOf]; omega
  ·obtain rfl : k = 4 := by omega
   rw [show 4 * 16 = 64 from rfl, mixI_all _ _ 64 Hl.out (by simp)] at q2
   go_wp2_with (first | (refine wpList_iload 32 _ rfl rfl q2 0 64 rfl _ Tryd.underlying32 rfl size_A16A4 (by rw [Hl.out]; omega) _ (by rw [sub_all _ _ Hl.out]) ?_) | (refine wpList_istore 32 _ _ rfl rfl q1 0 64 rfl _ rfl _ rfl size_A16A4 Hl.out (by simp) ?_; intro w6 p6 g6; refine Hid.out ?_))
   rw [spl_all (by rw [Hl.out]; simp)] at p6
   have E6 : Ext w w6 := Ext.grown E2 g6 (fun q hq => by cases hq; omega)
   refine Lib.hid ?_
   go_wp2
   exact bodyPost_ret (v := .agg (ic zs)) (results_cell_row rfl _ _ (w.heap.size + 1) 32 (ic zs) (0, 0) _ rfl p6 Tryd.underlying32 rfl (by rw [ic_size, Hl.out]; exact size_A16A4)) rfl ⟨rfl, E6⟩
set_option maxRecDepth 100000 in
theorem toVector_any (x y : Int) (w : World) :
 Calls Tryd.prog 64 #[.agg #[.int .i64 x, .int .i64 y]] w fun e w' => e = .returned (.agg #[.int .i64 x, .int .i64 y]) ∧ Ext w w' := by
 go_enter Tryd.func64, Tryd.ntmps64
 go_wp2
 have p1 := blk_alloc (blk_new (w.alloc (.cells #[.int .i64 x, .int .i64 y] 43)) (.cells #[.int .i64 x, .int .i64 y] 27)) (.cells #[.int .i64 x, .int .i64 y] 27)
 simp only [World.size_alloc] at p1
 refine bodyPost_ret (v := .agg #[.int .i64 x, .int .i64 y]) (results_cell_row rfl _ _ (w.heap.size + 1) 27 #[.int .i64 x, .int .i64 y] (0, 0) _ rfl p1 Tryd.underlying27 rfl size_Vector) rfl ⟨rfl, ?_⟩
 (repeat (first | with_reducible exact Below.refl _ _ | assumption | with_reducible refine below_drewN ?_ _ | with_reducible refine Below.drew ?_ | with_reducible refine Below.setCell ?_ (by simp <;> omega) _ | with_reducible refine Ext.trans ?_ (Ext.alloc _ _)))
end Go.Proofs.YtbnhaegidfbgbaaDoor
namespace Go.Proofs.YtbnhaegidfbgbaaDoor
open Go.RowKit
set_option maxHeartbeats 1000000
/-- Integers within bounds. -/
def bdI (B : Int) (zs : List Int) : Prop := ∀ j, j < zs.length → -B ≤ nth zs j ∧ nth zs j ≤ B
theorem bdI_set {B : Int} {zs : List Int} {i : Nat} {v : Int} (h : bdI B zs) (h1 : -B ≤ v) (h2 : v ≤ B) : bdI B (zs.set i v) := by
 intro j hj
 rw [List.length_set] at hj
 by_cases hij : i = j
 ·subst hij; rw [nth_set_same _ _ _ hj]; omega
 ·rw [nth_set_ne _ _ _ _ hij]; exact h j hj
/-- Block q holds n integers within bounds. -/
def IQ (B : Int) (w : World) (q T n : Nat) : Prop := ∃ zs, IB w q T zs ∧ zs.length = n ∧ bdI B zs
theorem IQ.gr {B : Int} {w w' : World} {q T n b : Nat} (h : IQ B w q T n) (g : w.grownBy w' (some b)) (hne : q ≠ b) : IQ B w' q T n := by
 obtain ⟨zs, h1, h2, h3⟩ := h
 exact ⟨zs, h1.gr g (by simp; omega), h2, h3⟩
theorem IQ.ext {B : Int} {w w' : World} {q T n : Nat} (h : IQ B w q T n) (e : Ext w w') : IQ B w' q T n := by
 obtain ⟨zs, h1, h2, h3⟩ := h
 exact ⟨zs, h1.ext e, h2, h3⟩
theorem IQ.set {B : Int} {w : World} {q T n : Nat} (h : IQ B w q T n) (i : Nat) (v : Int) (h1 : -B ≤ v) (h2 : v ≤ B) : IQ B (w.setCell ⟨q, i, none⟩ (.int .i64 v)) q T n := by
 obtain ⟨zs, k1, k2, k3⟩ := h
 exact ⟨zs.set i v, k1.set i v, by simpa using k2, bdI_set k3 h1 h2⟩
theorem IQ.cell {B : Int} {w : World} {q T n : Nat} (h : IQ B w q T n) {i : Nat} (hi : i < n) : ∃ v : Int, w.cell? ⟨q, i, none⟩ = some (.int .i64 v) ∧ w.frozen? ⟨q, i, none⟩ = false ∧ -B ≤ v ∧ v ≤ B := by
 obtain ⟨zs, k1, rfl, k3⟩ := h
 exact ⟨_, k1.cell hi, k1.frozen i, k3 i hi⟩
theorem IQ.lt {B : Int} {w : World} {q T n : Nat} (h : IQ B w q T n) : q < w.heap.size := by
 obtain ⟨zs, k1, -⟩ := h; exact k1.lt
theorem IQ.set_other {B : Int} {w : World} {q c i T n : Nat} {v : Value} (h : IQ B w q T n) (hne : q ≠ c) : IQ B (w.setCell ⟨c, i, none⟩ v) q T n := by
 obtain ⟨zs, k1, k2, k3⟩ := h
 exact ⟨zs, k1.set_other hne, k2, k3⟩
end Go.Proofs.YtbnhaegidfbgbaaDoor
namespace Go.Proofs.YtbnhaegidfbgbaaDoor
open Go.RowKit
set_option maxHeartbeats 1000000
attribute [local go_sem] Oper.semAt_some
/-- Behind k levels of the scan order: how many zeros since the last run, the runs so far. -/
def runT (zs : List Int) : Nat → Nat × List (Int × Int)
 | 0 => (0, [])
 | k + 1 => if nth zs (nth scanL k).toNat = 0 then ((runT zs k).1 + 1, (runT zs k).2) else (0, (runT zs k).2 ++ [(((runT zs k).1 : Int), nth zs (nth scanL k).toNat)])
/-- The runs of a block. -/
def runsL (zs : List Int) : List (Int × Int) := (runT zs 16).2
theorem runT_le (zs : List Int) (k : Nat) : (runT zs k).1 ≤ k := by
 induction k with
 | zero => exact Nat.le_refl _
 | succ k ih => unfold runT; split <;> simp <;> omega
theorem runT_len (zs : List Int) (k : Nat) : (runT zs k).2.length ≤ k := by
 induction k with
 | zero => exact Nat.le_refl _
 | succ k ih => unfold runT; split <;> simp <;> omega
theorem runsL_len (zs : List Int) : (runsL zs).length ≤ 16 := runT_len zs 16
theorem scan_rng : ∀ k, k < 16 → 0 ≤ nth scanL k ∧ nth scanL k ≤ 15 := by decide
/-- A run of levels within B. -/
def rOk (B : Int) (x : Int × Int) : Prop := 0 ≤ x.1 ∧ x.1 ≤ 15 ∧ x.2 ≠ 0 ∧ -B ≤ x.2 ∧ x.2 ≤ B
abbrev Rn (B : Int) := { x : Int × Int // rOk B x }
def encR {B : Int} (x : Rn B) : Array Value := #[.agg #[.int .i64 x.1.1, .int .i64 x.1.2]]
set_option maxRecDepth 100000 in
set_option maxHeartbeats 2000000 in
theorem runs_stops (n : Nat) (hn : 1 ≤ n) (Bs : Nat) (zs : List Int) (B : Int) (hl : zs.length = 16) (hB : bdI B zs) (w : World) (hI : IB w Bs 31 zs) :
 SeqStopsK Fence.wide n Tryd.prog 152 #[.pointer (some ⟨Bs, 0, none⟩)] (encR (B := B)) (keepB Bs) (fun xs => xs.map (·.1) = runsL zs) (fun _ => True) 16 w := by
 intro l J Jx W hW hJ hJx hY h0
 have hB0 := hI.ext hW
 refine callsIn_wide.2 ?_
 have Hl := Lib.hid hl
 have HY := Lib.hid hY
 have HB := Lib.hid hB
 clear hl hY hB hI hJx hW
 go_enter Tryd.func152, Tryd.ntmps152
 go_wp2_with fail
 refine (scanOrder_any _).mono ?_
 rintro e w1 ⟨rfl, e1⟩
 have B1 := hB0.ext e1
 have J1 : J [] w1 := hJ [] W w1 none h0 ⟨e1.os, e1.tape, e1.output, e1.size, fun k hk _ => e1.block k hk⟩ (fun r hr => by cases hr)
 clear hB0 h0 e1 hJ
 go_wp2_with fail
 go_loopw [3, 8] (fun z i wr => ∃ (k : Nat) (pre : List (Rn B)), k ≤ 16 ∧ i = .int .i64 k ∧ z = .int .i64 ((runT zs k).1 : Nat) ∧ pre.map (·.1) = (runT zs k).2 ∧ J pre wr ∧ IB wr Bs 31 zs) (fun _ i _ => 16 - (intOf i).toNat)
 case atStart => exact ⟨0, [], by omega, rfl, rfl, rfl, J1, B1⟩
 case round =>
  obtain ⟨k, pre, hk, rfl, rfl, hpl, Jr, Br⟩ := hrel
  clear J1 B1
  by_cases hlt : k < 16
  ·have hd : decide ((k : Int) < 16) = true := by simp; omega
   obtain ⟨s0, s1⟩ := scan_rng k hlt
   have hst : runT zs (k + 1) = if nth zs (nth scanL k).toNat = 0 then ((runT zs k).1 + 1, (runT zs k).2) else (0, (runT zs k).2 ++ [(((runT zs k).1 : Int), nth zs (nth scanL k).toNat)]) := rfl
   have hz := runT_le zs k
   have hln := runT_len zs k
   obtain ⟨q, hq⟩ : ∃ q : Nat, nth scanL k = (q : Int) := ⟨(nth scanL k).toNat, by omega⟩
   rw [hq, Int.toNat_natCast] at hst
   rw [hq] at s0 s1
   have hc := Br.cell (i := q) (by rw [Hl.out]; omega)
   have hb := HB.out q (by rw [Hl.out]; omega)
   have Hst := Lib.hid hst
   have Hq := Lib.hid hq
   clear hst hq
   generalize nth zs q = lv at *
   obtain ⟨z, hzz⟩ : ∃ z, z = (runT zs k).1 := ⟨_, rfl⟩
   rw [← hzz] at Hst hz ⊢
   have Hpl := Lib.hid hpl
   clear hpl hzz
   by_cases h0 : lv = 0
   ·subst h0
    go_wp2_with (refine wpList_iindex 31 _ _ rfl rfl scanL rfl k 16 _ rfl rfl 3 Tryd.underlying31 Tryd.underlying3 size_int hlt rfl ?_; rw [Hq.out])
    have hst := Hst.out
    rw [if_pos rfl] at hst
    go_roundw
    case rel => exact ⟨k + 1, pre, by omega, by go_num, by rw [hst]; go_num, by rw [hst]; exact Hpl.out, Jr, Br⟩
    case measure => simp [intOf]; omega
   ·have hd0 : (lv == 0) = false := by simpa using h0
    have hst := Hst.out
    rw [if_neg h0] at hst
    have HST := Lib.hid hst
    clear hst Hst
    obtain ⟨fn, tmps, assign, body, hy, hR⟩ := HY.out pre ⟨((z : Nat), lv), by exact ⟨by simp, by simp; omega, h0, hb.1, hb.2⟩⟩ wr Jr (by have := congrArg List.length Hpl.out; simp at this; omega)
    dsimp only [encR] at hy
    go_upto_region 8 with (refine wpList_iindex 31 _ _ rfl rfl scanL rfl k 16 _ rfl rfl 3 Tryd.underlying31 Tryd.underlying3 size_int hlt rfl ?_; rw [Hq.out])
    refine (wpIn_wide (n := n)).1 ?_
    gi_wp2
    refine hR.mono ?_
    rintro e W3 (⟨rfl, hJ3, hk3⟩ | ⟨rfl, hJx3⟩)
    ·gi_wp2
     go_wp2
     have B3 : IB W3 Bs 31 zs := hk3.trans Br
     go_roundw
     case rel => exact ⟨k + 1, _, by omega, by go_num, by rw [HST.out]; go_num, by rw [HST.out]; simp [Hpl.out], hJ3, B3⟩
     case measure => simp [intOf]; omega
    ·gi_wp2
     go_wp2
     refine bodyPost_ret (results_none rfl _ _ _) rfl ?_
     exact ⟨⟨_, rfl⟩, .inr ⟨_, trivial, hJx3⟩⟩
  ·obtain rfl : k = 16 := by omega
   go_wp2
   go_end0
   exact ⟨⟨_, rfl⟩, .inl ⟨pre, hpl, Jr⟩⟩
theorem runsIn_any (zs : List Int) (w : World) :
 Calls Tryd.prog 149 #[.agg (ic zs)] w fun e w' => e = .returned (.func (.func 152) #[] #[.pointer (some ⟨w.heap.size, 0, none⟩)]) ∧ w' = w.alloc (.cells (ic zs) 31) := by
 go_enter Tryd.func149, Tryd.ntmps149
 go_wp2
 go_ret
 exact ⟨rfl, rfl⟩
set_option maxRecDepth 100000 in
theorem NonzeroCount_any (zs : List Int) (w : World) (hl : zs.length = 16) (B : Int) (hB : bdI B zs) :
 Calls Tryd.prog 148 #[.agg (ic zs)] w fun e w' => e = .returned (.int .i64 ((runsL zs).length : Nat)) ∧ Ext w w' := by
 have Hl := Lib.hid hl
 have HB := Lib.hid hB
 have hr := runsL_len zs
 have p0 := (IB.new w 31 zs).alloc (.cells #[.int .i64 0] 3)
 have c0 := blk_new (w.alloc (.cells (ic zs) 31)) (.cells #[.int .i64 0] 3)
 have E0 := (Ext.alloc w (.cells (ic zs) 31)).trans (Ext.alloc _ (.cells #[.int .i64 0] 3))
 simp only [World.size_alloc] at c0
 clear hl hB
 refine calls_of_marks 4 Tryd.func148 rfl ?_
 simp only [Tryd.ntmps148, List.size_toArray, List.length_cons, List.length_nil, Nat.reduceAdd, Nat.reduceSub, Array.replicate_succ, Array.replicate_zero, List.push_toArray, List.append_toArray, List.nil_append, List.cons_append]
 go_wp2_with (refine wpList_iload 31 _ rfl rfl p0 0 16 rfl _ Tryd.underlying31 rfl size_A16s (by rw [Hl.out]; omega) _ (by rw [sub_all _ _ Hl.out]) ?_)
 refine (runsIn_any zs _).mono ?_
 rintro e w1 ⟨rfl, rfl⟩
 simp only [World.size_alloc]
 obtain ⟨c, hc⟩ : ∃ c, c = w.heap.size + 1 := ⟨_, rfl⟩
 generalize hw1 : (w.alloc (.cells (ic zs) 31)).alloc (.cells #[.int .i64 0] 3) = w1 at *
 have hs : w1.heap.size = c + 1 := by rw [← hw1, hc]; simp
 rw [← hc] at c0 ⊢
 have e2 := Ext.alloc w1 (.cells (ic zs) 31)
 have I2 := IB.new w1 31 zs
 have c2 := e2.blk c0
 have E2 := E0.trans e2
 have hs2 : (w1.alloc (.cells (ic zs) 31)).heap.size = c + 2 := by simp [hs]
 rw [hs] at I2
 have HC := Lib.hid hc
 clear hc hw1 c0 p0 E0 e2
 generalize w1.alloc (.cells (ic zs) 31) = w2 at *
 go_upto_region 99 with fail
 refine (wpIn_wide (n := 4)).1 ?_
 refine wpIn_rangeFunc_ownG rfl (by omega) (gf := 152) (lb := #[.pointer (some ⟨c + 1, 0, none⟩)]) rfl trivial (enters_of Tryd.func152 (by kernel_rfl) rfl)
  (runs_stops 3 (by omega) (c + 1) zs B Hl.out HB.out w2 I2) keepB.t (keepB.b (by omega)) (Below.refl _ _) (fun _ => rfl)
  (fun pre W => W.heap[c]? = some (.cells #[.int .i64 (pre.length : Nat)] 3 (0, 0)) ∧ Ext w W) (fun _ _ _ => False)
  (fun pre W W' row hI hg hr => ⟨blk_gr hI.1 hg (fun e => by have := (hr _ e).1; omega), Ext.grown hI.2 hg (fun k e => by have := (hr k e).1; have := HC.out; omega)⟩) (fun _ _ _ _ _ h _ _ => h) ⟨c2, E2⟩ ?a1 ?assign ?body ?done ?stop
 case assign =>
  intro l x W K hK
  simp [encR]
  gi_wp2
  exact hK
 case body =>
  rintro l pre x W ⟨hc1, hE⟩ hlen
  obtain ⟨hc0, hcc, hcf⟩ := bx1 hc1
  gi_wp2
  have h1 := heap_setCell_same W c 0 _ _ (.int .i64 ((pre.length : Int) + 1)) hc1
  exact ⟨(KeepsOthers.setCell _ _ _).from _, Below.heap_setCell _ _ _ _ (by show c + 1 ≠ c; omega), by simpa using h1, Ext.grown hE (gr_set _ _ _ _) (fun k e => by cases e; have := HC.out; omega)⟩
 case done =>
  rintro D ys W hD hS ⟨hc1, hE⟩ hK
  obtain ⟨hc0, hcc, hcf⟩ := bx1 hc1
  have hyl := congrArg List.length hS
  rw [List.length_map] at hyl
  have HY := Lib.hid hyl
  clear hyl hS
  go_wp2
  refine ⟨by simp, .inl ⟨_, _, rfl, run_takeDeferred hK, ?_⟩⟩
  exact ⟨_, results_tmp rfl _ _ _, by rw [← HY.out]; rfl, ext_putObj hE (by have := HC.out; omega) _⟩
 case stop =>
  rintro D c pre W _ _ h _
  exact h.elim
end Go.Proofs.YtbnhaegidfbgbaaDoor
