/- A region whose operations may come in any order, the invariant told which of them have run; the same within a round of a range over a function. | Drawing: a picture like another one. | Words for the laws with pictures: what changes in a range of blocks; boxes. | Drawing: two pictures. | Half samples, the samples that predict a macroblock: both sides. -/
import Derived.Test.YtbnhaegidfbgbaaGreatDoorQr3
import Derived.OrdersIn
set_option linter.unusedVariables false
set_option linter.unusedSimpArgs false
set_option maxRecDepth 100000
set_option maxHeartbeats 4000000
namespace Go.Proofs.YtbnhaegidfbgbaaGreatDoor
open Go.RowKit
/-- Operation j has run too. -/
def updL (L:Nat→Bool) (j:Nat):Nat→Bool:=fun i=>if i=j then true else L i
/-- What every operation must do. -/
structure ObOkL (P : Program) (ol : List Oper) (l : List Value) (df : List Deferred) (ds : List (Nat × Nat)) (anc : List (List Nat)) (V : Nat → (Nat → Value) → World → Prop) (G : (Nat → Bool) → World → Prop) (j : Nat) (o : Oper) : Prop where
 run:∀ L xs w,G L w→L j=false→(∀ i,(anc.getD j []).contains i=true→L i=true)→(∀ i,(anc.getD i []).contains j=true→L i=false)→(∀ i,(anc.getD j []).contains i=true→V i xs w)→(∀ i d,(anc.getD i []).contains j=true→(ol.toArray[i]?).bind (·.dst)=some d→xs i=l.getD d undef) →
  OpGoal P ol.toArray o ⟨(patchS 0 l ds xs).toArray,df⟩ w (fun v w'=>V j (upd xs j v) w'∧G (updL L j) w'∧∀ i,i<ol.length→i≠j→(anc.getD i []).contains j=false→V i xs w→V i (upd xs j v) w')
theorem any_invL {P:Program} {ol:List Oper} {Q:Exit→Act→World→Prop} {l:List Value} {df:List Deferred} {w0:World}
 (ds:List (Nat×Nat)) (anc:List (List Nat)) (V:Nat→(Nat→Value)→World→Prop) (G:(Nat→Bool)→World→Prop)
 (hds:dsOk ol ds l.length=true) (hanc:ancOk ol anc=true) (h0:G (fun _=>false) w0)
 (hop:∀ j o,ol[j]?=some o→ObOkL P ol l df ds anc V G j o)
 (hend:∀ xs w',(∀ i,i<ol.length→V i xs w')→(∃ L,(∀ i,i<ol.length→L i=true)∧G L w')→Q .normal ⟨(patchS 0 l ds xs).toArray,df⟩ w') :
 wpAny P .any ol.toArray Q ol.length (Array.replicate ol.length false) ⟨l.toArray,df⟩ w0:=by
 simp only[dsOk,Bool.and_eq_true,List.all_eq_true,decide_eq_true_eq,beq_iff_eq,List.mem_range]at hds;obtain⟨⟨⟨ha,hd1⟩,hnd⟩,hd2⟩:=hds;simp only[ancOk,Bool.and_eq_true,List.all_eq_true,beq_iff_eq,List.mem_range]at hanc;obtain⟨hal,hanc⟩:=hanc
 -- the states that are met
 have key:∀(fuel:Nat) (listed:Array Bool) (xs:Nat→Value) (w:World),listed.size=ol.length→listed.toList.count true+fuel=ol.length →
  (∀ i,listed.getD i false=true→∀ j,(anc.getD i []).contains j=true→listed.getD j false=true) →
  (∀ i,i<ol.length→listed.getD i false=true→V i xs w)→G (fun i=>listed.getD i false) w →
  (∀ i d,listed.getD i false=false→(ol.toArray[i]?).bind (·.dst)=some d→xs i=l.getD d undef) →
  wpAny P .any ol.toArray Q fuel listed ⟨(patchS 0 l ds xs).toArray,df⟩ w:=by
  intro fuel;have full:∀(listed:Array Bool),listed.size=ol.length→listed.toList.count true=ol.length→∀ i,i<ol.length→listed.getD i false=true:=by
   intro listed hs hc i hi;have h1:∀ b∈listed.toList,true=b:=List.count_eq_length.1 (by rw[hc];simp[hs]);have h2:=h1 listed[i] (by simp);simp[Array.getD,hs,hi,←h2]
  have none_ready:∀(listed:Array Bool),listed.size=ol.length→listed.toList.count true<ol.length→Region.ready .any ol.toArray listed ≠ []:=by
   intro listed hs hc hr
   -- the least that is not listed
   have hex:∃ i,i<ol.length∧listed.getD i false=false:=by
    refine Classical.byContradiction fun hno => ?_
    have:listed.toList.count true=ol.length:=by
     rw[←hs,←Array.length_toList,List.count_eq_length];intro b hb;obtain⟨i,hi,rfl⟩:=List.getElem_of_mem hb;simp at hi;refine Classical.byContradiction fun hne=>hno ⟨i,by omega,?_⟩
     simp[Array.getD,hi]
     simpa using hne
    omega
   obtain⟨i,⟨hi,hli⟩,hmin⟩:=exists_least hex;have:i∈Region.ready .any ol.toArray listed:=by
    rw[mem_ready];refine⟨?_,ol[i],by simp[hi],fun e he hb => ?_⟩
    ·simp[Array.getD,hs,hi]at hli⊢;exact hli
    ·have h1:=(hanc i hi);simp only[List.getElem?_eq_getElem hi,Bool.and_eq_true,List.all_eq_true,decide_eq_true_eq]at h1;have h2:=h1.1 e.on (List.mem_map.2 ⟨e,List.mem_filter.2 ⟨by simpa using he,hb⟩,rfl⟩);cases hle:listed.getD e.on false with
     | true=>rfl
     | false=>have:=hmin e.on ⟨by omega,hle⟩;omega
   rw[hr]at this;cases this
  induction fuel with
  | zero =>
   intro listed xs w hs hc hcl hV hG _;have hf:=full listed hs (by omega);refine⟨?_,?_⟩
   ·refine List.eq_nil_iff_forall_not_mem.2 fun i hi => ?_
    obtain⟨h1,o,h2,-⟩:=mem_ready.1 hi;have hlt:i<ol.length:=by
     have:=(Array.getElem?_eq_some_iff.1 h2).1
     simpa using this
    have:=hf i hlt;simp[Array.getD,hs,hlt]at this h1;rw[this]at h1;cases h1
   ·exact hend xs w (fun i hi=>hV i hi (hf i hi)) ⟨_,hf,hG⟩
  | succ fuel ih =>
   intro listed xs w hs hc hcl hV hG hI;refine⟨fun hr=>absurd hr (none_ready listed hs (by omega)),fun i hi => ?_⟩;obtain⟨h1,o,h2,h3⟩:=mem_ready.1 hi;have hlt:i<ol.length:=by
    have:=(Array.getElem?_eq_some_iff.1 h2).1
    simpa using this
   have h2':ol[i]?=some o:=by simpa using h2
   have hun:listed.getD i false=false:=by simp[Array.getD,hs,hlt]at h1⊢;exact h1
   have hA:=hanc i hlt;rw[h2']at hA;simp only[Bool.and_eq_true,List.all_eq_true,decide_eq_true_eq,Bool.or_eq_true,List.any_eq_true]at hA;have dirL:∀ d∈direct o,listed.getD d false=true:=by
    intro d hd;obtain⟨e,he,rfl⟩:=List.mem_map.1 hd;obtain⟨he1,he2⟩:=List.mem_filter.1 he;exact h3 e (by simpa using he1) he2
   have ancL:∀ j,(anc.getD i []).contains j=true→listed.getD j false=true:=by
    intro j hj;rcases hA.2 j (by simpa using hj)with h|⟨d,hd,h⟩
    ·exact dirL j (by simpa using h)
    ·exact hcl d (dirL d hd) j h
   have ltL:∀ j,listed.getD j false=true→j<ol.length:=by
    intro j hj;refine Classical.byContradiction fun hge => ?_
    simp[Array.getD,show ¬ j<listed.size by omega]at hj
   have goal:=(hop i o h2').run (fun i=>listed.getD i false) xs w hG hun ancL (fun j hj=>by
    cases hc2:listed.getD j false with
    | false=>rfl
    | true=>have:=hcl j hc2 i hj;rw[hun]at this;cases this) (fun j hj=>hV j (ltL j (ancL j hj)) (ancL j hj)) (fun j d hj hd=>hI j d (by
    cases hc2:listed.getD j false with
    | false=>rfl
    | true=>have:=hcl j hc2 i hj;rw[hun]at this;cases this) hd)
   refine wpOp_of_goal h2 goal fun v w' hp => ?_
   obtain⟨hp1,hp2,hp3⟩:=hp;have hcount:(listed.setIfInBounds i true).toList.count true=listed.toList.count true+1:=by
    rw[Array.toList_setIfInBounds,List.count_set (by simp;omega)];have:listed.toList[i]'(by simp;omega)=false:=by
     simp[Array.getD,hs,hlt]at hun
     simpa using hun
    simp[this]
   have hput:(⟨(patchS 0 l ds xs).toArray,df⟩:Act).put o.dst v=⟨(patchS 0 l ds (upd xs i v)).toArray,df⟩:=by
    cases hd:o.dst with
    | none =>
     have hni:i∉ds.map (·.2):=by
      intro hmem;obtain⟨x,hx,rfl⟩:=List.mem_map.1 hmem;have:=(hd1 x hx).2;rw[h2']at this;simp[hd]at this
     have rest:∀(q:Nat) (l:List Value) (ds:List (Nat×Nat)),i∉ds.map (·.2)→patchS q l ds (upd xs i v)=patchS q l ds xs:=by
      intro q l
      induction l generalizing q with
      | nil=>intro ds _;simp[patchS]
      | cons u l ih2 =>
       intro ds hj;cases ds with
       | nil=>simp[patchS]
       | cons e ds =>
        obtain⟨e1,e2⟩:=e;simp only[patchS];simp at hj;have:upd xs i v e2=xs e2:=by unfold upd;rw[if_neg (fun h=>hj.1 h.symm)]
        rw[this,ih2 (q+1) ds (by simpa using hj.2),ih2 (q+1) ((e1,e2)::ds) (by simpa using hj)]
     rw[rest _ _ _ hni];rfl
    | some d =>
     have hmem:(d,i)∈ds:=by
      have:=hd2 i hlt;rw[h2']at this
      simpa [hd] using this
     have h5:=patchS_set xs v l 0 ds d i ha (by simpa using hnd) hmem;simp only[Nat.sub_zero]at h5;rw[←h5];simp[Act.put]
   rw[hput];refine ih _ _ _ (by simpa using hs) (by rw[hcount];omega) ?_ ?_ (by
    have e:updL (fun i=>listed.getD i false) i=fun q=>(listed.setIfInBounds i true).getD q false:=by
     funext q
     unfold updL
     by_cases hqi:q=i
     ·subst hqi;rw[if_pos rfl,Array.getD_eq_getD_getElem?,Array.getElem?_setIfInBounds,if_pos rfl,if_pos (by omega)];rfl
     ·rw[if_neg hqi,getD_set_ne false (Ne.symm hqi)]
    rw[←e];exact hp2) (fun q d hq hd => ?_)
   rotate_right
   ·by_cases hqi:q=i
    ·subst hqi;rw[Array.getD_eq_getD_getElem?,Array.getElem?_setIfInBounds,if_pos rfl,if_pos (by omega)]at hq;simp at hq
    ·rw[getD_set_ne false (Ne.symm hqi)]at hq;rw[show upd xs i v q=xs q by simp[upd,hqi]];exact hI q d hq hd
   ·intro q hq j hj
    by_cases hqi:q=i
    ·subst hqi;exact getD_set_true (ancL j hj)
    ·rw[getD_set_ne false (Ne.symm hqi)]at hq;exact getD_set_true (hcl q hq j hj)
   ·intro q hq hl
    by_cases hqi:q=i
    ·subst hqi;exact hp1
    ·rw[getD_set_ne false (Ne.symm hqi)]at hl;refine hp3 q hq hqi ?_ (hV q hq hl);cases hc2:(anc.getD q []).contains i with
     | false=>rfl
     | true=>have:=hcl q hl i hc2;rw[hun]at this;cases this
 have init:=key ol.length (Array.replicate ol.length false) (fun i=>(((ol[i]?).bind (·.dst)).map (fun d=>l.getD d undef)).getD undef) w0 (by simp) (by simp[List.count_replicate]) (fun i hi=>by simp[Array.getD]at hi) (fun i _ hi=>by simp[Array.getD]at hi) (by
  have e:(fun i=>(Array.replicate ol.length false).getD i false)=fun _=>false:=by
   funext i
   simp[Array.getD]
  rw[e];exact h0) (fun i d _ hd=>by
  have hd':(ol[i]?).bind (·.dst)=some d:=by simpa using hd
  simp[hd'])
 have hsame:=patchS_same (fun i=>(((ol[i]?).bind (·.dst)).map (fun d=>l.getD d undef)).getD undef) l 0 ds ha (fun x hx _=>by
  have:=(hd1 x hx).2;rw[this];simp)
 rw[hsame]at init
 simpa using init
/-- What operation j must do: own value v, what is kept of the others. -/
def ObL (P:Program) (n:Nat) (ops:Array Oper) (l:List Value) (df:List Deferred) (ds:List (Nat×Nat)) (anc:List (List Nat)) (W:Nat→Value→(Nat→Value)→World→Prop) (G:(Nat→Bool)→World→Prop) (j:Nat) (o:Oper):Prop :=
 ∀ L xs w,G L w→L j=false→(∀ i,(anc.getD j []).contains i=true→L i=true)→(∀ i,(anc.getD i []).contains j=true→L i=false)→(∀ i,(anc.getD j []).contains i=true→W i (xs i) (mask anc i xs) w)→(∀ i d,(anc.getD i []).contains j=true→(ops[i]?).bind (·.dst)=some d→xs i=l.getD d undef) →
  OpGoal P ops o ⟨(patchS 0 l ds xs).toArray,df⟩ w (fun v w'=>W j v (mask anc j xs) w'∧G (updL L j) w'∧∀ i,i<n→i≠j→(anc.getD i []).contains j=false→∀ own ys,W i own ys w→W i own ys w')
def ObsL (P:Program) (n:Nat) (ops:Array Oper) (l:List Value) (df:List Deferred) (ds:List (Nat×Nat)) (anc:List (List Nat)) (W:Nat→Value→(Nat→Value)→World→Prop) (G:(Nat→Bool)→World→Prop):Nat→List Oper→Prop
 | _,[]=>True
 | j,o::os=>ObL P n ops l df ds anc W G j o∧ObsL P n ops l df ds anc W G (j+1) os
theorem ObsL.get {P:Program} {n:Nat} {ops:Array Oper} {l:List Value} {df:List Deferred} {ds:List (Nat×Nat)} {anc:List (List Nat)} {W:Nat→Value→(Nat→Value)→World→Prop} {G:(Nat→Bool)→World→Prop} :
 ∀ {os:List Oper} {p:Nat},ObsL P n ops l df ds anc W G p os→∀ j o,os[j]?=some o→ObL P n ops l df ds anc W G (p+j) o
 | [],_,_,j,o,h=>by simp at h
 | u::os,p,h,j,o,hj=>by
  cases j with
  | zero=>simp at hj;subst hj;exact h.1
  | succ j =>
   simp at hj;have:=h.2.get j o hj
   rwa [show p+1+j=p+(j+1) by omega]at this
theorem any_inv2L {P:Program} {ol:List Oper} {Q:Exit→Act→World→Prop} {l:List Value} {df:List Deferred} {w0:World}
 (ds:List (Nat×Nat)) (anc:List (List Nat)) (W:Nat→Value→(Nat→Value)→World→Prop) (G:(Nat→Bool)→World→Prop)
 (hds:dsOk ol ds l.length=true) (hanc:ancOk ol anc=true) (hself:(List.range ol.length).all (fun i => !(anc.getD i []).contains i)=true) (h0:G (fun _=>false) w0)
 (hop:ObsL P ol.length ol.toArray l df ds anc W G 0 ol)
 (hend:∀ xs w',(∀ i,i<ol.length→W i (xs i) (mask anc i xs) w')→(∃ L,(∀ i,i<ol.length→L i=true)∧G L w')→Q .normal ⟨(patchS 0 l ds xs).toArray,df⟩ w') :
 wpAny P .any ol.toArray Q ol.length (Array.replicate ol.length false) ⟨l.toArray,df⟩ w0:=by
 refine any_invL ds anc (fun i xs w=>W i (xs i) (mask anc i xs) w) G hds hanc h0 (fun j o hj=>⟨fun L xs w hG hl ha hb hD hI => ?_⟩) hend;have h1:=hop.get j o hj;rw[Nat.zero_add]at h1;have hjl:j<ol.length:=(List.getElem?_eq_some_iff.1 hj).1;have hs:(anc.getD j []).contains j=false:=by
  simp only[List.all_eq_true,List.mem_range]at hself
  simpa using hself j hjl
 have h2:=h1 L xs w hG hl ha hb hD hI;intro Qo K hK hQo;refine h2 Qo K (fun v w' ⟨p1,p2,p3⟩=>hK v w' ⟨?_,p2,fun i hi hne hc hV => ?_⟩) hQo
 ·rw[mask_upd hs,show upd xs j v j=v by simp[upd]];exact p1
 ·rw[mask_upd hc,show upd xs j v i=xs i by simp[upd,hne]];exact p3 i hi hne hc _ _ hV
theorem wp_region_invL {P:Program} {id:Nat} {ol:List Oper} {Q:Exit→Act→World→Prop} {l:List Value} {df:List Deferred} {w0:World}
 (hm:P.follows .mixedOrders=true) (ds:List (Nat×Nat)) (anc:List (List Nat)) (W:Nat→Value→(Nat→Value)→World→Prop) (G:(Nat→Bool)→World→Prop)
 (hds:dsOk ol ds l.length=true) (hanc:ancOk ol anc=true) (hself:(List.range ol.length).all (fun i => !(anc.getD i []).contains i)=true) (h0:G (fun _=>false) w0.drew)
 (hop:ObsL P ol.length ol.toArray l df ds anc W G 0 ol)
 (hend:∀ xs w',(∀ i,i<ol.length→W i (xs i) (mask anc i xs) w')→(∃ L,(∀ i,i<ol.length→L i=true)∧G L w')→Q .normal ⟨(patchS 0 l ds xs).toArray,df⟩ w') :
 (Code.region id ol.toArray true).wp P Q ⟨l.toArray,df⟩ w0:=by
 refine wp_region_any hm ?_;rw[List.size_toArray];exact any_inv2L ds anc W G hds hanc hself h0 hop hend
/-! ### Within a round -/
/-- Left by its end alone. -/
def OnlyNormal (K:Act→World→Prop):Exit→Act→World→Prop
 | .normal,a,w=>K a w
 | _,_,_=>False
theorem rowsIn_wide {n l:Nat} {P:Program} {row:String} {args:Array Value} {w:World} {R:Value→World→Prop} (h:Rows P row args w R):RowsIn (Fence.wide.inRound l) n P row args w R :=
 fun c cs _=>let⟨v,w',r,s⟩:=h c cs;⟨v,w',r,by rw[fenced_inRound];exact stepsIn_wide.2 s⟩
theorem wpIn_of_wp {P:Program} {o:Oper} {a:Act} {w:World} {K K0:Act→World→Prop} {Q:Exit→Act→World→Prop} (l n:Nat) (hnd:∀ c,o.op ≠ .defer c) (h:o.wp P a w K (OnlyNormal K0)):o.wpIn (Fence.wide.inRound l) n P a w K Q:=by
 refine⟨fun _ _=>trivial,?_⟩;rw[Oper.semAt_eq _ _ _ hnd];unfold Oper.wp at h;generalize (execOp a.eval o).run P w=r at *;have hl : ¬ LetsOut (OnlyNormal K0):=by rintro⟨_,_,h⟩;exact h
 cases r with
 | ok x w' =>
  cases x with
  | enter f args =>
   refine⟨fun hd=>by simp[Fence.wide]at hd,CallsIn.inRound l (callsIn_wide.2 (Calls.mono h fun e w'' he => ?_))⟩;cases e with
   | returned v=>exact he
   | panicked c=>exact he.elim
   | outgrown=>exact(hl he).elim
  | row row args=>exact⟨fun hd=>by simp[Fence.wide]at hd,rowsIn_wide h⟩
  | _=>first|exact h|exact h.elim
 | halt x w' =>
  cases x <;> exact h.elim
theorem anyIn_of_any {P:Program} {ops:Array Oper} {Q:Exit→Act→World→Prop} (l n:Nat) (hnd:∀(i:Nat) (o:Oper),ops[i]?=some o→∀ c,o.op ≠ .defer c) :
 ∀(fuel:Nat) (listed:Array Bool) (a:Act) (w:World),wpAny P .any ops (OnlyNormal (Q .normal)) fuel listed a w→wpAnyIn (Fence.wide.inRound l) n P .any ops Q fuel listed a w:=by
 intro fuel
 induction fuel with
 | zero=>intro listed a w h;exact h
 | succ fuel ih =>
  intro listed a w h;refine⟨h.1,fun i hi => ?_⟩;have h2:=h.2 i hi;unfold wpOp at h2;unfold wpOpIn;cases ho:ops[i]? with
  | none=>rw[ho]at h2;exact ih _ _ _ h2
  | some o =>
   rw[ho]at h2;simp only at h2⊢
   by_cases hw:Region.wanted o (yielded ops a.tmps)=true
   ·rw[if_pos hw]at h2⊢;rcases h2 with h2|⟨-,_,_,h3⟩
    ·exact Oper.wpIn_mono (fun a w=>ih _ a w) (wpIn_of_wp l n (hnd i o ho) h2)
    ·exact h3.elim
   ·rw[if_neg hw]at h2⊢;exact⟨fun _ _=>trivial,ih _ _ _ h2⟩
/-- No operation of the list is a deferred call. -/
def noDefer (ol:List Oper):Bool:=ol.all fun o=>match o.op with | .defer _=>false|_=>true
theorem noDefer_get {ol:List Oper} (h:noDefer ol=true) (i:Nat) (o:Oper) (hi:ol.toArray[i]?=some o):∀ c,o.op ≠ .defer c:=by
 intro c hc;unfold noDefer at h;rw[List.all_eq_true]at h;have hm:o∈ol:=by
  have:ol[i]?=some o:=by simpa using hi
  exact List.mem_of_getElem? this
 have:=h o hm;rw[hc]at this;cases this
theorem wpIn_region_invL {P:Program} {id rl rn:Nat} {ol:List Oper} {Q:Exit→Act→World→Prop} {l:List Value} {df:List Deferred} {w0:World}
 (hm:P.follows .mixedOrders=true) (hnd:noDefer ol=true) (ds:List (Nat×Nat)) (anc:List (List Nat)) (W:Nat→Value→(Nat→Value)→World→Prop) (G:(Nat→Bool)→World→Prop)
 (hds:dsOk ol ds l.length=true) (hanc:ancOk ol anc=true) (hself:(List.range ol.length).all (fun i => !(anc.getD i []).contains i)=true) (h0:G (fun _=>false) w0.drew)
 (hop:ObsL P ol.length ol.toArray l df ds anc W G 0 ol)
 (hend:∀ xs w',(∀ i,i<ol.length→W i (xs i) (mask anc i xs) w')→(∃ L,(∀ i,i<ol.length→L i=true)∧G L w')→Q .normal ⟨(patchS 0 l ds xs).toArray,df⟩ w') :
 (Code.region id ol.toArray true).wpIn (Fence.wide.inRound rl) rn P Q ⟨l.toArray,df⟩ w0:=by
 refine wpIn_region_any hm ?_;rw[List.size_toArray];exact anyIn_of_any rl rn (noDefer_get hnd) _ _ _ _ (any_inv2L ds anc W G hds hanc hself h0 hop hend)
/-- The result out of a box R. -/
theorem PicR.at {w wx wy:World} {b P R:Nat} {x y:Int} {a:Option Addr} {c n:Nat} {zs:List Int} (hn:n≤1024) (h1 : -8≤x) (h2:x≤40) (h3:0≤y) (h4:y≤40) (s:Sl wx a n (zs.map (Value.int .i64))) (ha:∀ y,a=some y→w.heap.size≤y.block∧y.block≠R) (r:RdP wx b P) (g:w.grownBy wx (some b)) (hb:b<w.heap.size) (hR:w.heap.size≤R)
 (e:wx.grownBy wy (some R)):PicR w b P (.returned (.agg #[.int .i64 x,.int .i64 y,.slice a n c])) wy:=by
 obtain⟨q,hq1,hq2⟩:=r;exact⟨⟨x,y,zs⟩,a,c,n,rfl,s.int_len.symm,hn,h1,h2,h3,h4,s.grown e (fun u hu=>by have:=ha u hu;simp;omega),fun u hu=>(ha u hu).1,⟨q,hq1,hq2.gr e (fun k hk=>by cases hk;omega)⟩,grown_any g e (fun k hk=>by cases hk;omega)⟩
theorem own_hiU {w w':World} {base e s n:Nat} {v:Value} {xs:List Value} {row:Option Nat} (h:w.ownsRow base e s v n xs) (g:w.grownBy w' row) (hb:∀ q,row=some q→q<base):w'.ownsRow base e s v n xs:=by
 refine h.kept g ?_;cases hv:v.ownBlock with
 | none=>exact .inl rfl
 | some k=>right;intro e;have h1:=owns_ge h k hv;have h2:=hb k e.symm;omega
theorem RdP.gr {w w':World} {b P:Nat} {row:Option Nat} (h:RdP w b P) (g:w.grownBy w' row) (hr:∀ k,row=some k→b<k):RdP w' b P:=by
 obtain⟨q,hq1,hq2⟩:=h;exact⟨q,hq1,hq2.gr g hr⟩
/-- What holds while a picture like p is drawn: p's box, the result's box, p's samples. -/
structure NB (w : World) (b O : Nat) (p : Pic) (a : Option Addr) (n c : Nat) (wx : World) : Prop where
 gr:w.grownBy wx (some b)
 pbx:wx.heap[w.heap.size]?=some (.cells #[.int .i64 p.w,.int .i64 p.h,.slice a n c] 25 (0,0))
 res:wx.heap[w.heap.size+1]?=some (.cells #[.int .i64 0,.int .i64 0,.slice none 0 0] 25 (0,0))
 sl:Sl wx a n (p.px.map (Value.int .i64))
 lo:b<w.heap.size
 hO:w.heap.size+1<O
 ha:∀ y,a=some y→y.block<w.heap.size∧y.block≠b
theorem NB.grb {w wx wy:World} {b O n c:Nat} {p:Pic} {a:Option Addr} (h:NB w b O p a n c wx) (g:wx.grownBy wy (some b)):NB w b O p a n c wy:=by
 have h1:=h.lo;have h2:=h.hO;exact⟨grown_trans h.gr g,blk_gr h.pbx g (by simp;omega),blk_gr h.res g (by simp;omega),h.sl.grown g (fun u hu=>by have:=h.ha u hu;simp;omega),h1,h2,h.ha⟩
theorem NB.up {w wx:World} {b O O' n c:Nat} {p:Pic} {a:Option Addr} (h:NB w b O p a n c wx) (hO:O≤O'):NB w b O' p a n c wx :=
 ⟨h.gr,h.pbx,h.res,h.sl,h.lo,by have:=h.hO;omega,h.ha⟩
theorem NB.gro {w wx wy:World} {b O n c:Nat} {p:Pic} {a:Option Addr} {row:Option Nat} (h:NB w b O p a n c wx) (g:wx.grownBy wy row) (hr:∀ k,row=some k→O≤k):NB w b O p a n c wy:=by
 have h1:=h.lo;have h2:=h.hO;exact⟨grown_any h.gr g (fun k hk=>by have:=hr k hk;omega),blk_gr h.pbx g (fun e=>by have:=hr _ e;omega),blk_gr h.res g (fun e=>by have:=hr _ e;omega),h.sl.grown g (fun u hu e=>by have:=h.ha u hu;have:=hr _ e.symm;omega),h1,h2,h.ha⟩
def NX (w:World) (b O HI:Nat) (p:Pic) (a:Option Addr) (n c W H Q:Nat) (a2:Option Addr) (k c2:Nat) (zs:List Int) (l18 l25:Bool) (wx:World):Prop :=
 NB w b O p a n c wx∧RdP wx b (Q+1)∧(l18=false→RdP wx b Q)∧(∃ z,wx.heap[O]?=some (.cells #[.int .i64 W,.int .i64 H,z] 25 (0,0))∧(l25=false→z= .slice a2 k c2))∧wx.ownsRow (O+1) 3 1 (.slice a2 k c2) k (zs.map (Value.int .i64))∧HI≤wx.heap.size
section
variable {w wx wy : World} {b O HI n c W H Q k c2 : Nat} {p : Pic} {a a2 : Option Addr} {zs : List Int} {l18 l25 : Bool}
theorem NX.step (h:NX w b O HI p a n c W H Q a2 k c2 zs l18 l25 wx):NX w b O HI p a n c W H Q a2 k c2 zs l18 l25 wx:=h
theorem NX.ext (h:NX w b O HI p a n c W H Q a2 k c2 zs l18 l25 wx) (e:Ext wx wy):NX w b O HI p a n c W H Q a2 k c2 zs l18 l25 wy:=by
 obtain⟨h1,h2,h3,⟨z,h4,h5⟩,h6,h7⟩:=h;exact⟨h1.grb (ext_gr e),h2.ext e,fun x=>(h3 x).ext e,⟨z,e.blk h4,h5⟩,owns_ext h6 e,Nat.le_trans h7 e.size⟩
theorem NX.pick (h:NX w b O HI p a n c W H Q a2 k c2 zs l18 l25 wx) (g:wx.grownBy wy (some b)) (r:RdP wy b (Q+1)):NX w b O HI p a n c W H Q a2 k c2 zs true l25 wy:=by
 obtain⟨h1,h2,h3,⟨z,h4,h5⟩,h6,h7⟩:=h;have q1:=h1.lo;have q2:=h1.hO;exact⟨h1.grb g,r,(fun x=>Bool.noConfusion x),⟨z,blk_gr h4 g (by simp;omega),h5⟩,own_gr h6 g (by omega),Nat.le_trans h7 g.size⟩
theorem NX.app (h:NX w b O HI p a n c W H Q a2 k c2 zs l18 l25 wx) (g:wx.grownBy wy (Value.slice a2 k c2).ownBlock) (o:wy.ownsRow (O+1) 3 1 (.slice a2 k c2) k (zs.map (Value.int .i64))):NX w b O HI p a n c W H Q a2 k c2 zs l18 l25 wy:=by
 obtain⟨h1,h2,h3,⟨z,h4,h5⟩,h6,h7⟩:=h;have q1:=h1.lo;have q2:=h1.hO;have hge:=owns_ge h6;exact⟨h1.gro g (fun k hk=>by have:=hge k hk;omega),h2.gr g (fun k hk=>by have:=hge k hk;omega),fun x=>(h3 x).gr g (fun k hk=>by have:=hge k hk;omega),⟨z,blk_gr h4 g (fun e=>by have:=hge _ e;omega),h5⟩,o,Nat.le_trans h7 g.size⟩
theorem NX.put {v:Value} (h:NX w b O HI p a n c W H Q a2 k c2 zs l18 l25 wx) (g:wx.grownBy wy (some O)) (hb:wy.heap[O]?=some (.cells #[.int .i64 W,.int .i64 H,v] 25 (0,0))):NX w b O HI p a n c W H Q a2 k c2 zs l18 true wy:=by
 obtain⟨h1,h2,h3,⟨z,h4,h5⟩,h6,h7⟩:=h;have q1:=h1.lo;have q2:=h1.hO;exact⟨h1.gro g (fun k hk=>by cases hk;omega),h2.gr g (fun k hk=>by cases hk;omega),fun x=>(h3 x).gr g (fun k hk=>by cases hk;omega),⟨v,hb,(fun x=>Bool.noConfusion x)⟩,own_gr h6 g (by omega),Nat.le_trans h7 g.size⟩
end
theorem l20Next_c (b P:Nat) (p:Pic) (a:Option Addr) (c n:Nat) (w:World) (h:RdP w b P) (hp:P<2^36) (hn:n=p.px.length) (hn2:n≤1024) (s:Sl w a n (p.px.map (Value.int .i64))) (ha:∀ y,a=some y→y.block≠b) :
 Calls Tryz.prog 34 #[.pointer (some ⟨b,0,none⟩),.agg #[.int .i64 p.w,.int .i64 p.h,.slice a n c]] w (PicR w b (P+2200)):=by
 have hbw:b<w.heap.size:=h.lt;have e0:Ext w ((w.alloc (.cells #[.int .i64 p.w,.int .i64 p.h,.slice a n c] 25)).alloc (.cells #[.int .i64 0,.int .i64 0,.slice none 0 0] 25)):=(Ext.alloc w (.cells #[.int .i64 p.w,.int .i64 p.h,.slice a n c] 25)).trans (Ext.alloc _ _);have P0:=(Ext.alloc (w.alloc (.cells #[.int .i64 p.w,.int .i64 p.h,.slice a n c] 25)) (.cells #[.int .i64 0,.int .i64 0,.slice none 0 0] 25)).blk (blk_new w (.cells #[.int .i64 p.w,.int .i64 p.h,.slice a n c] 25));have R0:=blk_new (w.alloc (.cells #[.int .i64 p.w,.int .i64 p.h,.slice a n c] 25)) (.cells #[.int .i64 0,.int .i64 0,.slice none 0 0] 25);rw[World.size_alloc]at R0;have s0:=s.ext e0;have r0:=h.ext e0;have G0:w.grownBy _ (some b):=ext_gr e0;have HN:=Lib.hid hn;have HS:=Lib.hid s;clear hn;go_enter Tryz.func34,Tryz.ntmps34
 go_upto_region 1 with fail
 try simp only[World.size_alloc]
 generalize (w.alloc (.cells #[.int .i64 p.w,.int .i64 p.h,.slice a n c] 25)).alloc (.cells #[.int .i64 0,.int .i64 0,.slice none 0 0] 25)=w0 at *;obtain⟨-,k0,k1,k2,-⟩:=bx3 P0;clear h e0 s;go_wp2_with fail
 refine(spec_PictureValid_any p a c n _ HN.out (by omega) s0).mono ?_
 rintro e w1 ⟨rfl,e1⟩
 have P1:=e1.blk P0;have R1:=e1.blk R0;have s1:=s0.ext e1;have r1:=r0.ext e1;have G1:=grown_ext G0 e1;clear P0 R0 s0 r0 G0 e1 k0 k1 k2
 by_cases hv:p.valid
 ·rw[decide_eq_true hv];have HV:=Lib.hid hv;have hl:=Pic.len_le hv;rw[←HN.out]at hl;have hsz:w.heap.size+2≤w1.heap.size:=by have:=lt_of_block R1;omega
  obtain⟨W,hW⟩:∃ W:Nat,p.w=W:=⟨p.w.toNat,by have:=hv.1.1;omega⟩;obtain⟨H,hH⟩:∃ H:Nat,p.h=H:=⟨p.h.toNat,by have:=hv.2.1.1;omega⟩;have hw1:=hv.1;have hh1:=hv.2.1;rw[hW]at hw1;rw[hH]at hh1;obtain⟨hw1,hw2,-⟩:=hw1;obtain⟨hh1,hh2,-⟩:=hh1;have hlo:=fun y hy=>sl_bound HS.out y hy (show 0<n by omega)
  have D1:NB w b (w.heap.size+2) p a n c w1:=⟨G1,P1,R1,s1,hbw,by omega,fun y hy=>⟨hlo y hy,ha y hy⟩⟩;have HW:=Lib.hid hW;have HH:=Lib.hid hH;clear hv hW hH G1 P1 R1 s1 hlo ha;go_wp2_with fail
  refine(pick_c b _ 7 _ r1 (by omega) (by omega) (by omega)).mono ?_
  rintro e wa ⟨dx,rfl,dxa,dxb,r2,ga⟩
  have D2:=D1.grb ga;clear D1 r1 ga;go_wp2_with fail
  refine(pick_c b _ 7 _ r2 (by omega) (by omega) (by omega)).mono ?_
  rintro e wb ⟨dy,rfl,dya,dyb,r3,ga⟩
  have D3:=D2.grb ga;clear D2 r2 ga;have e4:=Ext.alloc wb (.cells #[.int .i64 1,.int .i64 1,.int .i64 3,.int .i64 40] 3);have S4:=blk_new wb (.cells #[.int .i64 1,.int .i64 1,.int .i64 3,.int .i64 40] 3);have D4:=D3.grb (ext_gr e4);have hsz3:=lt_of_block D3.res;go_wp2_with fail
  refine(pick_c b _ 4 _ (r3.ext e4) (by omega) (by omega) (by omega)).mono ?_
  rintro e wc ⟨ni,rfl,nia,nib,r5,ga⟩
  have S5:=gr_blk ga S4 (by omega);have D5:=D4.grb ga;clear D4 D3 r3 e4 S4 ga;have hc:∃ nz:Int,wc.cell? ⟨wb.heap.size,ni.toNat,none⟩=some (.int .i64 nz)∧1≤nz∧nz≤40:=by
   obtain rfl|rfl|rfl|rfl:ni=0∨ni=1∨ni=2∨ni=3:=by omega
   ·exact⟨1,by simp[World.cell?,S5],by omega,by omega⟩
   ·exact⟨1,by simp[World.cell?,S5],by omega,by omega⟩
   ·exact⟨3,by simp[World.cell?,S5],by omega,by omega⟩
   ·exact⟨40,by simp[World.cell?,S5],by omega,by omega⟩
  obtain⟨nz,hc5,nza,nzb⟩:=hc;have hsz5:=lt_of_block D5.res;clear S5;obtain⟨O,hO⟩:∃ O,O=wc.heap.size:=⟨_,rfl⟩;obtain⟨-,k0,k1,k2,-⟩:=bx3 D5.pbx;rw[HW.out]at k0;rw[HH.out]at k1;go_upto_region 7 with fail
  have e6:=Ext.alloc wc (.cells #[.int .i64 W,.int .i64 H,.slice none 0 0] 25);have B6:=blk_new wc (.cells #[.int .i64 W,.int .i64 H,.slice none 0 0] 25);have D6:NB w b O p a n c (wc.alloc (.cells #[.int .i64 W,.int .i64 H,.slice none 0 0] 25)):=(D5.up (by omega)).grb (ext_gr e6);have r6:=r5.ext e6;rw[←hO]at B6;rw[←hO];generalize wc.alloc (.cells #[.int .i64 W,.int .i64 H,.slice none 0 0] 25)=w6 at *;clear D5 r5 e6 k0 k1 k2 hc5;have hbO:b<O:=by omega
  have hszO:w.heap.size+1<O:=by omega
  clear hO hsz5 hsz3 hsz;go_wp2_with fail
  go_loopw [9] (fun y wr=>∃(k:Nat) (v:Value) (zs:List Int),k≤n∧y= .int .i64 k∧zs.length=k∧NB w b O p a n c wr∧RdP wr b (P+10+k)∧wr.heap[O]?=some (.cells #[.int .i64 W,.int .i64 H,v] 25 (0,0))∧wr.ownsRow (O+1) 3 1 v k (zs.map (Value.int .i64))) (fun y _=>n-(intOf y).toNat)
  case atStart=>exact⟨0,_,[],by omega,rfl,rfl,D6,r6.mono (by omega),B6,World.ownsRow_nil _ _ _ _⟩
  case round =>
   obtain⟨k,v,zs,hk,rfl,hl7,D7,r7,B7,o7⟩:=hrel;clear D6 r6 B6;have HL:=Lib.hid hl7;clear hl7;obtain⟨a2,c2,rfl⟩:=owns_form o7;obtain⟨-,k0,k1,k2,-⟩:=bx3 D7.pbx;rw[HW.out]at k0;rw[HH.out]at k1
   by_cases hlt:k<n
   ·have hdk:decide (k<n)=true:=by simpa using hlt
    go_wp2_with fail
    obtain⟨HI,hHI⟩:∃ HI,HI=wr.heap.size:=⟨_,rfl⟩;have hHI2:HI≤wr.heap.size:=by omega
    have hOH:O+1≤HI:=by have:=lt_of_block B7;omega
    have hvl:∀ q,(Value.slice a2 k c2).ownBlock=some q→q<HI:=fun q hq=>by rw[hHI];exact(o7.lt q hq).2
    clear hHI;have hext:Stab (fun wa wb=>wa.grownBy wb (some b)) (fun i own ys wx=>match i with|0=>own= .pointer (some ⟨O,2,none⟩)|1=>own= .slice a2 k c2|2=>own= .agg #[.int .i64 p.w,.int .i64 p.h,.slice a n c]|3=>own= .int .i64 k|4=>own= .pointer (some ⟨w.heap.size,0,none⟩)|5=>own= .int .i64 W|6=>∃ x:Int,own= .int .i64 x∧0≤x∧x≤1023|7=>own= .int .i64 (dx-3)|8=>∃ x:Int,own= .int .i64 x ∧ -3≤x∧x≤1026|9=>own= .int .i64 k|10=>own= .pointer (some ⟨w.heap.size,0,none⟩)|11=>own= .int .i64 W|12=>∃ x:Int,own= .int .i64 x∧0≤x∧x≤1023|13=>own= .int .i64 (dy-3)|14=>∃ x:Int,own= .int .i64 x ∧ -3≤x∧x≤1026|15=>∃ x:Int,own= .int .i64 x∧0≤x∧x≤255|16=>own= .pointer (some ⟨b,0,none⟩)|17=>own= .int .i64 nz|18=>∃ x:Int,own= .int .i64 x∧0≤x∧x≤40|19=>∃ x:Int,own= .int .i64 x∧0≤x∧x≤300|20=>∃ x:Int,own= .int .i64 x∧0≤x∧x≤255|21=>∃ x:Int,own= .int .i64 x∧0≤x∧x≤255|22=>∃(q:Nat) (z:Int),own= .slice (some ⟨q,0,none⟩) 1 1∧wx.ownsRow HI 3 1 (.slice (some ⟨q,0,none⟩) 1 1) 1 [.int .i64 z]|23=>∃(a3:Option Addr) (c3:Nat) (z:Int),own= .slice a3 (k+1) c3∧wx.ownsRow (O+1) 3 1 (.slice a3 (k+1) c3) (k+1) ((zs ++ [z]).map (Value.int .i64))|24=>own= .pointer (some ⟨O,2,none⟩)|25=>∃(a3:Option Addr) (c3:Nat) (z:Int),wx.heap[O]?=some (.cells #[.int .i64 W,.int .i64 H,.slice a3 (k+1) c3] 25 (0,0))∧wx.ownsRow (O+1) 3 1 (.slice a3 (k+1) c3) (k+1) ((zs ++ [z]).map (Value.int .i64))|_=>True):=by
     intro i own ys wa wb e h
     match i,h with
     | 0,h|1,h|2,h|3,h|4,h|5,h|6,h|7,h|8,h|9,h|10,h|11,h|12,h|13,h|14,h|15,h|16,h|17,h|18,h|19,h|20,h|21,h|24,h=>exact h
     | 22,h=>obtain⟨q9,z9,h1,h2⟩:=h;exact⟨q9,z9,h1,own_gr h2 e (by omega)⟩
     | 23,h=>obtain⟨a9,c9,z9,h1,h2⟩:=h;exact⟨a9,c9,z9,h1,own_gr h2 e (by omega)⟩
     | 25,h=>obtain⟨a9,c9,z9,h1,h2⟩:=h;exact⟨a9,c9,z9,blk_gr h1 e (by simp;omega),own_gr h2 e (by omega)⟩
     | _+26,_=>trivial
    have Hext:=Lib.hid hext;clear hext;refine wp_region_invL (by kernel_rfl) [(38,0),(39,1),(40,2),(41,3),(42,4),(43,5),(44,6),(45,7),(46,8),(47,9),(48,10),(49,11),(50,12),(51,13),(52,14),(53,15),(54,16),(55,17),(56,18),(57,19),(58,20),(59,21),(60,22),(61,23),(62,24)] [[],[0],[],[],[],[4],[3,4,5],[],[3,4,5,6,7],[],[],[10],[9,10,11],[],[9,10,11,12,13],[2,3,4,5,6,7,8,9,10,11,12,13,14],[],[],[2,3,4,5,6,7,8,9,10,11,12,13,14,15,16,17],[2,3,4,5,6,7,8,9,10,11,12,13,14,15,16,17,18],[2,3,4,5,6,7,8,9,10,11,12,13,14,15,16,17,18,19],[2,3,4,5,6,7,8,9,10,11,12,13,14,15,16,17,18,19,20],[2,3,4,5,6,7,8,9,10,11,12,13,14,15,16,17,18,19,20,21],[0,1,2,3,4,5,6,7,8,9,10,11,12,13,14,15,16,17,18,19,20,21,22],[0,1,2,3,4,5,6,7,8,9,10,11,12,13,14,15,16,17,18,19,20,21,22,23],[0,1,2,3,4,5,6,7,8,9,10,11,12,13,14,15,16,17,18,19,20,21,22,23,24]] (fun i own ys wx=>match i with|0=>own= .pointer (some ⟨O,2,none⟩)|1=>own= .slice a2 k c2|2=>own= .agg #[.int .i64 p.w,.int .i64 p.h,.slice a n c]|3=>own= .int .i64 k|4=>own= .pointer (some ⟨w.heap.size,0,none⟩)|5=>own= .int .i64 W|6=>∃ x:Int,own= .int .i64 x∧0≤x∧x≤1023|7=>own= .int .i64 (dx-3)|8=>∃ x:Int,own= .int .i64 x ∧ -3≤x∧x≤1026|9=>own= .int .i64 k|10=>own= .pointer (some ⟨w.heap.size,0,none⟩)|11=>own= .int .i64 W|12=>∃ x:Int,own= .int .i64 x∧0≤x∧x≤1023|13=>own= .int .i64 (dy-3)|14=>∃ x:Int,own= .int .i64 x ∧ -3≤x∧x≤1026|15=>∃ x:Int,own= .int .i64 x∧0≤x∧x≤255|16=>own= .pointer (some ⟨b,0,none⟩)|17=>own= .int .i64 nz|18=>∃ x:Int,own= .int .i64 x∧0≤x∧x≤40|19=>∃ x:Int,own= .int .i64 x∧0≤x∧x≤300|20=>∃ x:Int,own= .int .i64 x∧0≤x∧x≤255|21=>∃ x:Int,own= .int .i64 x∧0≤x∧x≤255|22=>∃(q:Nat) (z:Int),own= .slice (some ⟨q,0,none⟩) 1 1∧wx.ownsRow HI 3 1 (.slice (some ⟨q,0,none⟩) 1 1) 1 [.int .i64 z]|23=>∃(a3:Option Addr) (c3:Nat) (z:Int),own= .slice a3 (k+1) c3∧wx.ownsRow (O+1) 3 1 (.slice a3 (k+1) c3) (k+1) ((zs ++ [z]).map (Value.int .i64))|24=>own= .pointer (some ⟨O,2,none⟩)|25=>∃(a3:Option Addr) (c3:Nat) (z:Int),wx.heap[O]?=some (.cells #[.int .i64 W,.int .i64 H,.slice a3 (k+1) c3] 25 (0,0))∧wx.ownsRow (O+1) 3 1 (.slice a3 (k+1) c3) (k+1) ((zs ++ [z]).map (Value.int .i64))|_=>True) (fun Lx wx=>NX w b O HI p a n c W H (P+10+k) a2 k c2 zs (Lx 18) (Lx 25) wx) (by kernel_rfl) (by kernel_rfl) (by kernel_rfl) ?g0_r1 ?gop_r1 ?gend_r1
    case g0_r1=>exact⟨D7.grb (ext_gr (Ext.drewN _ 1)),r7.drew.mono (by omega),fun _=>r7.drew,⟨_,B7,fun _=>rfl⟩,o7,hHI2⟩
    case gop_r1 =>
     refine⟨?_,?o1,?o2,?_,?_,?o5,?o6,?_,?o8,?_,?_,?o11,?o12,?_,?o14,?o15,?_,?_,?o18,?o19,?o20,?o21,?o22,?o23,?_,?o25,trivial⟩ <;> (intro Lx xs wx hG hl ha hb hD hI Qo Kx hK hQo;simp only[patchS,Nat.reduceAdd,Nat.reduceEqDiff,↓reduceIte]at hQo⊢)
     case o1 =>
      have l25:Lx 25=false:=hb 25 rfl;clear hl ha hb;rw[ddq (hD 0 rfl)]at hQo⊢;clear hD hI;obtain⟨z,g1,g2⟩:=hG.2.2.2.1;obtain rfl:=g2 l25;obtain⟨-,k0,k1,k2,-⟩:=bx3 g1;go_wp2;exact hK.out _ _ ⟨rfl,hG.step,kkp⟩
     case o2 =>
      clear hl ha hb hD hI;obtain⟨-,k0,k1,k2,-⟩:=bx3 hG.1.pbx;go_wp2;exact hK.out _ _ ⟨rfl,hG.step,kkp⟩
     case o5 =>
      clear hl ha hb;rw[ddq (hD 4 rfl)]at hQo⊢;clear hD hI;obtain⟨-,k0,k1,k2,-⟩:=bx3 hG.1.pbx;rw[HW.out]at k0;go_wp2;exact hK.out _ _ ⟨rfl,hG.step,kkp⟩
     case o6 =>
      clear hl ha hb;rw[ddq (hD 3 rfl),ddq (hD 5 rfl)]at hQo⊢;clear hD hI;obtain⟨hm1,hm2,hm3⟩:=mod_rng (a:=(k:Int)) (b:=(W:Int)) (by omega) (by omega);go_wp2;exact hK.out _ _ ⟨⟨_,rfl,by omega,by omega⟩,hG.step,kkp⟩
     case o8 =>
      clear hl ha hb;rw[ddq (hD 7 rfl)]at hQo⊢;have d6:∃ x:Int,(xs 6) = .int .i64 x∧0≤x∧x≤1023:=hD 6 rfl;clear hD hI;generalize xs 6=y6 at *;obtain⟨x6,rfl,x6a,x6b⟩:=d6;go_wp2;exact hK.out _ _ ⟨⟨_,rfl,by omega,by omega⟩,hG.step,kkp⟩
     case o11 =>
      clear hl ha hb;rw[ddq (hD 10 rfl)]at hQo⊢;clear hD hI;obtain⟨-,k0,k1,k2,-⟩:=bx3 hG.1.pbx;rw[HW.out]at k0;go_wp2;exact hK.out _ _ ⟨rfl,hG.step,kkp⟩
     case o12 =>
      clear hl ha hb;rw[ddq (hD 9 rfl),ddq (hD 11 rfl)]at hQo⊢;clear hD hI;obtain⟨hm1,hm2⟩:=div_rng (a:=(k:Int)) (b:=(W:Int)) (by omega) (by omega);go_wp2;exact hK.out _ _ ⟨⟨_,rfl,by omega,by omega⟩,hG.step,kkp⟩
     case o14 =>
      clear hl ha hb;rw[ddq (hD 13 rfl)]at hQo⊢;have d12:∃ x:Int,(xs 12) = .int .i64 x∧0≤x∧x≤1023:=hD 12 rfl;clear hD hI;generalize xs 12=y12 at *;obtain⟨x12,rfl,x12a,x12b⟩:=d12;go_wp2;exact hK.out _ _ ⟨⟨_,rfl,by omega,by omega⟩,hG.step,kkp⟩
     case o15 =>
      clear hl ha hb;rw[ddq (hD 2 rfl)]at hQo⊢;have d8:∃ x:Int,(xs 8) = .int .i64 x ∧ -3≤x∧x≤1026:=hD 8 rfl;have d14:∃ x:Int,(xs 14) = .int .i64 x ∧ -3≤x∧x≤1026:=hD 14 rfl;clear hD hI;generalize xs 8=y8 at *;generalize xs 14=y14 at *;obtain⟨x8,rfl,x8a,x8b⟩:=d8;obtain⟨x14,rfl,x14a,x14b⟩:=d14;go_wp2_with fail
      refine(l1At_any p x8 x14 a c n _ HV.out HN.out (hG.1.sl)).mono ?_
      rintro e wz ⟨rfl,ez⟩
      go_wp2;have hr:=pat_rng HV.out x8 x14;exact hK.out _ _ ⟨⟨_,rfl,hr.1,hr.2⟩,hG.ext ez,fun i _ _ _ own ys h=>Hext.out i own ys _ _ (ext_gr ez) h⟩
     case o18 =>
      have l18:Lx 18=false:=hl;clear hl ha hb;rw[ddq (hD 16 rfl),ddq (hD 17 rfl)]at hQo⊢;clear hD hI;go_wp2_with fail
      refine(pick_c b _ nz _ (hG.2.2.1 l18) (by omega) (by omega) (by omega)).mono ?_
      rintro e wz ⟨xx,rfl,xa,xb,rd,gr⟩
      go_wp2;exact hK.out _ _ ⟨⟨xx,rfl,xa,by omega⟩,hG.pick gr rd,fun i _ _ _ own ys h=>Hext.out i own ys _ _ gr h⟩
     case o19 =>
      clear hl ha hb;have d15:∃ x:Int,(xs 15) = .int .i64 x∧0≤x∧x≤255:=hD 15 rfl;have d18:∃ x:Int,(xs 18) = .int .i64 x∧0≤x∧x≤40:=hD 18 rfl;clear hD hI;generalize xs 15=y15 at *;generalize xs 18=y18 at *;obtain⟨x15,rfl,x15a,x15b⟩:=d15;obtain⟨x18,rfl,x18a,x18b⟩:=d18;go_wp2;exact hK.out _ _ ⟨⟨_,rfl,by omega,by omega⟩,hG.step,kkp⟩
     case o20 =>
      clear hl ha hb;have d19:∃ x:Int,(xs 19) = .int .i64 x∧0≤x∧x≤300:=hD 19 rfl;clear hD hI;generalize xs 19=y19 at *;obtain⟨x19,rfl,x19a,x19b⟩:=d19;go_wp2;all_goals exact hK.out _ _ ⟨⟨_,rfl,by omega,by omega⟩,hG,fun _ _ _ _ _ _ h=>h⟩
     case o21 =>
      clear hl ha hb;have d20:∃ x:Int,(xs 20) = .int .i64 x∧0≤x∧x≤255:=hD 20 rfl;clear hD hI;generalize xs 20=y20 at *;obtain⟨x20,rfl,x20a,x20b⟩:=d20;go_wp2;all_goals exact hK.out _ _ ⟨⟨_,rfl,by omega,by omega⟩,hG,fun _ _ _ _ _ _ h=>h⟩
     case o22 =>
      clear hl ha hb;have d21:∃ x:Int,(xs 21) = .int .i64 x∧0≤x∧x≤255:=hD 21 rfl;clear hD hI;generalize xs 21=y21 at *;obtain⟨x21,rfl,x21a,x21b⟩:=d21;have e8:=Ext.alloc wx (.cells #[.int .i64 x21] 3);have o9:=World.ownsRow_lit (base:=HI) (e:=3) (size:=1) wx #[.int .i64 x21] 1 hG.2.2.2.2.2 (by unfold maxLen;omega) rfl;go_wp2;exact hK.out _ _ ⟨⟨_,_,rfl,o9⟩,hG.ext e8,fun i _ _ _ own ys h=>Hext.out i own ys _ _ (ext_gr e8) h⟩
     case o23 =>
      clear hl ha hb;rw[ddq (hD 1 rfl)]at hQo⊢;have d22:∃(q:Nat) (z:Int),(xs 22) = .slice (some ⟨q,0,none⟩) 1 1∧wx.ownsRow HI 3 1 (.slice (some ⟨q,0,none⟩) 1 1) 1 [.int .i64 z]:=hD 22 rfl;clear hD hI;generalize xs 22=y22 at *;obtain⟨q22,z22,rfl,o22⟩:=d22;refine wpList_appk _ rfl hG.2.2.2.2.1 (Nat.le_trans hOH hG.2.2.2.2.2) _ _ _ rfl (.int .i64 0) 8 Tryz.underlying23 info_int rfl (by decide) rfl ⟨q22,0,none⟩ 1 1 _ rfl rfl (o22.cells rfl) (by intro u hu;simp at hu;subst hu;rfl) (by omega) (by omega) ?_;intro v14 w14 own14 gr14 keep14;obtain⟨a14,c14,rfl⟩:=owns_form own14;have hst:∀(wy:World),(∀ e' own n' xs',wx.ownsRow HI e' 1 own n' xs'→wy.ownsRow HI e' 1 own n' xs')→Stbn 26 23 [[],[0],[],[],[],[4],[3,4,5],[],[3,4,5,6,7],[],[],[10],[9,10,11],[],[9,10,11,12,13],[2,3,4,5,6,7,8,9,10,11,12,13,14],[],[],[2,3,4,5,6,7,8,9,10,11,12,13,14,15,16,17],[2,3,4,5,6,7,8,9,10,11,12,13,14,15,16,17,18],[2,3,4,5,6,7,8,9,10,11,12,13,14,15,16,17,18,19],[2,3,4,5,6,7,8,9,10,11,12,13,14,15,16,17,18,19,20],[2,3,4,5,6,7,8,9,10,11,12,13,14,15,16,17,18,19,20,21],[0,1,2,3,4,5,6,7,8,9,10,11,12,13,14,15,16,17,18,19,20,21,22],[0,1,2,3,4,5,6,7,8,9,10,11,12,13,14,15,16,17,18,19,20,21,22,23],[0,1,2,3,4,5,6,7,8,9,10,11,12,13,14,15,16,17,18,19,20,21,22,23,24]] (fun i own ys wx=>match i with|0=>own= .pointer (some ⟨O,2,none⟩)|1=>own= .slice a2 k c2|2=>own= .agg #[.int .i64 p.w,.int .i64 p.h,.slice a n c]|3=>own= .int .i64 k|4=>own= .pointer (some ⟨w.heap.size,0,none⟩)|5=>own= .int .i64 W|6=>∃ x:Int,own= .int .i64 x∧0≤x∧x≤1023|7=>own= .int .i64 (dx-3)|8=>∃ x:Int,own= .int .i64 x ∧ -3≤x∧x≤1026|9=>own= .int .i64 k|10=>own= .pointer (some ⟨w.heap.size,0,none⟩)|11=>own= .int .i64 W|12=>∃ x:Int,own= .int .i64 x∧0≤x∧x≤1023|13=>own= .int .i64 (dy-3)|14=>∃ x:Int,own= .int .i64 x ∧ -3≤x∧x≤1026|15=>∃ x:Int,own= .int .i64 x∧0≤x∧x≤255|16=>own= .pointer (some ⟨b,0,none⟩)|17=>own= .int .i64 nz|18=>∃ x:Int,own= .int .i64 x∧0≤x∧x≤40|19=>∃ x:Int,own= .int .i64 x∧0≤x∧x≤300|20=>∃ x:Int,own= .int .i64 x∧0≤x∧x≤255|21=>∃ x:Int,own= .int .i64 x∧0≤x∧x≤255|22=>∃(q:Nat) (z:Int),own= .slice (some ⟨q,0,none⟩) 1 1∧wx.ownsRow HI 3 1 (.slice (some ⟨q,0,none⟩) 1 1) 1 [.int .i64 z]|23=>∃(a3:Option Addr) (c3:Nat) (z:Int),own= .slice a3 (k+1) c3∧wx.ownsRow (O+1) 3 1 (.slice a3 (k+1) c3) (k+1) ((zs ++ [z]).map (Value.int .i64))|24=>own= .pointer (some ⟨O,2,none⟩)|25=>∃(a3:Option Addr) (c3:Nat) (z:Int),wx.heap[O]?=some (.cells #[.int .i64 W,.int .i64 H,.slice a3 (k+1) c3] 25 (0,0))∧wx.ownsRow (O+1) 3 1 (.slice a3 (k+1) c3) (k+1) ((zs ++ [z]).map (Value.int .i64))|_=>True) wx wy:=by
       intro wy hy ii hii hne hc own ys h
       match ii,h with
       | 0,h|1,h|2,h|3,h|4,h|5,h|6,h|7,h|8,h|9,h|10,h|11,h|12,h|13,h|14,h|15,h|16,h|17,h|18,h|19,h|20,h|21,h=>exact h
       | 22,h=>obtain⟨q9,z9,h1,h2⟩:=h;exact⟨q9,z9,h1,hy _ _ _ _ h2⟩
       | 23,h=>exact absurd rfl hne
       | 24,h|25,h=>exact absurd hc (by decide)
       | _+26,_=>trivial
      exact hQo _ _ (hK.out _ _ ⟨⟨_,_,z22,rfl,by rw[List.map_append];exact own14⟩,hG.app gr14 (keep14 _ _ _ _ (Nat.le_refl _) hG.2.2.2.2.1),hst _ (fun _ _ _ _ h=>own_hiU h gr14 hvl)⟩)
     case o25 =>
      have l25:Lx 25=false:=hl;clear hl ha hb;rw[ddq (hD 24 rfl)]at hQo⊢;have d23:∃(a3:Option Addr) (c3:Nat) (z:Int),(xs 23) = .slice a3 (k+1) c3∧wx.ownsRow (O+1) 3 1 (.slice a3 (k+1) c3) (k+1) ((zs ++ [z]).map (Value.int .i64)):=hD 23 rfl;clear hD hI;generalize xs 23=y23 at *;obtain⟨a23,c23,z23,rfl,o23⟩:=d23;obtain⟨z,g1,g2⟩:=hG.2.2.2.1;obtain rfl:=g2 l25;obtain⟨-,k0,k1,k2,f0,f1,f2⟩:=bx3 g1;go_wp2;have hst:∀(wy:World),wx.grownBy wy (some O)→Stbn 26 25 [[],[0],[],[],[],[4],[3,4,5],[],[3,4,5,6,7],[],[],[10],[9,10,11],[],[9,10,11,12,13],[2,3,4,5,6,7,8,9,10,11,12,13,14],[],[],[2,3,4,5,6,7,8,9,10,11,12,13,14,15,16,17],[2,3,4,5,6,7,8,9,10,11,12,13,14,15,16,17,18],[2,3,4,5,6,7,8,9,10,11,12,13,14,15,16,17,18,19],[2,3,4,5,6,7,8,9,10,11,12,13,14,15,16,17,18,19,20],[2,3,4,5,6,7,8,9,10,11,12,13,14,15,16,17,18,19,20,21],[0,1,2,3,4,5,6,7,8,9,10,11,12,13,14,15,16,17,18,19,20,21,22],[0,1,2,3,4,5,6,7,8,9,10,11,12,13,14,15,16,17,18,19,20,21,22,23],[0,1,2,3,4,5,6,7,8,9,10,11,12,13,14,15,16,17,18,19,20,21,22,23,24]] (fun i own ys wx=>match i with|0=>own= .pointer (some ⟨O,2,none⟩)|1=>own= .slice a2 k c2|2=>own= .agg #[.int .i64 p.w,.int .i64 p.h,.slice a n c]|3=>own= .int .i64 k|4=>own= .pointer (some ⟨w.heap.size,0,none⟩)|5=>own= .int .i64 W|6=>∃ x:Int,own= .int .i64 x∧0≤x∧x≤1023|7=>own= .int .i64 (dx-3)|8=>∃ x:Int,own= .int .i64 x ∧ -3≤x∧x≤1026|9=>own= .int .i64 k|10=>own= .pointer (some ⟨w.heap.size,0,none⟩)|11=>own= .int .i64 W|12=>∃ x:Int,own= .int .i64 x∧0≤x∧x≤1023|13=>own= .int .i64 (dy-3)|14=>∃ x:Int,own= .int .i64 x ∧ -3≤x∧x≤1026|15=>∃ x:Int,own= .int .i64 x∧0≤x∧x≤255|16=>own= .pointer (some ⟨b,0,none⟩)|17=>own= .int .i64 nz|18=>∃ x:Int,own= .int .i64 x∧0≤x∧x≤40|19=>∃ x:Int,own= .int .i64 x∧0≤x∧x≤300|20=>∃ x:Int,own= .int .i64 x∧0≤x∧x≤255|21=>∃ x:Int,own= .int .i64 x∧0≤x∧x≤255|22=>∃(q:Nat) (z:Int),own= .slice (some ⟨q,0,none⟩) 1 1∧wx.ownsRow HI 3 1 (.slice (some ⟨q,0,none⟩) 1 1) 1 [.int .i64 z]|23=>∃(a3:Option Addr) (c3:Nat) (z:Int),own= .slice a3 (k+1) c3∧wx.ownsRow (O+1) 3 1 (.slice a3 (k+1) c3) (k+1) ((zs ++ [z]).map (Value.int .i64))|24=>own= .pointer (some ⟨O,2,none⟩)|25=>∃(a3:Option Addr) (c3:Nat) (z:Int),wx.heap[O]?=some (.cells #[.int .i64 W,.int .i64 H,.slice a3 (k+1) c3] 25 (0,0))∧wx.ownsRow (O+1) 3 1 (.slice a3 (k+1) c3) (k+1) ((zs ++ [z]).map (Value.int .i64))|_=>True) wx wy:=by
       intro wy hy ii hii hne hc own ys h
       match ii,h with
       | 0,h|1,h|2,h|3,h|4,h|5,h|6,h|7,h|8,h|9,h|10,h|11,h|12,h|13,h|14,h|15,h|16,h|17,h|18,h|19,h|20,h|21,h|24,h=>exact h
       | 22,h=>obtain⟨q9,z9,h1,h2⟩:=h;exact⟨q9,z9,h1,own_gr h2 hy (by omega)⟩
       | 23,h=>obtain⟨a9,c9,z9,h1,h2⟩:=h;exact⟨a9,c9,z9,h1,own_gr h2 hy (by omega)⟩
       | 25,h=>exact absurd rfl hne
       | _+26,_=>trivial
      have hb:=heap_setCell_same wx O 2 _ _ (.slice a23 (k+1) c23) g1;have gB:=gr_set wx O 2 (.slice a23 (k+1) c23);have hb2:(wx.setCell ⟨O,2,none⟩ (.slice a23 (k+1) c23)).heap[O]?=some (.cells #[.int .i64 W,.int .i64 H,.slice a23 (k+1) c23] 25 (0,0)):=by simpa using hb
      exact hQo undef _ (hK.out _ _ ⟨⟨a23,c23,z23,hb2,own_gr o23 gB (by omega)⟩,hG.put gB hb2,hst _ gB⟩)
     all_goals
      clear hl ha hb hD hI;go_wp2;exact hK.out _ _ ⟨rfl,hG.step,kkp⟩
    clear Hext;intro xs wx hV hG0;obtain⟨Lx,hL,hG⟩:=hG0;have l18:Lx 18=true:=hL 18 (by decide);have l25:Lx 25=true:=hL 25 (by decide);clear hL;have d25:∃(a3:Option Addr) (c3:Nat) (z:Int),wx.heap[O]?=some (.cells #[.int .i64 W,.int .i64 H,.slice a3 (k+1) c3] 25 (0,0))∧wx.ownsRow (O+1) 3 1 (.slice a3 (k+1) c3) (k+1) ((zs ++ [z]).map (Value.int .i64)):=hV 25 (by decide);clear hV;simp only[patchS,Nat.reduceAdd,Nat.reduceEqDiff,↓reduceIte];generalize xs 0=y0,xs 1=y1,xs 2=y2,xs 3=y3,xs 4=y4,xs 5=y5,xs 6=y6,xs 7=y7,xs 8=y8,xs 9=y9,xs 10=y10,xs 11=y11,xs 12=y12,xs 13=y13,xs 14=y14,xs 15=y15,xs 16=y16,xs 17=y17,xs 18=y18,xs 19=y19,xs 20=y20,xs 21=y21,xs 22=y22,xs 23=y23,xs 24=y24,xs 25=y25 at *
    replace hG:NX w b O HI p a n c W H (P+10+k) a2 k c2 zs (Lx 18) (Lx 25) wx:=hG
    obtain⟨a25,c25,z25,b25,o25⟩:=d25;have HD:=Lib.hid hG.1;have HR:=Lib.hid hG.2.1;clear hG D7 r7 B7 o7;have HB:=Lib.hid b25;have HO:=Lib.hid o25;clear b25 o25;go_wp2;go_roundw
    case rel=>exact⟨k+1,_,zs ++ [z25],by omega,by go_num,by rw[List.length_append,HL.out];rfl,HD.out,HR.out.mono (by omega),HB.out,HO.out⟩
    case measure=>simp[intOf];omega
   ·obtain rfl:n=k:=by omega
    have hdk:decide (n<n)=false:=by simp
    obtain⟨-,q0,q1,q2,-⟩:=bx3 B7;obtain⟨-,j0,j1,j2,f0,f1,f2⟩:=bx3 D7.res;have hres:=blk_set3 (x' := .int .i64 W) (y' := .int .i64 H) (z' := .slice a2 n c2) D7.res;have HD:=Lib.hid D7;have HR:=Lib.hid r7;have HO:=Lib.hid o7;clear D7 r7 o7;go_wp2;exact bodyPost_ret (v := .agg #[.int .i64 W,.int .i64 H,.slice a2 n c2]) (results_cell_row rfl _ _ (w.heap.size+1) 25 #[.int .i64 W,.int .i64 H,.slice a2 n c2] (0,0) _ rfl hres Tryz.underlying25 rfl size_Picture) rfl
     (PicR.at (by omega) (by omega) (by omega) (by omega) (by omega) (Sl.of_owns HO.out) (fun u hu=>by have:=owns_ge HO.out u.block (by rw[hu];rfl);omega) (HR.out.mono (by omega)) HD.out.gr hbw (by omega) (gr_set3 _ _ _ _ _))
 ·rw[decide_eq_false hv];go_wp2_with fail
  refine(l20Picture_c b P 3 _ r1 (by omega) (by omega) (by omega)).mono ?_
  rintro e w2 ⟨q,a2,c2,n2,rfl,hq,hq2,qw1,qw2,qh1,qh2,s2,ha2,r2,g2⟩
  clear hq;have R2:=gr_blk g2 R1 (by omega);have hsz:=lt_of_block R1;obtain⟨-,k0,k1,k2,f0,f1,f2⟩:=bx3 R2;have hres:=blk_set3 (x' := .int .i64 q.w) (y' := .int .i64 q.h) (z' := .slice a2 n2 c2) R2;have G2:=grown_trans G1 g2;clear g2 R1 P1 s1 r1 G1;go_wp2;exact bodyPost_ret (v := .agg #[.int .i64 q.w,.int .i64 q.h,.slice a2 n2 c2]) (results_cell_row rfl _ _ (w.heap.size+1) 25 #[.int .i64 q.w,.int .i64 q.h,.slice a2 n2 c2] (0,0) _ rfl hres Tryz.underlying25 rfl size_Picture) rfl
   (PicR.at hq2 qw1 qw2 qh1 qh2 s2 (fun u hu=>by have:=ha2 u hu;omega) (r2.mono (by omega)) G2 hbw (by omega) (gr_set3 _ _ _ _ _))
end Go.Proofs.YtbnhaegidfbgbaaGreatDoor
namespace Go.Proofs.YtbnhaegidfbgbaaGreatDoor
open Go.RowKit
/-- Of what was there only blocks lo..hi-1 have changed. -/
def Tc (lo hi:Nat) (w w':World):Prop:=∃ row,w.grownBy w' row∧∀ k,row=some k→lo≤k∧k<hi
section
variable {w w' W : World} {lo hi : Nat}
theorem Tc.ext (h:Tc lo hi w w') (e:Ext W w) (hl:W.heap.size≤lo):Ext W w':=by
 obtain⟨row,g,hr⟩:=h;exact Ext.grown e g (fun k hk=>by have:=(hr k hk).1;omega)
theorem Tc.size (h:Tc lo hi w w'):w.heap.size≤w'.heap.size:=by obtain⟨row,g,-⟩:=h;exact g.size
theorem Tc.blk (h:Tc lo hi w w') {b:Nat} {o:Obj} (hb:w.heap[b]?=some o) (hn:b<lo∨hi≤b):w'.heap[b]?=some o:=by
 obtain⟨row,g,hr⟩:=h;exact blk_gr hb g (fun e=>by have:=hr b e;omega)
theorem Tc.own (h:Tc lo hi w w') {base e s n:Nat} {v:Value} {xs:List Value} (ho:w.ownsRow base e s v n xs) (hn:∀ k,v.ownBlock=some k→k<lo∨hi≤k):w'.ownsRow base e s v n xs:=by
 obtain⟨row,g,hr⟩:=h;refine ho.kept g ?_;cases hv:v.ownBlock with
 | none=>exact .inl rfl
 | some k=>right;intro e2;have:=hr k e2.symm;have:=hn k hv;omega
theorem Tc.sl (h:Tc lo hi w w') {a:Option Addr} {n:Nat} {xs:List Value} (hs:Sl w a n xs) (hn:∀ y,a=some y→y.block<lo∨hi≤y.block):Sl w' a n xs:=by
 obtain⟨row,g,hr⟩:=h;exact hs.grown g (fun y hy e=>by have:=hr y.block e.symm;have:=hn y hy;omega)
theorem Tc.ib (h:Tc lo hi w w') {b T:Nat} {zs:List Int} (hb:IB w b T zs) (hn:b<lo∨hi≤b):IB w' b T zs:=h.blk hb hn
theorem Tc.of {row:Option Nat} (g:w.grownBy w' row) (hr:∀ k,row=some k→lo≤k∧k<hi):Tc lo hi w w':=⟨row,g,hr⟩
end
/-- A picture's box. -/
def PX (w:World) (b:Nat) (x y:Int) (a:Option Addr) (n c:Nat):Prop:=w.heap[b]?=some (.cells #[.int .i64 x,.int .i64 y,.slice a n c] 25 (0,0))
theorem PX.ext {w w':World} {b:Nat} {x y:Int} {a:Option Addr} {n c:Nat} (h:PX w b x y a n c) (e:Ext w w'):PX w' b x y a n c:=e.blk h
theorem PX.cells {w:World} {b:Nat} {x y:Int} {a:Option Addr} {n c:Nat} (h:PX w b x y a n c):w.cell? ⟨b,0,none⟩=some (.int .i64 x)∧w.cell? ⟨b,1,none⟩=some (.int .i64 y)∧w.cell? ⟨b,2,none⟩=some (.slice a n c):=by
 obtain⟨-,h0,h1,h2,-⟩:=bx3 h;exact⟨h0,h1,h2⟩
/-- A box of three cells of type Picture. -/
def PZ (w:World) (b:Nat):Prop:=∃ x y z:Value,w.heap[b]?=some (.cells #[x,y,z] 25 (0,0))
theorem PZ.ext {w w':World} {b:Nat} (h:PZ w b) (e:Ext w w'):PZ w' b:=by
 obtain⟨x,y,z,h⟩:=h;exact⟨x,y,z,e.blk h⟩
theorem PX.z {w:World} {b:Nat} {x y:Int} {a:Option Addr} {n c:Nat} (h:PX w b x y a n c):PZ w b:=⟨_,_,_,h⟩
theorem PZ.ne {w:World} {b base n m:Nat} {v:Value} {xs:List Value} (h:PZ w b) (own:w.ownsRow base 3 1 v m xs) (_:n=n):v.ownBlock≠some b:=by
 obtain⟨x,y,z,h⟩:=h;rcases own_ne_blk own h (by decide)with h1|h1
 ·rw[h1];simp
 ·exact h1
/-- The three stores into a box. -/
def st3 (w:World) (b:Nat) (x y z:Value):World:=((w.setCell ⟨b,0,none⟩ x).setCell ⟨b,1,none⟩ y).setCell ⟨b,2,none⟩ z
end Go.Proofs.YtbnhaegidfbgbaaGreatDoor
namespace Go.Proofs.YtbnhaegidfbgbaaGreatDoor
open Go.RowKit
theorem results_pcc {P:Program} {fn:Func} {p0:Tmp} {y0:TypeId} {p1:Tmp} {y1:TypeId} (h:fn.results = #[.cell p0 y0,.cell p1 y1]) (tmps:Array Value) (w:World)
 (g0:Nat) (cs0:Array Value) (hp0:tmps.getD p0 undef= .pointer (some ⟨g0,0,none⟩)) (hl0:(loadVar y0 ⟨g0,0,none⟩).run P w= .ok (.agg cs0) w)
 (g1:Nat) (cs1:Array Value) (hp1:tmps.getD p1 undef= .pointer (some ⟨g1,0,none⟩)) (hl1:(loadVar y1 ⟨g1,0,none⟩).run P w= .ok (.agg cs1) w) :
 (results fn tmps).run P w= .ok (.tuple #[.agg cs0,.agg cs1]) w:=by
 have hq0:tmps[p0]?.getD undef= .pointer (some ⟨g0,0,none⟩):=by simpa using hp0
 have hq1:tmps[p1]?.getD undef= .pointer (some ⟨g1,0,none⟩):=by simpa using hp1
 simp[results,h,hq0,hl0,hq1,hl1,asAddr,Sem.run_bind,Result.andThen]
/-- A drawn picture, its samples in blocks from L on, before U. -/
def PicA (L U:Nat) (wx:World) (p:Pic) (a:Option Addr) (c n:Nat):Prop:=n=p.px.length∧n≤1024∧(-8≤p.w∧p.w≤40)∧(0≤p.h∧p.h≤40)∧Sl wx a n (p.px.map (Value.int .i64))∧∀ y,a=some y→L≤y.block∧(0<n→y.block<U)
section
variable {L U L' U' : Nat} {wx wy : World} {p : Pic} {a : Option Addr} {c n : Nat}
theorem PicA.gr {row:Option Nat} (h:PicA L U wx p a c n) (g:wx.grownBy wy row) (hr:∀ k,row=some k→k<L∨U≤k):PicA L U wy p a c n:=by
 obtain⟨h1,h2,h3,h4,h5,h6⟩:=h;refine⟨h1,h2,h3,h4,?_,h6⟩
 by_cases h0:n=0
 ·subst h0;exact⟨h5.1,fun i hi=>by omega⟩
 ·exact h5.grown g (fun y hy e=>by have:=h6 y hy;have:=hr _ e.symm;omega)
theorem PicA.ext (h:PicA L U wx p a c n) (e:Ext wx wy):PicA L U wy p a c n:=⟨h.1,h.2.1,h.2.2.1,h.2.2.2.1,h.2.2.2.2.1.ext e,h.2.2.2.2.2⟩
theorem PicA.mono (h:PicA L U wx p a c n) (hl:L'≤L) (hu:U≤U'):PicA L' U' wx p a c n:=⟨h.1,h.2.1,h.2.2.1,h.2.2.2.1,h.2.2.2.2.1,fun y hy=>by have:=h.2.2.2.2.2 y hy;omega⟩
theorem PicA.new (h1:n=p.px.length) (h2:n≤1024) (h3 : -8≤p.w) (h4:p.w≤40) (h5:0≤p.h) (h6:p.h≤40) (s:Sl wx a n (p.px.map (Value.int .i64))) (ha:∀ y,a=some y→L≤y.block):PicA L wx.heap.size wx p a c n :=
 ⟨h1,h2,⟨h3,h4⟩,⟨h5,h6⟩,s,fun y hy=>⟨ha y hy,fun h0=>sl_bound s y hy h0⟩⟩
end
/-- What two drawn pictures are. -/
def PairR (w:World) (b P:Nat) (e:Ending) (w':World):Prop:=∃(p q:Pic) (a a2:Option Addr) (c n c2 n2:Nat),e= .returned (.tuple #[.agg #[.int .i64 p.w,.int .i64 p.h,.slice a n c],.agg #[.int .i64 q.w,.int .i64 q.h,.slice a2 n2 c2]])∧PicA w.heap.size w'.heap.size w' p a c n∧PicA w.heap.size w'.heap.size w' q a2 c2 n2∧RdP w' b P∧w.grownBy w' (some b)
theorem PZ.gr {w w':World} {b:Nat} {row:Option Nat} (h:PZ w b) (g:w.grownBy w' row) (hne:row≠some b):PZ w' b:=by
 obtain⟨x,y,z,h1⟩:=h;exact⟨x,y,z,blk_gr h1 g hne⟩
theorem PBx.gr {w w':World} {b:Nat} {p:Pic} {a:Option Addr} {n c:Nat} {row:Option Nat} (h:PBx w b p a n c) (g:w.grownBy w' row) (hne:row≠some b):PBx w' b p a n c:=blk_gr h g hne
/-- What holds at the end of l20Pair. -/
structure PS (w : World) (b P O : Nat) (p : Pic) (a : Option Addr) (n c Q : Nat) (q : Pic) (a2 : Option Addr) (n2 c2 U : Nat) (wx : World) : Prop where
 gr:w.grownBy wx (some b)
 rd:RdP wx b P
 bx1:PBx wx O p a n c
 bx2:PBx wx Q q a2 n2 c2
 r1:PZ wx w.heap.size
 r2:PZ wx (w.heap.size+1)
 A:PicA (w.heap.size+2) U wx p a c n
 B:PicA (w.heap.size+2) U wx q a2 c2 n2
 lo:b<w.heap.size
 hO:w.heap.size+2≤O
 hQ:w.heap.size+2≤Q
 hU:U≤wx.heap.size
section
variable {w wx wy : World} {b P O Q n c n2 c2 U : Nat} {p q : Pic} {a a2 : Option Addr}
theorem PS.ext (h:PS w b P O p a n c Q q a2 n2 c2 U wx) (e:Ext wx wy):PS w b P O p a n c Q q a2 n2 c2 U wy :=
 ⟨grown_ext h.gr e,h.rd.ext e,e.blk h.bx1,e.blk h.bx2,h.r1.ext e,h.r2.ext e,h.A.ext e,h.B.ext e,h.lo,h.hO,h.hQ,Nat.le_trans h.hU e.size⟩
theorem PS.put {r:Nat} (h:PS w b P O p a n c Q q a2 n2 c2 U wx) (g:wx.grownBy wy (some r)) (hr:w.heap.size≤r) (hr2:r≤w.heap.size+1) (h1:PZ wy w.heap.size) (h2:PZ wy (w.heap.size+1)):PS w b P O p a n c Q q a2 n2 c2 U wy:=by
 have q1:=h.lo;have q2:=h.hO;have q3:=h.hQ;exact⟨grown_any h.gr g (fun k hk=>by cases hk;omega),h.rd.gr g (fun k hk=>by cases hk;omega),h.bx1.gr g (by simp;omega),h.bx2.gr g (by simp;omega),h1,h2,h.A.gr g (fun k hk=>by cases hk;omega),h.B.gr g (fun k hk=>by cases hk;omega),h.lo,h.hO,h.hQ,Nat.le_trans h.hU g.size⟩
theorem PS.res {P':Nat} (h:PS w b P O p a n c Q q a2 n2 c2 U wx) (hP:P≤P'):PairR w b P' (.returned (.tuple #[.agg #[.int .i64 p.w,.int .i64 p.h,.slice a n c],.agg #[.int .i64 q.w,.int .i64 q.h,.slice a2 n2 c2]])) wx :=
 ⟨p,q,a,a2,c,n,c2,n2,rfl,h.A.mono (by omega) h.hU,h.B.mono (by omega) h.hU,h.rd.mono hP,h.gr⟩
end
end Go.Proofs.YtbnhaegidfbgbaaGreatDoor
namespace Go.Proofs.YtbnhaegidfbgbaaGreatDoor
open Go.RowKit
theorem tm_even {x:Int} (h:x%2=0):(x.tmod 2 == 0)=true:=by simp[Int.tmod_eq_zero_of_dvd (Int.dvd_of_emod_eq_zero h)]
theorem tm_odd {x:Int} (h : ¬ x%2=0):(x.tmod 2 == 0)=false:=by
 simp only[beq_eq_false_iff_ne,ne_eq];intro h2;exact h (Int.emod_eq_zero_of_dvd (Int.dvd_of_tmod_eq_zero h2))
theorem half_ee {p:Pic} {x y:Int} (hx:x%2=0) (hy:y%2=0):hlf p x y=pat p (x/2) (y/2):=by unfold hlf;rw[if_pos hy,if_pos hx]
theorem half_oe {p:Pic} {x y:Int} (hx : ¬ x%2=0) (hy:y%2=0):hlf p x y=(pat p (x/2) (y/2)+pat p (x/2+1) (y/2)+1)/2:=by unfold hlf;rw[if_pos hy,if_neg hx]
theorem half_eo {p:Pic} {x y:Int} (hx:x%2=0) (hy : ¬ y%2=0):hlf p x y=(pat p (x/2) (y/2)+pat p (x/2) (y/2+1)+1)/2:=by unfold hlf;rw[if_neg hy,if_pos hx]
theorem half_oo {p:Pic} {x y:Int} (hx : ¬ x%2=0) (hy : ¬ y%2=0):hlf p x y=(pat p (x/2) (y/2)+pat p (x/2+1) (y/2)+pat p (x/2) (y/2+1)+pat p (x/2+1) (y/2+1)+2)/4:=by unfold hlf;rw[if_neg hy,if_neg hx]
theorem half_at_ee (p:Pic) (x y:Int) (a:Option Addr) (c n:Nat) (w:World) (hv:p.valid) (hn:n=p.px.length) (r:Sl w a n (p.px.map (Value.int .i64)))
 (x1 : -2000≤x) (x2:x≤2000) (y1 : -2000≤y) (y2:y≤2000) (hx:x%2=0) (hy:y%2=0) :
 Calls Tryz.prog 104 #[.agg #[.int .i64 p.w,.int .i64 p.h,.slice a n c],.int .i64 x,.int .i64 y] w fun e w'=>e= .returned (.int .i64 (hlf p x y))∧Ext w w':=by
 have hh:=half_ee (p:=p) hx hy;have dx:(x/2 == (x+1)/2)=true:=by simp;omega
 have dy:(y/2 == (y+1)/2)=true:=by simp;omega
 have HH:=Lib.hid hh;clear hx hy hh;have p0:=blk_new w (.cells #[.int .i64 p.w,.int .i64 p.h,.slice a n c] 25);have E0:=Ext.alloc w (.cells #[.int .i64 p.w,.int .i64 p.h,.slice a n c] 25);obtain⟨B,hB⟩:∃ B,B=w.heap.size:=⟨_,rfl⟩;rw[←hB]at p0;have HB:=Lib.hid hB;have HN:=Lib.hid hn;have HV:=Lib.hid hv;clear hn hv;obtain⟨-,k0,k1,k2,-⟩:=bx3 p0;go_enter Tryz.func104,Tryz.ntmps104
 go_wp2_with fail
 rw[←hB];clear hB;generalize w.alloc (.cells #[.int .i64 p.w,.int .i64 p.h,.slice a n c] 25)=w0 at *;refine(at_any p (x/2) (y/2) a c n _ HV.out HN.out (r.ext E0)).mono ?_
 rintro e w2 ⟨rfl,e2⟩
 go_wp2;go_ret
 exact⟨(ret_intH HH).symm,E0.trans e2⟩
theorem half_at_oe (p:Pic) (x y:Int) (a:Option Addr) (c n:Nat) (w:World) (hv:p.valid) (hn:n=p.px.length) (r:Sl w a n (p.px.map (Value.int .i64)))
 (x1 : -2000≤x) (x2:x≤2000) (y1 : -2000≤y) (y2:y≤2000) (hx : ¬ x%2=0) (hy:y%2=0) :
 Calls Tryz.prog 104 #[.agg #[.int .i64 p.w,.int .i64 p.h,.slice a n c],.int .i64 x,.int .i64 y] w fun e w'=>e= .returned (.int .i64 (hlf p x y))∧Ext w w':=by
 have hh:=half_oe (p:=p) hx hy;have dx:(x/2 == (x+1)/2)=false:=by simp;omega
 have dy:(y/2 == (y+1)/2)=true:=by simp;omega
 rw[show x/2+1=(x+1)/2 by omega]at hh;have HH:=Lib.hid hh;clear hx hy hh;have p0:=blk_new w (.cells #[.int .i64 p.w,.int .i64 p.h,.slice a n c] 25);have E0:=Ext.alloc w (.cells #[.int .i64 p.w,.int .i64 p.h,.slice a n c] 25);obtain⟨B,hB⟩:∃ B,B=w.heap.size:=⟨_,rfl⟩;rw[←hB]at p0;have HB:=Lib.hid hB;have HN:=Lib.hid hn;have HV:=Lib.hid hv;clear hn hv;obtain⟨s0,hs0⟩:∃ s0,s0=pat p (x/2) (y/2):=⟨_,rfl⟩;have b0:=pat_rng HV.out (x/2) (y/2);rw[←hs0]at b0;have H0:=Lib.hid hs0;clear hs0;obtain⟨s1,hs1⟩:∃ s1,s1=pat p ((x+1)/2) (y/2):=⟨_,rfl⟩;have b1:=pat_rng HV.out ((x+1)/2) (y/2);rw[←hs1]at b1;have H1:=Lib.hid hs1;clear hs1;rw[←H0.out,←H1.out]at HH;go_enter Tryz.func104,Tryz.ntmps104
 go_wp2_with fail
 rw[←hB];clear hB;generalize w.alloc (.cells #[.int .i64 p.w,.int .i64 p.h,.slice a n c] 25)=w0 at *;refine wp_region_inv2 (by kernel_rfl) [(6,11),(38,0),(39,1),(40,2),(41,3),(42,4),(43,5),(44,6),(45,7),(46,8),(47,9),(48,10)] [[],[],[],[0,1,2],[],[],[],[0,1,2,3,4,5,6],[0,1,2,3,4,5,6,7],[0,1,2,3,4,5,6,7,8],[0,1,2,3,4,5,6,7,8,9],[0,1,2,3,4,5,6,7,8,9,10]] (fun i own ys wx=>match i with|0=>own= .agg #[.int .i64 p.w,.int .i64 p.h,.slice a n c]|1=>own= .int .i64 (x/2)|2=>own= .int .i64 (y/2)|3=>own= .int .i64 s0|4=>own= .agg #[.int .i64 p.w,.int .i64 p.h,.slice a n c]|5=>own= .int .i64 ((x+1)/2)|6=>own= .int .i64 (y/2)|7=>own= .int .i64 s1|8=>own= .int .i64 (s0+s1)|9=>own= .int .i64 (s0+s1+1)|10=>own= .int .i64 ((s0+s1+1)/2)|11=>own= .int .i64 ((s0+s1+1)/2)|_=>True) (fun kx wx=>Ext w0 wx) (by kernel_rfl) (by kernel_rfl) (by kernel_rfl) ?g0_r1 ?gop_r1 ?gend_r1
 case g0_r1=>exact Ext.drewN _ 1
 case gop_r1 =>
  refine⟨?o0,?_,?_,?o3,?o4,?_,?_,?o7,?o8,?o9,?o10,?o11,trivial⟩ <;> (intro kx xs wx hk hG hD hI Qo Kx hK hQo;simp only[patchS,Nat.reduceAdd,Nat.reduceEqDiff,↓reduceIte]at hQo⊢)
  case o0 =>
   clear hD hI;obtain⟨-,k0,k1,k2,-⟩:=bx3 (hG.blk p0);go_wp2;exact hK.out _ _ ⟨rfl,hG,kkp⟩
  case o3 =>
   rw[ddq (hD 0 rfl),ddq (hD 1 rfl),ddq (hD 2 rfl)]at hQo⊢;clear hD hI;go_wp2_with fail
   refine(at_any p (x/2) (y/2) a c n _ HV.out HN.out (r.ext (E0.trans hG))).mono ?_
   rintro e w2 ⟨rfl,e2⟩
   rw[←H0.out];go_wp2;exact hK.out _ _ ⟨rfl,hG.trans e2,fun _ _ _ _ _ _ h=>h⟩
  case o4 =>
   clear hD hI;obtain⟨-,k0,k1,k2,-⟩:=bx3 (hG.blk p0);go_wp2;exact hK.out _ _ ⟨rfl,hG,kkp⟩
  case o7 =>
   rw[ddq (hD 4 rfl),ddq (hD 5 rfl),ddq (hD 6 rfl)]at hQo⊢;clear hD hI;go_wp2_with fail
   refine(at_any p ((x+1)/2) (y/2) a c n _ HV.out HN.out (r.ext (E0.trans hG))).mono ?_
   rintro e w2 ⟨rfl,e2⟩
   rw[←H1.out];go_wp2;exact hK.out _ _ ⟨rfl,hG.trans e2,fun _ _ _ _ _ _ h=>h⟩
  case o8 =>
   rw[ddq (hD 3 rfl),ddq (hD 7 rfl)]at hQo⊢;clear hD hI;go_wp2;exact hK.out _ _ ⟨rfl,hG,kkp⟩
  case o9 =>
   rw[ddq (hD 8 rfl)]at hQo⊢;clear hD hI;go_wp2;exact hK.out _ _ ⟨rfl,hG,kkp⟩
  case o10 =>
   rw[ddq (hD 9 rfl)]at hQo⊢;clear hD hI;go_wp2;exact hK.out _ _ ⟨rfl,hG,kkp⟩
  case o11 =>
   rw[ddq (hD 10 rfl)]at hQo⊢;clear hD hI;go_wp2;exact hK.out _ _ ⟨rfl,hG,kkp⟩
  all_goals
   clear hD hI;go_wp2;exact hK.out _ _ ⟨rfl,hG,kkp⟩
 intro xs wx hV hG;have d11:_=_:=hV 11 (by decide);clear hV;simp only[patchS,Nat.reduceAdd,Nat.reduceEqDiff,↓reduceIte];generalize xs 0=y0,xs 1=y1,xs 2=y2,xs 3=y3,xs 4=y4,xs 5=y5,xs 6=y6,xs 7=y7,xs 8=y8,xs 9=y9,xs 10=y10,xs 11=y11 at *
 replace hG:Ext w0 wx:=hG
 subst d11;go_wp2;go_ret
 exact⟨(ret_intH HH).symm,E0.trans hG⟩
theorem half_at_eo (p:Pic) (x y:Int) (a:Option Addr) (c n:Nat) (w:World) (hv:p.valid) (hn:n=p.px.length) (r:Sl w a n (p.px.map (Value.int .i64)))
 (x1 : -2000≤x) (x2:x≤2000) (y1 : -2000≤y) (y2:y≤2000) (hx:x%2=0) (hy : ¬ y%2=0) :
 Calls Tryz.prog 104 #[.agg #[.int .i64 p.w,.int .i64 p.h,.slice a n c],.int .i64 x,.int .i64 y] w fun e w'=>e= .returned (.int .i64 (hlf p x y))∧Ext w w':=by
 have hh:=half_eo (p:=p) hx hy;have dx:(x/2 == (x+1)/2)=true:=by simp;omega
 have dy:(y/2 == (y+1)/2)=false:=by simp;omega
 rw[show y/2+1=(y+1)/2 by omega]at hh;have HH:=Lib.hid hh;clear hx hy hh;have p0:=blk_new w (.cells #[.int .i64 p.w,.int .i64 p.h,.slice a n c] 25);have E0:=Ext.alloc w (.cells #[.int .i64 p.w,.int .i64 p.h,.slice a n c] 25);obtain⟨B,hB⟩:∃ B,B=w.heap.size:=⟨_,rfl⟩;rw[←hB]at p0;have HB:=Lib.hid hB;have HN:=Lib.hid hn;have HV:=Lib.hid hv;clear hn hv;obtain⟨s0,hs0⟩:∃ s0,s0=pat p (x/2) (y/2):=⟨_,rfl⟩;have b0:=pat_rng HV.out (x/2) (y/2);rw[←hs0]at b0;have H0:=Lib.hid hs0;clear hs0;obtain⟨s1,hs1⟩:∃ s1,s1=pat p (x/2) ((y+1)/2):=⟨_,rfl⟩;have b1:=pat_rng HV.out (x/2) ((y+1)/2);rw[←hs1]at b1;have H1:=Lib.hid hs1;clear hs1;rw[←H0.out,←H1.out]at HH;go_enter Tryz.func104,Tryz.ntmps104
 go_wp2_with fail
 rw[←hB];clear hB;generalize w.alloc (.cells #[.int .i64 p.w,.int .i64 p.h,.slice a n c] 25)=w0 at *;refine wp_region_inv2 (by kernel_rfl) [(6,11),(53,0),(54,1),(55,2),(56,3),(57,4),(58,5),(59,6),(60,7),(61,8),(62,9),(63,10)] [[],[],[],[0,1,2],[],[],[],[0,1,2,3,4,5,6],[0,1,2,3,4,5,6,7],[0,1,2,3,4,5,6,7,8],[0,1,2,3,4,5,6,7,8,9],[0,1,2,3,4,5,6,7,8,9,10]] (fun i own ys wx=>match i with|0=>own= .agg #[.int .i64 p.w,.int .i64 p.h,.slice a n c]|1=>own= .int .i64 (x/2)|2=>own= .int .i64 (y/2)|3=>own= .int .i64 s0|4=>own= .agg #[.int .i64 p.w,.int .i64 p.h,.slice a n c]|5=>own= .int .i64 (x/2)|6=>own= .int .i64 ((y+1)/2)|7=>own= .int .i64 s1|8=>own= .int .i64 (s0+s1)|9=>own= .int .i64 (s0+s1+1)|10=>own= .int .i64 ((s0+s1+1)/2)|11=>own= .int .i64 ((s0+s1+1)/2)|_=>True) (fun kx wx=>Ext w0 wx) (by kernel_rfl) (by kernel_rfl) (by kernel_rfl) ?g0_r2 ?gop_r2 ?gend_r2
 case g0_r2=>exact Ext.drewN _ 1
 case gop_r2 =>
  refine⟨?o0,?_,?_,?o3,?o4,?_,?_,?o7,?o8,?o9,?o10,?o11,trivial⟩ <;> (intro kx xs wx hk hG hD hI Qo Kx hK hQo;simp only[patchS,Nat.reduceAdd,Nat.reduceEqDiff,↓reduceIte]at hQo⊢)
  case o0 =>
   clear hD hI;obtain⟨-,k0,k1,k2,-⟩:=bx3 (hG.blk p0);go_wp2;exact hK.out _ _ ⟨rfl,hG,kkp⟩
  case o3 =>
   rw[ddq (hD 0 rfl),ddq (hD 1 rfl),ddq (hD 2 rfl)]at hQo⊢;clear hD hI;go_wp2_with fail
   refine(at_any p (x/2) (y/2) a c n _ HV.out HN.out (r.ext (E0.trans hG))).mono ?_
   rintro e w2 ⟨rfl,e2⟩
   rw[←H0.out];go_wp2;exact hK.out _ _ ⟨rfl,hG.trans e2,fun _ _ _ _ _ _ h=>h⟩
  case o4 =>
   clear hD hI;obtain⟨-,k0,k1,k2,-⟩:=bx3 (hG.blk p0);go_wp2;exact hK.out _ _ ⟨rfl,hG,kkp⟩
  case o7 =>
   rw[ddq (hD 4 rfl),ddq (hD 5 rfl),ddq (hD 6 rfl)]at hQo⊢;clear hD hI;go_wp2_with fail
   refine(at_any p (x/2) ((y+1)/2) a c n _ HV.out HN.out (r.ext (E0.trans hG))).mono ?_
   rintro e w2 ⟨rfl,e2⟩
   rw[←H1.out];go_wp2;exact hK.out _ _ ⟨rfl,hG.trans e2,fun _ _ _ _ _ _ h=>h⟩
  case o8 =>
   rw[ddq (hD 3 rfl),ddq (hD 7 rfl)]at hQo⊢;clear hD hI;go_wp2;exact hK.out _ _ ⟨rfl,hG,kkp⟩
  case o9 =>
   rw[ddq (hD 8 rfl)]at hQo⊢;clear hD hI;go_wp2;exact hK.out _ _ ⟨rfl,hG,kkp⟩
  case o10 =>
   rw[ddq (hD 9 rfl)]at hQo⊢;clear hD hI;go_wp2;exact hK.out _ _ ⟨rfl,hG,kkp⟩
  case o11 =>
   rw[ddq (hD 10 rfl)]at hQo⊢;clear hD hI;go_wp2;exact hK.out _ _ ⟨rfl,hG,kkp⟩
  all_goals
   clear hD hI;go_wp2;exact hK.out _ _ ⟨rfl,hG,kkp⟩
 intro xs wx hV hG;have d11:_=_:=hV 11 (by decide);clear hV;simp only[patchS,Nat.reduceAdd,Nat.reduceEqDiff,↓reduceIte];generalize xs 0=y0,xs 1=y1,xs 2=y2,xs 3=y3,xs 4=y4,xs 5=y5,xs 6=y6,xs 7=y7,xs 8=y8,xs 9=y9,xs 10=y10,xs 11=y11 at *
 replace hG:Ext w0 wx:=hG
 subst d11;go_wp2;go_ret
 exact⟨(ret_intH HH).symm,E0.trans hG⟩
theorem half_at_oo (p:Pic) (x y:Int) (a:Option Addr) (c n:Nat) (w:World) (hv:p.valid) (hn:n=p.px.length) (r:Sl w a n (p.px.map (Value.int .i64)))
 (x1 : -2000≤x) (x2:x≤2000) (y1 : -2000≤y) (y2:y≤2000) (hx : ¬ x%2=0) (hy : ¬ y%2=0) :
 Calls Tryz.prog 104 #[.agg #[.int .i64 p.w,.int .i64 p.h,.slice a n c],.int .i64 x,.int .i64 y] w fun e w'=>e= .returned (.int .i64 (hlf p x y))∧Ext w w':=by
 have hh:=half_oo (p:=p) hx hy;have dx:(x/2 == (x+1)/2)=false:=by simp;omega
 have dy:(y/2 == (y+1)/2)=false:=by simp;omega
 rw[show x/2+1=(x+1)/2 by omega,show y/2+1=(y+1)/2 by omega]at hh;have HH:=Lib.hid hh;clear hx hy hh;have p0:=blk_new w (.cells #[.int .i64 p.w,.int .i64 p.h,.slice a n c] 25);have E0:=Ext.alloc w (.cells #[.int .i64 p.w,.int .i64 p.h,.slice a n c] 25);obtain⟨B,hB⟩:∃ B,B=w.heap.size:=⟨_,rfl⟩;rw[←hB]at p0;have HB:=Lib.hid hB;have HN:=Lib.hid hn;have HV:=Lib.hid hv;clear hn hv;obtain⟨s0,hs0⟩:∃ s0,s0=pat p (x/2) (y/2):=⟨_,rfl⟩;have b0:=pat_rng HV.out (x/2) (y/2);rw[←hs0]at b0;have H0:=Lib.hid hs0;clear hs0;obtain⟨s1,hs1⟩:∃ s1,s1=pat p ((x+1)/2) (y/2):=⟨_,rfl⟩;have b1:=pat_rng HV.out ((x+1)/2) (y/2);rw[←hs1]at b1;have H1:=Lib.hid hs1;clear hs1;obtain⟨s2,hs2⟩:∃ s2,s2=pat p (x/2) ((y+1)/2):=⟨_,rfl⟩;have b2:=pat_rng HV.out (x/2) ((y+1)/2);rw[←hs2]at b2;have H2:=Lib.hid hs2;clear hs2;obtain⟨s3,hs3⟩:∃ s3,s3=pat p ((x+1)/2) ((y+1)/2):=⟨_,rfl⟩;have b3:=pat_rng HV.out ((x+1)/2) ((y+1)/2);rw[←hs3]at b3;have H3:=Lib.hid hs3;clear hs3;rw[←H0.out,←H1.out,←H2.out,←H3.out]at HH;go_enter Tryz.func104,Tryz.ntmps104
 go_wp2_with fail
 rw[←hB];clear hB;generalize w.alloc (.cells #[.int .i64 p.w,.int .i64 p.h,.slice a n c] 25)=w0 at *;refine wp_region_inv2 (by kernel_rfl) [(6,21),(64,0),(65,1),(66,2),(67,3),(68,4),(69,5),(70,6),(71,7),(72,8),(73,9),(74,10),(75,11),(76,12),(77,13),(78,14),(79,15),(80,16),(81,17),(82,18),(83,19),(84,20)] [[],[],[],[0,1,2],[],[],[],[0,1,2,3,4,5,6],[0,1,2,3,4,5,6,7],[],[],[],[0,1,2,3,4,5,6,7,9,10,11],[0,1,2,3,4,5,6,7,8,9,10,11,12],[],[],[],[0,1,2,3,4,5,6,7,9,10,11,12,14,15,16],[0,1,2,3,4,5,6,7,8,9,10,11,12,13,14,15,16,17],[0,1,2,3,4,5,6,7,8,9,10,11,12,13,14,15,16,17,18],[0,1,2,3,4,5,6,7,8,9,10,11,12,13,14,15,16,17,18,19],[0,1,2,3,4,5,6,7,8,9,10,11,12,13,14,15,16,17,18,19,20]] (fun i own ys wx=>match i with|0=>own= .agg #[.int .i64 p.w,.int .i64 p.h,.slice a n c]|1=>own= .int .i64 (x/2)|2=>own= .int .i64 (y/2)|3=>own= .int .i64 s0|4=>own= .agg #[.int .i64 p.w,.int .i64 p.h,.slice a n c]|5=>own= .int .i64 ((x+1)/2)|6=>own= .int .i64 (y/2)|7=>own= .int .i64 s1|8=>own= .int .i64 (s0+s1)|9=>own= .agg #[.int .i64 p.w,.int .i64 p.h,.slice a n c]|10=>own= .int .i64 (x/2)|11=>own= .int .i64 ((y+1)/2)|12=>own= .int .i64 s2|13=>own= .int .i64 (s0+s1+s2)|14=>own= .agg #[.int .i64 p.w,.int .i64 p.h,.slice a n c]|15=>own= .int .i64 ((x+1)/2)|16=>own= .int .i64 ((y+1)/2)|17=>own= .int .i64 s3|18=>own= .int .i64 (s0+s1+s2+s3)|19=>own= .int .i64 (s0+s1+s2+s3+2)|20=>own= .int .i64 ((s0+s1+s2+s3+2)/4)|21=>own= .int .i64 ((s0+s1+s2+s3+2)/4)|_=>True) (fun kx wx=>Ext w0 wx) (by kernel_rfl) (by kernel_rfl) (by kernel_rfl) ?g0_r3 ?gop_r3 ?gend_r3
 case g0_r3=>exact Ext.drewN _ 1
 case gop_r3 =>
  refine⟨?o0,?_,?_,?o3,?o4,?_,?_,?o7,?o8,?o9,?_,?_,?o12,?o13,?o14,?_,?_,?o17,?o18,?o19,?o20,?o21,trivial⟩ <;> (intro kx xs wx hk hG hD hI Qo Kx hK hQo;simp only[patchS,Nat.reduceAdd,Nat.reduceEqDiff,↓reduceIte]at hQo⊢)
  case o0 =>
   clear hD hI;obtain⟨-,k0,k1,k2,-⟩:=bx3 (hG.blk p0);go_wp2;exact hK.out _ _ ⟨rfl,hG,kkp⟩
  case o3 =>
   rw[ddq (hD 0 rfl),ddq (hD 1 rfl),ddq (hD 2 rfl)]at hQo⊢;clear hD hI;go_wp2_with fail
   refine(at_any p (x/2) (y/2) a c n _ HV.out HN.out (r.ext (E0.trans hG))).mono ?_
   rintro e w2 ⟨rfl,e2⟩
   rw[←H0.out];go_wp2;exact hK.out _ _ ⟨rfl,hG.trans e2,fun _ _ _ _ _ _ h=>h⟩
  case o4 =>
   clear hD hI;obtain⟨-,k0,k1,k2,-⟩:=bx3 (hG.blk p0);go_wp2;exact hK.out _ _ ⟨rfl,hG,kkp⟩
  case o7 =>
   rw[ddq (hD 4 rfl),ddq (hD 5 rfl),ddq (hD 6 rfl)]at hQo⊢;clear hD hI;go_wp2_with fail
   refine(at_any p ((x+1)/2) (y/2) a c n _ HV.out HN.out (r.ext (E0.trans hG))).mono ?_
   rintro e w2 ⟨rfl,e2⟩
   rw[←H1.out];go_wp2;exact hK.out _ _ ⟨rfl,hG.trans e2,fun _ _ _ _ _ _ h=>h⟩
  case o8 =>
   rw[ddq (hD 3 rfl),ddq (hD 7 rfl)]at hQo⊢;clear hD hI;go_wp2;exact hK.out _ _ ⟨rfl,hG,kkp⟩
  case o9 =>
   clear hD hI;obtain⟨-,k0,k1,k2,-⟩:=bx3 (hG.blk p0);go_wp2;exact hK.out _ _ ⟨rfl,hG,kkp⟩
  case o12 =>
   rw[ddq (hD 9 rfl),ddq (hD 10 rfl),ddq (hD 11 rfl)]at hQo⊢;clear hD hI;go_wp2_with fail
   refine(at_any p (x/2) ((y+1)/2) a c n _ HV.out HN.out (r.ext (E0.trans hG))).mono ?_
   rintro e w2 ⟨rfl,e2⟩
   rw[←H2.out];go_wp2;exact hK.out _ _ ⟨rfl,hG.trans e2,fun _ _ _ _ _ _ h=>h⟩
  case o13 =>
   rw[ddq (hD 8 rfl),ddq (hD 12 rfl)]at hQo⊢;clear hD hI;go_wp2;exact hK.out _ _ ⟨rfl,hG,kkp⟩
  case o14 =>
   clear hD hI;obtain⟨-,k0,k1,k2,-⟩:=bx3 (hG.blk p0);go_wp2;exact hK.out _ _ ⟨rfl,hG,kkp⟩
  case o17 =>
   rw[ddq (hD 14 rfl),ddq (hD 15 rfl),ddq (hD 16 rfl)]at hQo⊢;clear hD hI;go_wp2_with fail
   refine(at_any p ((x+1)/2) ((y+1)/2) a c n _ HV.out HN.out (r.ext (E0.trans hG))).mono ?_
   rintro e w2 ⟨rfl,e2⟩
   rw[←H3.out];go_wp2;exact hK.out _ _ ⟨rfl,hG.trans e2,fun _ _ _ _ _ _ h=>h⟩
  case o18 =>
   rw[ddq (hD 13 rfl),ddq (hD 17 rfl)]at hQo⊢;clear hD hI;go_wp2;exact hK.out _ _ ⟨rfl,hG,kkp⟩
  case o19 =>
   rw[ddq (hD 18 rfl)]at hQo⊢;clear hD hI;go_wp2;exact hK.out _ _ ⟨rfl,hG,kkp⟩
  case o20 =>
   rw[ddq (hD 19 rfl)]at hQo⊢;clear hD hI;go_wp2;exact hK.out _ _ ⟨rfl,hG,kkp⟩
  case o21 =>
   rw[ddq (hD 20 rfl)]at hQo⊢;clear hD hI;go_wp2;exact hK.out _ _ ⟨rfl,hG,kkp⟩
  all_goals
   clear hD hI;go_wp2;exact hK.out _ _ ⟨rfl,hG,kkp⟩
 intro xs wx hV hG;have d21:_=_:=hV 21 (by decide);clear hV;simp only[patchS,Nat.reduceAdd,Nat.reduceEqDiff,↓reduceIte];generalize xs 0=y0,xs 1=y1,xs 2=y2,xs 3=y3,xs 4=y4,xs 5=y5,xs 6=y6,xs 7=y7,xs 8=y8,xs 9=y9,xs 10=y10,xs 11=y11,xs 12=y12,xs 13=y13,xs 14=y14,xs 15=y15,xs 16=y16,xs 17=y17,xs 18=y18,xs 19=y19,xs 20=y20,xs 21=y21 at *
 replace hG:Ext w0 wx:=hG
 subst d21;go_wp2;go_ret
 exact⟨(ret_intH HH).symm,E0.trans hG⟩
theorem half_any (p:Pic) (x y:Int) (a:Option Addr) (c n:Nat) (w:World) (hv:p.valid) (hn:n=p.px.length) (r:Sl w a n (p.px.map (Value.int .i64)))
 (x1 : -2000≤x) (x2:x≤2000) (y1 : -2000≤y) (y2:y≤2000) :
 Calls Tryz.prog 104 #[.agg #[.int .i64 p.w,.int .i64 p.h,.slice a n c],.int .i64 x,.int .i64 y] w fun e w'=>e= .returned (.int .i64 (hlf p x y))∧Ext w w':=by
 by_cases hx:x%2=0
 ·by_cases hy:y%2=0
  ·exact half_at_ee p x y a c n w hv hn r x1 x2 y1 y2 hx hy
  ·exact half_at_eo p x y a c n w hv hn r x1 x2 y1 y2 hx hy
 ·by_cases hy:y%2=0
  ·exact half_at_oe p x y a c n w hv hn r x1 x2 y1 y2 hx hy
  ·exact half_at_oo p x y a c n w hv hn r x1 x2 y1 y2 hx hy
theorem l7Half_ee (p:Pic) (x y:Int) (a:Option Addr) (c n:Nat) (w:World) (hv:p.valid) (hn:n=p.px.length) (r:Sl w a n (p.px.map (Value.int .i64)))
 (x1 : -2000≤x) (x2:x≤2000) (y1 : -2000≤y) (y2:y≤2000) (hx:x%2=0) (hy:y%2=0) :
 Calls Tryz.prog 162 #[.agg #[.int .i64 p.w,.int .i64 p.h,.slice a n c],.int .i64 x,.int .i64 y] w fun e w'=>e= .returned (.int .i64 (hlf p x y))∧Ext w w':=by
 have hh:=half_ee (p:=p) hx hy;have dx:(x.tmod 2 == 0)=true:=tm_even hx;have dy:(y.tmod 2 == 0)=true:=tm_even hy;have HH:=Lib.hid hh;clear hx hy hh;have p0:=blk_new w (.cells #[.int .i64 p.w,.int .i64 p.h,.slice a n c] 25);have E0:=Ext.alloc w (.cells #[.int .i64 p.w,.int .i64 p.h,.slice a n c] 25);obtain⟨B,hB⟩:∃ B,B=w.heap.size:=⟨_,rfl⟩;rw[←hB]at p0;have HB:=Lib.hid hB;have HN:=Lib.hid hn;have HV:=Lib.hid hv;clear hn hv;obtain⟨s0,hs0⟩:∃ s0,s0=pat p (x/2) (y/2):=⟨_,rfl⟩;have b0:=pat_rng HV.out (x/2) (y/2);rw[←hs0]at b0;have H0:=Lib.hid hs0;clear hs0;rw[←H0.out]at HH;obtain⟨-,k0,k1,k2,-⟩:=bx3 p0;go_enter Tryz.func162,Tryz.ntmps162
 go_wp2_with fail
 refine(l7Floor_any _ 2 _ (by omega) (by omega) (by omega) (by omega)).mono ?_
 rintro e w2 ⟨rfl,rfl⟩
 go_wp2_with fail
 refine(l7Floor_any _ 2 _ (by omega) (by omega) (by omega) (by omega)).mono ?_
 rintro e w2 ⟨rfl,rfl⟩
 go_wp2_with fail
 refine(l1At_any p (x/2) (y/2) a c n _ HV.out HN.out (r.ext E0)).mono ?_
 rintro e w2 ⟨rfl,e2⟩
 rw[←H0.out];have p2:=e2.blk p0;have E2:=E0.trans e2;rw[←hB];clear hB p0 k0 k1 k2 E0 e2;obtain⟨-,k0,k1,k2,-⟩:=bx3 p2;go_wp2;go_ret
 exact⟨(ret_intH HH).symm,E2⟩
theorem l7Half_oe (p:Pic) (x y:Int) (a:Option Addr) (c n:Nat) (w:World) (hv:p.valid) (hn:n=p.px.length) (r:Sl w a n (p.px.map (Value.int .i64)))
 (x1 : -2000≤x) (x2:x≤2000) (y1 : -2000≤y) (y2:y≤2000) (hx : ¬ x%2=0) (hy:y%2=0) :
 Calls Tryz.prog 162 #[.agg #[.int .i64 p.w,.int .i64 p.h,.slice a n c],.int .i64 x,.int .i64 y] w fun e w'=>e= .returned (.int .i64 (hlf p x y))∧Ext w w':=by
 have hh:=half_oe (p:=p) hx hy;have dx:(x.tmod 2 == 0)=false:=tm_odd hx;have dy:(y.tmod 2 == 0)=true:=tm_even hy;have HH:=Lib.hid hh;clear hx hy hh;have p0:=blk_new w (.cells #[.int .i64 p.w,.int .i64 p.h,.slice a n c] 25);have E0:=Ext.alloc w (.cells #[.int .i64 p.w,.int .i64 p.h,.slice a n c] 25);obtain⟨B,hB⟩:∃ B,B=w.heap.size:=⟨_,rfl⟩;rw[←hB]at p0;have HB:=Lib.hid hB;have HN:=Lib.hid hn;have HV:=Lib.hid hv;clear hn hv;obtain⟨s0,hs0⟩:∃ s0,s0=pat p (x/2) (y/2):=⟨_,rfl⟩;have b0:=pat_rng HV.out (x/2) (y/2);rw[←hs0]at b0;have H0:=Lib.hid hs0;clear hs0;obtain⟨s1,hs1⟩:∃ s1,s1=pat p (x/2+1) (y/2):=⟨_,rfl⟩;have b1:=pat_rng HV.out (x/2+1) (y/2);rw[←hs1]at b1;have H1:=Lib.hid hs1;clear hs1;rw[←H0.out,←H1.out]at HH;obtain⟨-,k0,k1,k2,-⟩:=bx3 p0;go_enter Tryz.func162,Tryz.ntmps162
 go_wp2_with fail
 refine(l7Floor_any _ 2 _ (by omega) (by omega) (by omega) (by omega)).mono ?_
 rintro e w2 ⟨rfl,rfl⟩
 go_wp2_with fail
 refine(l7Floor_any _ 2 _ (by omega) (by omega) (by omega) (by omega)).mono ?_
 rintro e w2 ⟨rfl,rfl⟩
 go_wp2_with fail
 refine(l1At_any p (x/2) (y/2) a c n _ HV.out HN.out (r.ext E0)).mono ?_
 rintro e w2 ⟨rfl,e2⟩
 rw[←H0.out];have p2:=e2.blk p0;have E2:=E0.trans e2;rw[←hB];clear hB p0 k0 k1 k2 E0 e2;obtain⟨-,k0,k1,k2,-⟩:=bx3 p2;go_wp2_with fail
 refine(l1At_any p (x/2+1) (y/2) a c n _ HV.out HN.out (r.ext E2)).mono ?_
 rintro e w3 ⟨rfl,e3⟩
 rw[←H1.out];go_wp2;go_ret
 exact⟨(ret_intH HH).symm,E2.trans e3⟩
theorem l7Half_eo (p:Pic) (x y:Int) (a:Option Addr) (c n:Nat) (w:World) (hv:p.valid) (hn:n=p.px.length) (r:Sl w a n (p.px.map (Value.int .i64)))
 (x1 : -2000≤x) (x2:x≤2000) (y1 : -2000≤y) (y2:y≤2000) (hx:x%2=0) (hy : ¬ y%2=0) :
 Calls Tryz.prog 162 #[.agg #[.int .i64 p.w,.int .i64 p.h,.slice a n c],.int .i64 x,.int .i64 y] w fun e w'=>e= .returned (.int .i64 (hlf p x y))∧Ext w w':=by
 have hh:=half_eo (p:=p) hx hy;have dx:(x.tmod 2 == 0)=true:=tm_even hx;have dy:(y.tmod 2 == 0)=false:=tm_odd hy;have HH:=Lib.hid hh;clear hx hy hh;have p0:=blk_new w (.cells #[.int .i64 p.w,.int .i64 p.h,.slice a n c] 25);have E0:=Ext.alloc w (.cells #[.int .i64 p.w,.int .i64 p.h,.slice a n c] 25);obtain⟨B,hB⟩:∃ B,B=w.heap.size:=⟨_,rfl⟩;rw[←hB]at p0;have HB:=Lib.hid hB;have HN:=Lib.hid hn;have HV:=Lib.hid hv;clear hn hv;obtain⟨s0,hs0⟩:∃ s0,s0=pat p (x/2) (y/2):=⟨_,rfl⟩;have b0:=pat_rng HV.out (x/2) (y/2);rw[←hs0]at b0;have H0:=Lib.hid hs0;clear hs0;obtain⟨s1,hs1⟩:∃ s1,s1=pat p (x/2) (y/2+1):=⟨_,rfl⟩;have b1:=pat_rng HV.out (x/2) (y/2+1);rw[←hs1]at b1;have H1:=Lib.hid hs1;clear hs1;rw[←H0.out,←H1.out]at HH;obtain⟨-,k0,k1,k2,-⟩:=bx3 p0;go_enter Tryz.func162,Tryz.ntmps162
 go_wp2_with fail
 refine(l7Floor_any _ 2 _ (by omega) (by omega) (by omega) (by omega)).mono ?_
 rintro e w2 ⟨rfl,rfl⟩
 go_wp2_with fail
 refine(l7Floor_any _ 2 _ (by omega) (by omega) (by omega) (by omega)).mono ?_
 rintro e w2 ⟨rfl,rfl⟩
 go_wp2_with fail
 refine(l1At_any p (x/2) (y/2) a c n _ HV.out HN.out (r.ext E0)).mono ?_
 rintro e w2 ⟨rfl,e2⟩
 rw[←H0.out];have p2:=e2.blk p0;have E2:=E0.trans e2;rw[←hB];clear hB p0 k0 k1 k2 E0 e2;obtain⟨-,k0,k1,k2,-⟩:=bx3 p2;go_wp2_with fail
 refine(l1At_any p (x/2) (y/2+1) a c n _ HV.out HN.out (r.ext E2)).mono ?_
 rintro e w3 ⟨rfl,e3⟩
 rw[←H1.out];go_wp2;go_ret
 exact⟨(ret_intH HH).symm,E2.trans e3⟩
theorem l7Half_oo (p:Pic) (x y:Int) (a:Option Addr) (c n:Nat) (w:World) (hv:p.valid) (hn:n=p.px.length) (r:Sl w a n (p.px.map (Value.int .i64)))
 (x1 : -2000≤x) (x2:x≤2000) (y1 : -2000≤y) (y2:y≤2000) (hx : ¬ x%2=0) (hy : ¬ y%2=0) :
 Calls Tryz.prog 162 #[.agg #[.int .i64 p.w,.int .i64 p.h,.slice a n c],.int .i64 x,.int .i64 y] w fun e w'=>e= .returned (.int .i64 (hlf p x y))∧Ext w w':=by
 have hh:=half_oo (p:=p) hx hy;have dx:(x.tmod 2 == 0)=false:=tm_odd hx;have dy:(y.tmod 2 == 0)=false:=tm_odd hy;have HH:=Lib.hid hh;clear hx hy hh;have p0:=blk_new w (.cells #[.int .i64 p.w,.int .i64 p.h,.slice a n c] 25);have E0:=Ext.alloc w (.cells #[.int .i64 p.w,.int .i64 p.h,.slice a n c] 25);obtain⟨B,hB⟩:∃ B,B=w.heap.size:=⟨_,rfl⟩;rw[←hB]at p0;have HB:=Lib.hid hB;have HN:=Lib.hid hn;have HV:=Lib.hid hv;clear hn hv;obtain⟨s0,hs0⟩:∃ s0,s0=pat p (x/2) (y/2):=⟨_,rfl⟩;have b0:=pat_rng HV.out (x/2) (y/2);rw[←hs0]at b0;have H0:=Lib.hid hs0;clear hs0;obtain⟨s1,hs1⟩:∃ s1,s1=pat p (x/2+1) (y/2):=⟨_,rfl⟩;have b1:=pat_rng HV.out (x/2+1) (y/2);rw[←hs1]at b1;have H1:=Lib.hid hs1;clear hs1;obtain⟨s2,hs2⟩:∃ s2,s2=pat p (x/2) (y/2+1):=⟨_,rfl⟩;have b2:=pat_rng HV.out (x/2) (y/2+1);rw[←hs2]at b2;have H2:=Lib.hid hs2;clear hs2;obtain⟨s3,hs3⟩:∃ s3,s3=pat p (x/2+1) (y/2+1):=⟨_,rfl⟩;have b3:=pat_rng HV.out (x/2+1) (y/2+1);rw[←hs3]at b3;have H3:=Lib.hid hs3;clear hs3;rw[←H0.out,←H1.out,←H2.out,←H3.out]at HH;obtain⟨-,k0,k1,k2,-⟩:=bx3 p0;go_enter Tryz.func162,Tryz.ntmps162
 go_wp2_with fail
 refine(l7Floor_any _ 2 _ (by omega) (by omega) (by omega) (by omega)).mono ?_
 rintro e w2 ⟨rfl,rfl⟩
 go_wp2_with fail
 refine(l7Floor_any _ 2 _ (by omega) (by omega) (by omega) (by omega)).mono ?_
 rintro e w2 ⟨rfl,rfl⟩
 go_wp2_with fail
 refine(l1At_any p (x/2) (y/2) a c n _ HV.out HN.out (r.ext E0)).mono ?_
 rintro e w2 ⟨rfl,e2⟩
 rw[←H0.out];have p2:=e2.blk p0;have E2:=E0.trans e2;rw[←hB];clear hB p0 k0 k1 k2 E0 e2;obtain⟨-,k0,k1,k2,-⟩:=bx3 p2;clear k0 k1 k2;go_wp2_with fail
 refine wp_region_inv2 (by kernel_rfl) [(6,22),(54,0),(55,1),(56,2),(57,3),(58,4),(59,5),(60,6),(61,7),(62,8),(63,9),(64,10),(65,11),(66,12),(67,13),(68,14),(69,15),(70,16),(71,17),(72,18),(73,19),(74,20),(75,21)] [[],[],[],[2],[],[1,2,3,4],[0,1,2,3,4,5],[],[],[],[9],[1,2,3,4,5,7,8,9,10],[0,1,2,3,4,5,6,7,8,9,10,11],[],[],[14],[],[16],[1,2,3,4,5,7,8,9,10,11,13,14,15,16,17],[0,1,2,3,4,5,6,7,8,9,10,11,12,13,14,15,16,17,18],[0,1,2,3,4,5,6,7,8,9,10,11,12,13,14,15,16,17,18,19],[0,1,2,3,4,5,6,7,8,9,10,11,12,13,14,15,16,17,18,19,20],[0,1,2,3,4,5,6,7,8,9,10,11,12,13,14,15,16,17,18,19,20,21]] (fun i own ys wx=>match i with|0=>own= .int .i64 s0|1=>own= .agg #[.int .i64 p.w,.int .i64 p.h,.slice a n c]|2=>own= .int .i64 (x/2)|3=>own= .int .i64 (x/2+1)|4=>own= .int .i64 (y/2)|5=>own= .int .i64 s1|6=>own= .int .i64 (s0+s1)|7=>own= .agg #[.int .i64 p.w,.int .i64 p.h,.slice a n c]|8=>own= .int .i64 (x/2)|9=>own= .int .i64 (y/2)|10=>own= .int .i64 (y/2+1)|11=>own= .int .i64 s2|12=>own= .int .i64 (s0+s1+s2)|13=>own= .agg #[.int .i64 p.w,.int .i64 p.h,.slice a n c]|14=>own= .int .i64 (x/2)|15=>own= .int .i64 (x/2+1)|16=>own= .int .i64 (y/2)|17=>own= .int .i64 (y/2+1)|18=>own= .int .i64 s3|19=>own= .int .i64 (s0+s1+s2+s3)|20=>own= .int .i64 (s0+s1+s2+s3+2)|21=>own= .int .i64 ((s0+s1+s2+s3+2)/4)|22=>own= .int .i64 ((s0+s1+s2+s3+2)/4)|_=>True) (fun kx wx=>Ext w2 wx) (by kernel_rfl) (by kernel_rfl) (by kernel_rfl) ?g0_r4 ?gop_r4 ?gend_r4
 case g0_r4=>exact Ext.drewN _ 1
 case gop_r4 =>
  refine⟨?_,?o1,?_,?o3,?_,?o5,?o6,?o7,?_,?_,?o10,?o11,?o12,?o13,?_,?o15,?_,?o17,?o18,?o19,?o20,?o21,?o22,trivial⟩ <;> (intro kx xs wx hk hG hD hI Qo Kx hK hQo;simp only[patchS,Nat.reduceAdd,Nat.reduceEqDiff,↓reduceIte]at hQo⊢)
  case o1 =>
   clear hD hI;obtain⟨-,k0,k1,k2,-⟩:=bx3 (hG.blk p2);go_wp2;exact hK.out _ _ ⟨rfl,hG,kkp⟩
  case o3 =>
   rw[ddq (hD 2 rfl)]at hQo⊢;clear hD hI;go_wp2;exact hK.out _ _ ⟨rfl,hG,kkp⟩
  case o5 =>
   rw[ddq (hD 1 rfl),ddq (hD 3 rfl),ddq (hD 4 rfl)]at hQo⊢;clear hD hI;go_wp2_with fail
   refine(l1At_any p (x/2+1) (y/2) a c n _ HV.out HN.out (r.ext (E2.trans hG))).mono ?_
   rintro e w3 ⟨rfl,e3⟩
   rw[←H1.out];go_wp2;exact hK.out _ _ ⟨rfl,hG.trans e3,fun _ _ _ _ _ _ h=>h⟩
  case o6 =>
   rw[ddq (hD 0 rfl),ddq (hD 5 rfl)]at hQo⊢;clear hD hI;go_wp2;exact hK.out _ _ ⟨rfl,hG,kkp⟩
  case o7 =>
   clear hD hI;obtain⟨-,k0,k1,k2,-⟩:=bx3 (hG.blk p2);go_wp2;exact hK.out _ _ ⟨rfl,hG,kkp⟩
  case o10 =>
   rw[ddq (hD 9 rfl)]at hQo⊢;clear hD hI;go_wp2;exact hK.out _ _ ⟨rfl,hG,kkp⟩
  case o11 =>
   rw[ddq (hD 7 rfl),ddq (hD 8 rfl),ddq (hD 10 rfl)]at hQo⊢;clear hD hI;go_wp2_with fail
   refine(l1At_any p (x/2) (y/2+1) a c n _ HV.out HN.out (r.ext (E2.trans hG))).mono ?_
   rintro e w3 ⟨rfl,e3⟩
   rw[←H2.out];go_wp2;exact hK.out _ _ ⟨rfl,hG.trans e3,fun _ _ _ _ _ _ h=>h⟩
  case o12 =>
   rw[ddq (hD 6 rfl),ddq (hD 11 rfl)]at hQo⊢;clear hD hI;go_wp2;exact hK.out _ _ ⟨rfl,hG,kkp⟩
  case o13 =>
   clear hD hI;obtain⟨-,k0,k1,k2,-⟩:=bx3 (hG.blk p2);go_wp2;exact hK.out _ _ ⟨rfl,hG,kkp⟩
  case o15 =>
   rw[ddq (hD 14 rfl)]at hQo⊢;clear hD hI;go_wp2;exact hK.out _ _ ⟨rfl,hG,kkp⟩
  case o17 =>
   rw[ddq (hD 16 rfl)]at hQo⊢;clear hD hI;go_wp2;exact hK.out _ _ ⟨rfl,hG,kkp⟩
  case o18 =>
   rw[ddq (hD 13 rfl),ddq (hD 15 rfl),ddq (hD 17 rfl)]at hQo⊢;clear hD hI;go_wp2_with fail
   refine(l1At_any p (x/2+1) (y/2+1) a c n _ HV.out HN.out (r.ext (E2.trans hG))).mono ?_
   rintro e w3 ⟨rfl,e3⟩
   rw[←H3.out];go_wp2;exact hK.out _ _ ⟨rfl,hG.trans e3,fun _ _ _ _ _ _ h=>h⟩
  case o19 =>
   rw[ddq (hD 12 rfl),ddq (hD 18 rfl)]at hQo⊢;clear hD hI;go_wp2;exact hK.out _ _ ⟨rfl,hG,kkp⟩
  case o20 =>
   rw[ddq (hD 19 rfl)]at hQo⊢;clear hD hI;go_wp2;exact hK.out _ _ ⟨rfl,hG,kkp⟩
  case o21 =>
   rw[ddq (hD 20 rfl)]at hQo⊢;clear hD hI;go_wp2;exact hK.out _ _ ⟨rfl,hG,kkp⟩
  case o22 =>
   rw[ddq (hD 21 rfl)]at hQo⊢;clear hD hI;go_wp2;exact hK.out _ _ ⟨rfl,hG,kkp⟩
  all_goals
   clear hD hI;go_wp2;exact hK.out _ _ ⟨rfl,hG,kkp⟩
 intro xs wx hV hG;have d22:_=_:=hV 22 (by decide);clear hV;simp only[patchS,Nat.reduceAdd,Nat.reduceEqDiff,↓reduceIte];generalize xs 0=y0,xs 1=y1,xs 2=y2,xs 3=y3,xs 4=y4,xs 5=y5,xs 6=y6,xs 7=y7,xs 8=y8,xs 9=y9,xs 10=y10,xs 11=y11,xs 12=y12,xs 13=y13,xs 14=y14,xs 15=y15,xs 16=y16,xs 17=y17,xs 18=y18,xs 19=y19,xs 20=y20,xs 21=y21,xs 22=y22 at *
 replace hG:Ext w2 wx:=hG
 subst d22;go_wp2;go_ret
 exact⟨(ret_intH HH).symm,E2.trans hG⟩
theorem l7Half_any (p:Pic) (x y:Int) (a:Option Addr) (c n:Nat) (w:World) (hv:p.valid) (hn:n=p.px.length) (r:Sl w a n (p.px.map (Value.int .i64)))
 (x1 : -2000≤x) (x2:x≤2000) (y1 : -2000≤y) (y2:y≤2000) :
 Calls Tryz.prog 162 #[.agg #[.int .i64 p.w,.int .i64 p.h,.slice a n c],.int .i64 x,.int .i64 y] w fun e w'=>e= .returned (.int .i64 (hlf p x y))∧Ext w w':=by
 by_cases hx:x%2=0
 ·by_cases hy:y%2=0
  ·exact l7Half_ee p x y a c n w hv hn r x1 x2 y1 y2 hx hy
  ·exact l7Half_eo p x y a c n w hv hn r x1 x2 y1 y2 hx hy
 ·by_cases hy:y%2=0
  ·exact l7Half_oe p x y a c n w hv hn r x1 x2 y1 y2 hx hy
  ·exact l7Half_oo p x y a c n w hv hn r x1 x2 y1 y2 hx hy
end Go.Proofs.YtbnhaegidfbgbaaGreatDoor
