/- FnCollectSlice: the order of packets does not matter, nor do repeated ones. | From the reading of an argument to the walks' words. -/
import Derived.Test.YtphfacfjhjcllaaQb10
import Derived.ProofKit
import Derived.OpenShut
import Derived.ShutString
import Derived.ChangeOld
import Derived.Deep.Slices
import Derived.Lib.SmallJoins
set_option linter.unusedVariables false
set_option linter.unusedSimpArgs false
set_option maxRecDepth 100000
set_option maxHeartbeats 16000000
namespace Go.Proofs.Ytphfacfjhjcllaa
open Go.RowKit
theorem PQ.congr {w:World} {H k:Nat} {v:Value} {x y:Nat→Pkt} {cs:List Value} (h:PQ w H v k x cs) (e:∀ i,i<k→x i=y i):PQ w H v k y cs:=⟨h.1,fun i hi=>by rw[←e i hi];exact h.2 i hi⟩
/-- The cells of a list of packets, one behind the other. -/
theorem LR.flat {w:World} {H n:Nat} {a:Option Addr} {x:Nat→Pkt} (h:LR w H a n x) :
 ∃ us:List Value,us.length=n*6∧(a=none→n=0)∧(∀ ad,a=some ad→∀ j u,us[j]?=some u→w.cell? (ad.add j)=some u)∧(∀ u∈us,u.oneCell'=true)∧∀ i,i<n→(∃ a c,RK us (i*6) (x i) a c∧BA w a c (x i).data)∧pkS (x i):=by
 cases a with
 | none =>
  have hn:n=0:=by
   refine Classical.byContradiction fun h0 => ?_
   obtain⟨b,off,a2,c2,h1,-⟩:=h 0 (by omega);cases h1
  subst hn;exact⟨[],rfl,fun _=>rfl,(fun ad e=>by cases e),(fun u hu=>by cases hu),fun i hi=>by omega⟩
 | some ad =>
  obtain⟨us,hus⟩:∃ us:List Value,us=(List.range (n*6)).map (fun j=>(w.cell? (ad.add j)).getD undef):=⟨_,rfl⟩;have hul:us.length=n*6:=by rw[hus];simp
  have hget:∀ j,j<n*6→us[j]?=some ((w.cell? (ad.add j)).getD undef):=fun j hj=>by rw[hus];simp[hj]
  have key:∀ i,i<n→∃(a2:Option Addr) (c2:Nat),(w.cell? (ad.add (i*6))=some (.int .i64 (x i).num)∧w.cell? (ad.add (i*6+1))=some (.int .i64 (x i).fr)∧w.cell? (ad.add (i*6+2))=some (.int .i64 (x i).row)∧w.cell? (ad.add (i*6+3))=some (.int .i64 (x i).part)∧w.cell? (ad.add (i*6+4))=some (.bool (x i).last)∧w.cell? (ad.add (i*6+5))=some (.slice a2 (x i).data.length c2))∧BA w a2 c2 (x i).data∧pkS (x i):=fun i hi=>by
   obtain⟨b,off,a2,c2,h1,-,-,⟨k0,k1,k2,k3,k4,k5⟩,h5,h6⟩:=h i hi;cases h1;refine⟨a2,c2,⟨?_,?_,?_,?_,?_,?_⟩,h5,h6⟩ <;> rw[Addr.add_lit]
   ·exact k0
   ·rw[←Nat.add_assoc];exact k1
   ·rw[←Nat.add_assoc];exact k2
   ·rw[←Nat.add_assoc];exact k3
   ·rw[←Nat.add_assoc];exact k4
   ·rw[←Nat.add_assoc];exact k5
  have some6:∀ j,j<n*6→∃ u,w.cell? (ad.add j)=some u∧u.oneCell'=true:=fun j hj=>by
   obtain⟨a2,c2,⟨k0,k1,k2,k3,k4,k5⟩,-⟩:=key (j/6) (by omega);have hj6:j=j/6*6+j%6:=by omega
   have hm:j%6<6:=Nat.mod_lt _ (by omega);generalize j%6=t at *
   match t,hm,hj6 with
   | 0,_,hj6=>rw[hj6];exact⟨_,k0,rfl⟩
   | 1,_,hj6=>rw[hj6];exact⟨_,k1,rfl⟩
   | 2,_,hj6=>rw[hj6];exact⟨_,k2,rfl⟩
   | 3,_,hj6=>rw[hj6];exact⟨_,k3,rfl⟩
   | 4,_,hj6=>rw[hj6];exact⟨_,k4,rfl⟩
   | 5,_,hj6=>rw[hj6];exact⟨_,k5,rfl⟩
   | t+6,hm,_=>omega
  refine⟨us,hul,(fun e=>by cases e),fun ad' e j u hu => ?_,fun u hu => ?_,fun i hi => ?_⟩
  ·cases e;have hj:j<n*6:=by rw[←hul];exact(List.getElem?_eq_some_iff.1 hu).1
   obtain⟨u',hu',-⟩:=some6 j hj;have h2:=hget j hj;rw[hu,hu']at h2;simp only[Option.getD_some,Option.some.injEq]at h2;rw[hu',h2]
  ·obtain⟨j,hj,rfl⟩:=List.getElem_of_mem hu;rw[hul]at hj;obtain⟨u',hu',ho⟩:=some6 j hj;have h2:=hget j hj;rw[List.getElem?_eq_getElem (by omega),hu']at h2;simp only[Option.getD_some,Option.some.injEq]at h2;rw[h2];exact ho
  ·obtain⟨a2,c2,⟨k0,k1,k2,k3,k4,k5⟩,hb,hs⟩:=key i hi;refine⟨⟨a2,c2,⟨?_,?_,?_,?_,?_,?_⟩,hb⟩,hs⟩
   ·rw[hget _ (by omega),k0];rfl
   ·rw[hget _ (by omega),k1];rfl
   ·rw[hget _ (by omega),k2];rfl
   ·rw[hget _ (by omega),k3];rfl
   ·rw[hget _ (by omega),k4];rfl
   ·rw[hget _ (by omega),k5];rfl
theorem PQ.apps {w w':World} {H k n:Nat} {v v':Value} {x y:Nat→Pkt} {cs us:List Value} (h:PQ w H v k x cs) (hul:us.length=n*6) (hu:∀ i,i<n→(∃ a c,RK us (i*6) (y i) a c∧BA w a c (y i).data)∧pkS (y i))
 (o:w'.ownsRow H 32 6 v' (k+n) (cs++us)) (g:w.grownBy w' v.ownBlock):PQ w' H v' (k+n) (fun i=>if i<k then x i else y (i-k)) (cs++us):=by
 have hl:cs.length=k*6:=h.1.1;refine⟨o,fun i hi => ?_⟩
 by_cases e:i<k
 ·simp only[if_pos e];obtain⟨⟨a,c,⟨k1,k2,k3,k4,k5,k6⟩,h2⟩,h4⟩:=h.2 i e;refine⟨⟨a,c,⟨?_,?_,?_,?_,?_,?_⟩,h2.own h.1 (by decide) g⟩,h4⟩ <;> (rw[List.getElem?_append_left (by omega)];assumption)
 ·simp only[if_neg e];obtain⟨⟨a,c,⟨k1,k2,k3,k4,k5,k6⟩,h2⟩,h4⟩:=hu (i-k) (by omega);refine⟨⟨a,c,⟨?_,?_,?_,?_,?_,?_⟩,h2.own h.1 (by decide) g⟩,h4⟩
  ·rw[List.getElem?_append_right (by omega),show i*6-cs.length=(i-k)*6 by omega];exact k1
  ·rw[List.getElem?_append_right (by omega),show i*6+1-cs.length=(i-k)*6+1 by omega];exact k2
  ·rw[List.getElem?_append_right (by omega),show i*6+2-cs.length=(i-k)*6+2 by omega];exact k3
  ·rw[List.getElem?_append_right (by omega),show i*6+3-cs.length=(i-k)*6+3 by omega];exact k4
  ·rw[List.getElem?_append_right (by omega),show i*6+4-cs.length=(i-k)*6+4 by omega];exact k5
  ·rw[List.getElem?_append_right (by omega),show i*6+5-cs.length=(i-k)*6+5 by omega];exact k6
/-- append(dst, src...) of cells, whatever the source. -/
theorem wpList_appsN {P:Program} (w:World) {ops:Array Oper} {rest:List Oper} {o:Oper} {a:Act} {Q:Exit→Act→World→Prop} {base e size:Nat} {v:Value} {n:Nat} {xs:List Value}
 (hown:w.ownsRow base e size v n xs) (hbase:base≤w.heap.size)
 (hg:o.guard=none) (s x:Operand) (t:TypeId) (ho:o.op= .call { callee := .builtin .append,args := #[s,x],argTypes := #[t,t] })
 (z:Value) (bytes:Nat) (h1:P.underlying t=some (.slice e)) (h2:(P.info? e).map (fun i=>(i.zero,i.size,i.bytes))=some (some z,size,bytes)) (hz1:z.cells.size=size) (hsz:0<size)
 (hs:a.eval s=v) (A:Option Addr) (m c:Nat) (us:List Value) (hx:a.eval x= .slice A m c) (hl:us.length=m*size) (hnone:A=none→m=0) (hcell:∀ ad,A=some ad→∀ j u,us[j]?=some u→w.cell? (ad.add j)=some u) (hu1:∀ u∈us,u.oneCell'=true)
 (hb:(n+m)*bytes≤140737488355328) (hn:n+m<2^62)
 (h:∀ v' w',w'.ownsRow base e size v' (n+m) (xs++us)→w.grownBy w' v.ownBlock→wpList P ops Q rest (a.put o.dst v') w'):wpList P ops Q (o::rest) a w:=by
 obtain⟨i0,hi,hz0,hz1',hz2⟩:=info_parts h2;cases A with
 | none =>
  obtain rfl:=hnone rfl;have hus:us = []:=List.eq_nil_of_length_eq_zero (by rw[hl,Nat.zero_mul]);subst hus;refine wpList_plain hg fun _ hK => ?_
  have hrun:=run_app_nil (P:=P) w base t o.type e i0 size h1 hi v n xs hown c;unfold Oper.wp execOp;simp only[ho,resolve,invoke,builtin,Sem.run_bind,Sem.run_pure,Result.andThen_ok,List.map_toArray,List.map_cons,List.map_nil,hs,hx,hrun];exact hK _ _ (h v w (by simpa using hown) (World.grownBy.refl w _))
 | some ad =>
  refine wpList_append_own _ hg s x t ho base e i0 z size bytes h1 hi hz0 hz1' hz2 hz1 hsz v n xs hs hown ad m c us hx hl (hcell ad rfl) hu1 (by unfold maxLen;omega) hb hbase ?_;intro v' w' a1 a2 _;exact h v' w' a1 a2
theorem law_FnCollectSlice (a:Option Addr) (c n:Nat) (zs:List Int) (w:World) (hn0:n≤c∧c≤maxLen) (sl:Sl w a n (zs.map (Value.int .u8))) (wf:∀ z∈zs,(Lit.int .u8 z).wf=true) :
 Calls Try.prog 4 #[.slice a n c] w fun e w'=>e= .returned (.bool true)∧Ext w w':=by
 have hn:n≤c∧c≤9223372036854775807:=⟨hn0.1,hn0.2⟩;clear hn0;have hz:=Lib.hid (byte_rangeM wf);clear wf
 by_cases hbig:1048576<n
 ·go_enter Try.func4,Try.ntmps4
  go_wp2;go_ret
  refine⟨rfl,?_⟩
  (repeat (first|with_reducible exact Below.refl _ _|assumption|with_reducible refine below_drewN ?_ _|with_reducible refine Below.drew ?_|with_reducible refine Below.setCell ?_ (by simp <;> omega) _|with_reducible refine Ext.trans ?_ (Ext.alloc _ _)))
 go_enter Try.func4,Try.ntmps4
 go_wp2_with fail
 refine(DrawCollectSlice_any a c n zs _ hn.1 hn.2 (sl.ext (by(repeat (first|with_reducible exact Below.refl _ _|assumption|with_reducible refine below_drewN ?_ _|with_reducible refine Below.drew ?_|with_reducible refine Below.setCell ?_ (by simp <;> omega) _|with_reducible refine Ext.trans ?_ (Ext.alloc _ _))))) hz.out).mono ?_
 rintro e w1 ⟨k,x,al,cl,f,q,rfl,hk,hcl,L1,hf,hq,e1⟩
 have E1:Ext w w1:=by refine Ext.trans ?_ e1;(repeat (first|with_reducible exact Below.refl _ _|assumption|with_reducible refine below_drewN ?_ _|with_reducible refine Below.drew ?_|with_reducible refine Below.setCell ?_ (by simp <;> omega) _|with_reducible refine Ext.trans ?_ (Ext.alloc _ _)))
 clear sl hz e1;have Hf:=Lib.hid (show wfI f from wf_small (by omega) (by omega));have Hq:=Lib.hid (show wfI q from wf_small (by omega) (by omega));have HWF:=Lib.hid (show ∀ p∈pkl k x,wfI p.fr∧wfI p.row∧wfI p.part from fun p hp=>by
  have:=(L1.wf p hp).1;unfold pkb at this;exact⟨wf_small (by omega) (by omega),wf_small (by omega) (by omega),wf_small (by omega) (by omega)⟩)
 have hcol:=coll_len (pkl k x) f q;obtain⟨C,hC⟩:∃ C,C=coll (pkl k x) f q:=⟨_,rfl⟩;rw[←hC]at hcol;have HC:=Lib.hid hC;obtain⟨D,hD⟩:∃ D,D=C.getD []:=⟨_,rfl⟩;obtain⟨okb,hok⟩:∃ b,b=C.isSome:=⟨_,rfl⟩;have hD0:okb=false→D.length=0:=fun h=>by
  cases C with
  | none=>rw[hD];rfl
  | some v=>rw[hok]at h;cases h
 have HD0:=Lib.hid hD0;have HDD:=Lib.hid (⟨hD,hok⟩:_∧_);rw[←hD]at hcol;obtain⟨m,hm⟩:∃ m,m=D.length:=⟨_,rfl⟩;rw[←hm]at hcol;have HM:=Lib.hid hm;clear hC hD hok hD0 hm;have hbb:(okb != okb)=false:=by cases okb <;> rfl
 go_wp2_with fail
 refine(impl_CollectSlice_any al cl k (pkl k x) f q _ (by omega) L1.kp HWF.out Hf.out Hq.out).mono ?_;rw[←HC.out];unfold CoR;rw[←HDD.out.1,←HDD.out.2,←HM.out]
 rintro e w2 ⟨a2,c2,rfl,o2,e2⟩
 have E2:=E1.trans e2;have L2:=L1.ext e2;have o2':=owns_mono o2 E1.size;clear E1 e2 L1 o2;go_wp2_with fail
 refine(spec_CollectSlice_any al cl k (pkl k x) f q _ (by omega) L2.kp).mono ?_;rw[←HC.out];unfold CoR;rw[←HDD.out.1,←HDD.out.2,←HM.out]
 rintro e w3 ⟨a3,c3,rfl,o3,e3⟩
 have E3:=E2.trans e3;have L3:=L2.ext e3;have o2'':=owns_ext o2' e3;have hv2:=conv_own w3 _ a2 _ c2 D o2'';have hv3:=conv_own w3 _ a3 _ c3 D o3;have HO:=Lib.hid o2'';clear E2 e3 L2 o2' o3 o2'';have hss:((strOfNums D).toList != (strOfNums D).toList)=false:=by simp
 have hse:((strOfNums D).toList == (strOfNums D).toList)=true:=by simp
 have o5:=World.ownsRow_made (base:=w3.heap.size) (e:=32) (size:=6) w3 #[] 0 (Nat.le_refl _) (by simp) rfl;have e5:=Ext.alloc w3 (.cells #[] 32);obtain⟨us,hul,hun,huc,hu1,huk⟩:=(L3.ext e5).flat;have hs5:=e5.size;have HL3:=Lib.hid L3;clear L3;cases okb
 case false =>
  obtain rfl:m=0:=by rw[HM.out];exact HD0.out rfl
  go_wp2_with (at_builtin;refine wpList_appsN _ o5 hs5 rfl _ _ 23 rfl (.agg #[.int .i64 0,.int .i64 0,.int .i64 0,.int .i64 0,.bool false,.slice none 0 0]) 64 Try.underlying23 info_Packet rfl (by decide) rfl al k cl us rfl hul hun huc hu1 (by omega) (by omega) ?_;intro v6 w6 own6 gr6;refine Hid.out ?_)
  have Q6:=(nil_PQ _ _ _ o5).apps hul huk own6 gr6;rw[Nat.zero_add]at Q6
  replace Q6:=Q6.congr (y:=x) (fun i _=>by simp)
  have e6:Ext w3 w6:=Ext.grown e5 gr6 (owns_ge o5);clear hul hun huc hu1 huk own6 gr6 o5 e5 hs5;obtain⟨us2,hul,hun,huc,hu1,huk⟩:=(HL3.out.ext e6).flat;have o6:=Q6.1;have hs6:=e6.size;have HQ6:=Lib.hid Q6;clear Q6;refine Lib.hid ?_;go_wp2_with (at_builtin;refine wpList_appsN _ o6 hs6 rfl _ _ 23 rfl (.agg #[.int .i64 0,.int .i64 0,.int .i64 0,.int .i64 0,.bool false,.slice none 0 0]) 64 Try.underlying23 info_Packet rfl (by decide) rfl al k cl us2 rfl hul hun huc hu1 (by omega) (by omega) ?_;intro v7 w7 own7 gr7;refine Hid.out ?_)
  have Q7:=HQ6.out.apps hul huk own7 gr7;have e7:Ext w3 w7:=Ext.grown e6 gr7 (owns_ge o6);obtain⟨a7,c7,rfl⟩:=owns_form Q7.1;have kp7:=Q7.kp;have HWF7:=Lib.hid (show ∀ p∈pkl (k+k) (fun i=>if i<k then x i else x (i-k)),wfI p.fr∧wfI p.row∧wfI p.part from fun p hp=>by
   have:=(Q7.wf p hp).1;unfold pkb at this;exact⟨wf_small (by omega) (by omega),wf_small (by omega) (by omega),wf_small (by omega) (by omega)⟩)
  clear hul hun huc hu1 huk own7 gr7 o6 e6 hs6 HQ6 Q7;refine Lib.hid ?_;go_wp2_with fail
  refine(impl_CollectSlice_any a7 c7 (k+k) _ f q _ (by omega) kp7 HWF7.out Hf.out Hq.out).mono ?_;rw[coll_twice,←HC.out];unfold CoR;rw[←HDD.out.1,←HDD.out.2,←HM.out]
  rintro e w8 ⟨a8,c8,rfl,o8,e8⟩
  have E38:=e7.trans e8;have hv2:=conv_own w8 _ a2 _ c2 D (owns_ext HO.out E38);have hv8:=conv_own w8 _ a8 _ c8 D o8;have E8:=E3.trans E38;have HL8:=Lib.hid (HL3.out.ext E38);have HO8:=Lib.hid (owns_ext HO.out E38);clear kp7 HWF7 o8 e7 e8 E38 HO E3 HL3 hv3;have oT:=World.ownsRow_made (base:=w8.heap.size) (e:=32) (size:=6) w8 #[] 0 (Nat.le_refl _) (by simp) rfl;have eT:=Ext.alloc w8 (.cells #[] 32);have QT:=nil_PQ _ _ _ oT;clear oT;go_wp2_with fail
  go_loopw [12,13] (fun v y wr=>∃(s:Nat) (cs:List Value),s≤k∧y= .int .i64 ((k:Int)-1-s)∧Ext w8 wr∧PQ wr w8.heap.size v s (fun j=>x (k-1-j)) cs∧Hid (∀ K j,k-s≤K→K<k→j<K→(x j).fr=(x K).fr→(x j).row=(x K).row→(x j).part=(x K).part→x j=x K)) (fun _ y _=>(intOf y+1).toNat)
  case atStart=>exact⟨0,_,by omega,by first|rfl|(congr 1;omega)|simp,eT,QT.congr (fun i hi=>by omega),Lib.hid (fun K j h1 h2=>by omega)⟩
  case round =>
   clear eT QT hv2 hv8;obtain⟨s,cs,hs,rfl,e9,Q9,Hall⟩:=hrel;obtain⟨a9,c9,rfl⟩:=owns_form Q9.1
   by_cases hlt:s<k
   ·obtain⟨K,hK⟩:∃ K,K=k-1-s:=⟨_,rfl⟩;have hKk:K<k:=by omega
    have HK0:=Lib.hid hK;rw[show(k:Int)-1-s=(K:Int) by omega];obtain⟨b,off,ka,kc,he,-,-,⟨m0,m1,m2,m3,m4,m5⟩,hbK,hsK⟩:=(HL8.out.ext e9) K hKk;cases he;have o9:=Q9.1;have hs9:=e9.size;have HQ9:=Lib.hid Q9;have HK1:=Lib.hid (⟨hbK,hsK⟩:_∧_);have hdK:decide (((K:Nat):Int)≥0)=true:=by simp
    clear Q9 hbK hsK hK;go_wp2_with (at_builtin;refine wpList_app6 _ o9 hs9 _ _ _ _ _ _ rfl _ _ 23 rfl (.agg #[.int .i64 0,.int .i64 0,.int .i64 0,.int .i64 0,.bool false,.slice none 0 0]) 64 Try.underlying23 info_Packet rfl rfl rfl (by intro u hu;simp at hu;rcases hu with rfl|rfl|rfl|rfl|rfl|rfl <;> rfl) (by omega) (by omega) ?_;intro v10 w10 own10 gr10;refine Hid.out ?_)
    have Q10:=HQ9.out.app (y:=x K) own10 gr10 HK1.out.1 HK1.out.2
    replace Q10:=Q10.congr (y:=fun j=>x (k-1-j)) (fun i hi=>by
     by_cases hi2:i<s
     ·rw[fk_lt hi2]
     ·obtain rfl:i=s:=by omega
      rw[fk_eq,HK0.out])
    have e10:Ext w8 w10:=Ext.grown e9 gr10 (owns_ge o9);obtain⟨a10,c10,rfl⟩:=owns_form Q10.1;have HQ10:=Lib.hid Q10;clear own10 gr10 o9 hs9 HQ9 HK1 Q10 e9 m0 m1 m2 m3 m4 m5 hdK;refine Lib.hid ?_;go_wp2_with fail
    go_loopw [14] (fun y wr=>∃ j:Nat,j≤K∧y= .int .i64 (j:Nat)∧Ext w10 wr∧Hid (∀ j',j'<j→(x j').fr=(x K).fr→(x j').row=(x K).row→(x j').part=(x K).part→x j'=x K)) (fun y _=>K-(intOf y).toNat)
    case atStart=>exact⟨0,by omega,rfl,Below.refl _ _,Lib.hid (fun j' h=>by omega)⟩
    case round =>
     obtain⟨j,hj,rfl,E10,Hj⟩:=hrel
     by_cases hjK:j<K
     ·have hjKi:(j:Int)<k:=by omega
      have hKi:(K:Int)<k:=by omega
      obtain⟨b',off',ka,kc,he,-,-,⟨m0,m1,m2,m3,m4,m5⟩,hbK,hsK⟩:=(HL8.out.ext (e10.trans E10)) K hKk;cases he;obtain⟨b',off',ja,jc,he,-,-,⟨n0,n1,n2,n3,n4,n5⟩,hbJ,hsJ⟩:=(HL8.out.ext (e10.trans E10)) j (by omega);cases he;have HK:=Lib.hid (⟨hbK,hsK⟩:_∧_);have HJ:=Lib.hid (⟨hbJ,hsJ⟩:_∧_);clear hbK hsK hbJ hsJ;go_upto_region 19 with fail
      by_cases c1:(x j).fr=(x K).fr
      ·have d1:((x j).fr == (x K).fr)=true:=by simpa using c1
       by_cases c2:(x j).row=(x K).row
       ·have d2:((x j).row == (x K).row)=true:=by simpa using c2
        by_cases c3:(x j).part=(x K).part
        ·have d3:((x j).part == (x K).part)=true:=by simpa using c3
         clear c1 c2 c3;refine wp_region_inv2 (by kernel_rfl) [(100,0),(101,1),(102,2),(103,3),(104,4),(105,5),(106,6),(107,7),(108,8),(109,9),(110,10),(111,11),(112,12),(113,13),(114,14),(115,15),(116,16),(117,17),(118,18),(119,19),(120,20),(121,21),(122,22),(123,23),(124,24),(125,25),(126,26),(127,27),(128,28),(129,29),(130,30),(131,31),(132,32),(133,33),(134,34),(135,35),(136,36),(137,37),(138,38),(139,39),(140,40),(141,41),(142,42),(143,43),(144,44),(145,45),(146,46),(147,47),(148,48)] [[],[],[0,1],[0,1,2],[0,1,2,3],[],[],[5,6],[5,6,7],[5,6,7,8],[0,1,2,3,4,5,6,7,8,9],[0,1,2,3,4,5,6,7,8,9,10],[0,1,2,3,4,5,6,7,8,9,10,11],[0,1,2,3,4,5,6,7,8,9,10,11],[0,1,2,3,4,5,6,7,8,9,10,11,12,13],[0,1,2,3,4,5,6,7,8,9,10,11,12,13,14],[0,1,2,3,4,5,6,7,8,9,10,11,12,13,14,15],[0,1,2,3,4,5,6,7,8,9,10,11],[0,1,2,3,4,5,6,7,8,9,10,11],[0,1,2,3,4,5,6,7,8,9,10,11,17,18],[0,1,2,3,4,5,6,7,8,9,10,11,17,18,19],[0,1,2,3,4,5,6,7,8,9,10,11,17,18,19,20],[0,1,2,3,4,5,6,7,8,9,10,11,12,13,14,15,16,17,18,19,20,21],[0,1,2,3,4,5,6,7,8,9,10,11,12,13,14,15,16,17,18,19,20,21,22],[0,1,2,3,4,5,6,7,8,9,10,11,12,13,14,15,16,17,18,19,20,21,22,23],[0,1,2,3,4,5,6,7,8,9,10,11,12,13,14,15,16,17,18,19,20,21,22,23,24],[0,1,2,3,4,5,6,7,8,9,10,11,12,13,14,15,16,17,18,19,20,21,22,23,24],[0,1,2,3,4,5,6,7,8,9,10,11,12,13,14,15,16,17,18,19,20,21,22,23,24,25,26],[0,1,2,3,4,5,6,7,8,9,10,11,12,13,14,15,16,17,18,19,20,21,22,23,24,25,26,27],[0,1,2,3,4,5,6,7,8,9,10,11,12,13,14,15,16,17,18,19,20,21,22,23,24,25,26,27,28],[0,1,2,3,4,5,6,7,8,9,10,11,12,13,14,15,16,17,18,19,20,21,22,23,24],[0,1,2,3,4,5,6,7,8,9,10,11,12,13,14,15,16,17,18,19,20,21,22,23,24],[0,1,2,3,4,5,6,7,8,9,10,11,12,13,14,15,16,17,18,19,20,21,22,23,24,30,31],[0,1,2,3,4,5,6,7,8,9,10,11,12,13,14,15,16,17,18,19,20,21,22,23,24,30,31,32],[0,1,2,3,4,5,6,7,8,9,10,11,12,13,14,15,16,17,18,19,20,21,22,23,24,30,31,32,33],[0,1,2,3,4,5,6,7,8,9,10,11,12,13,14,15,16,17,18,19,20,21,22,23,24,25,26,27,28,29,30,31,32,33,34],[0,1,2,3,4,5,6,7,8,9,10,11,12,13,14,15,16,17,18,19,20,21,22,23,24,25,26,27,28,29,30,31,32,33,34,35],[0,1,2,3,4,5,6,7,8,9,10,11,12,13,14,15,16,17,18,19,20,21,22,23,24,25,26,27,28,29,30,31,32,33,34,35,36],[0,1,2,3,4,5,6,7,8,9,10,11,12,13,14,15,16,17,18,19,20,21,22,23,24,25,26,27,28,29,30,31,32,33,34,35,36,37],[0,1,2,3,4,5,6,7,8,9,10,11,12,13,14,15,16,17,18,19,20,21,22,23,24,25,26,27,28,29,30,31,32,33,34,35,36,37],[0,1,2,3,4,5,6,7,8,9,10,11,12,13,14,15,16,17,18,19,20,21,22,23,24,25,26,27,28,29,30,31,32,33,34,35,36,37,38,39],[0,1,2,3,4,5,6,7,8,9,10,11,12,13,14,15,16,17,18,19,20,21,22,23,24,25,26,27,28,29,30,31,32,33,34,35,36,37,38,39,40],[0,1,2,3,4,5,6,7,8,9,10,11,12,13,14,15,16,17,18,19,20,21,22,23,24,25,26,27,28,29,30,31,32,33,34,35,36,37],[0,1,2,3,4,5,6,7,8,9,10,11,12,13,14,15,16,17,18,19,20,21,22,23,24,25,26,27,28,29,30,31,32,33,34,35,36,37],[0,1,2,3,4,5,6,7,8,9,10,11,12,13,14,15,16,17,18,19,20,21,22,23,24,25,26,27,28,29,30,31,32,33,34,35,36,37,42,43],[0,1,2,3,4,5,6,7,8,9,10,11,12,13,14,15,16,17,18,19,20,21,22,23,24,25,26,27,28,29,30,31,32,33,34,35,36,37,42,43,44],[0,1,2,3,4,5,6,7,8,9,10,11,12,13,14,15,16,17,18,19,20,21,22,23,24,25,26,27,28,29,30,31,32,33,34,35,36,37,38,39,40,41,42,43,44,45],[0,1,2,3,4,5,6,7,8,9,10,11,12,13,14,15,16,17,18,19,20,21,22,23,24,25,26,27,28,29,30,31,32,33,34,35,36,37,38,39,40,41,42,43,44,45,46],[0,1,2,3,4,5,6,7,8,9,10,11,12,13,14,15,16,17,18,19,20,21,22,23,24,25,26,27,28,29,30,31,32,33,34,35,36,37,38,39,40,41,42,43,44,45,46,47]] (fun i own ys wx=>match i with|0=>own= .slice (some ⟨b,off,none⟩) k cl|1=>own= .int .i64 (j:Int)|2=>own= .pointer (some ⟨b,off+j*6,none⟩)|3=>own= .pointer (some ⟨b,off+j*6+1,none⟩)|4=>own= .int .i64 (x j).fr|5=>own= .slice (some ⟨b,off,none⟩) k cl|6=>own= .int .i64 (K:Int)|7=>own= .pointer (some ⟨b,off+K*6,none⟩)|8=>own= .pointer (some ⟨b,off+K*6+1,none⟩)|9=>own= .int .i64 (x K).fr|10=>own= .bool true|11=>own= .bool true|12=>own= .slice (some ⟨b,off,none⟩) k cl|13=>own= .int .i64 (j:Int)|14=>own= .pointer (some ⟨b,off+j*6,none⟩)|15=>own= .pointer (some ⟨b,off+j*6+2,none⟩)|16=>own= .int .i64 (x j).row|17=>own= .slice (some ⟨b,off,none⟩) k cl|18=>own= .int .i64 (K:Int)|19=>own= .pointer (some ⟨b,off+K*6,none⟩)|20=>own= .pointer (some ⟨b,off+K*6+2,none⟩)|21=>own= .int .i64 (x K).row|22=>own= .bool true|23=>own= .bool true|24=>own= .bool true|25=>own= .slice (some ⟨b,off,none⟩) k cl|26=>own= .int .i64 (j:Int)|27=>own= .pointer (some ⟨b,off+j*6,none⟩)|28=>own= .pointer (some ⟨b,off+j*6+3,none⟩)|29=>own= .int .i64 (x j).part|30=>own= .slice (some ⟨b,off,none⟩) k cl|31=>own= .int .i64 (K:Int)|32=>own= .pointer (some ⟨b,off+K*6,none⟩)|33=>own= .pointer (some ⟨b,off+K*6+3,none⟩)|34=>own= .int .i64 (x K).part|35=>own= .bool true|36=>own= .bool true|37=>own= .bool true|38=>own= .slice (some ⟨b,off,none⟩) k cl|39=>own= .int .i64 (j:Int)|40=>own= .pointer (some ⟨b,off+j*6,none⟩)|41=>own= .agg #[.int .i64 (x j).num,.int .i64 (x j).fr,.int .i64 (x j).row,.int .i64 (x j).part,.bool (x j).last,.slice ja (x j).data.length jc]|42=>own= .slice (some ⟨b,off,none⟩) k cl|43=>own= .int .i64 (K:Int)|44=>own= .pointer (some ⟨b,off+K*6,none⟩)|45=>own= .agg #[.int .i64 (x K).num,.int .i64 (x K).fr,.int .i64 (x K).row,.int .i64 (x K).part,.bool (x K).last,.slice ka (x K).data.length kc]|46=>∃ r:Bool,own= .bool r∧(r=true→x j=x K)|47=>∃ r:Bool,own= .bool (!r)∧(r=true→x j=x K)|48=>∃ r:Bool,own= .bool (!r)∧(r=true→x j=x K)|_=>True) (fun kx wx=>Ext wr wx) (by kernel_rfl) (by kernel_rfl) (by kernel_rfl) ?g0_r1 ?gop_r1 ?gend_r1
         case g0_r1=>exact Ext.drewN _ 1
         case gop_r1 =>
          refine⟨?_,?_,?o2,?o3,?o4,?_,?_,?o7,?o8,?o9,?o10,?o11,?o12,?o13,?o14,?o15,?o16,?o17,?o18,?o19,?o20,?o21,?o22,?o23,?o24,?o25,?o26,?o27,?o28,?o29,?o30,?o31,?o32,?o33,?o34,?o35,?o36,?o37,?o38,?o39,?o40,?o41,?o42,?o43,?o44,?o45,?o46,?o47,?o48,trivial⟩ <;> (intro kx xs wx hk hG hD hI Qo Kx hK hQo;simp only[patchS,Nat.reduceAdd,Nat.reduceEqDiff,↓reduceIte]at hQo⊢)
          case o2 =>
           rw[ddq (hD 0 rfl),ddq (hD 1 rfl)]at hQo⊢;clear hD hI;go_wp2;exact hK.out _ _ ⟨rfl,hG,kkp⟩
          case o3 =>
           rw[ddq (hD 2 rfl)]at hQo⊢;clear hD hI;go_wp2;exact hK.out _ _ ⟨rfl,hG,kkp⟩
          case o4 =>
           rw[ddq (hD 3 rfl)]at hQo⊢;clear hD hI;have k0:=cell_ext hG n1;go_wp2;exact hK.out _ _ ⟨rfl,hG,kkp⟩
          case o7 =>
           rw[ddq (hD 5 rfl),ddq (hD 6 rfl)]at hQo⊢;clear hD hI;go_wp2;exact hK.out _ _ ⟨rfl,hG,kkp⟩
          case o8 =>
           rw[ddq (hD 7 rfl)]at hQo⊢;clear hD hI;go_wp2;exact hK.out _ _ ⟨rfl,hG,kkp⟩
          case o9 =>
           rw[ddq (hD 8 rfl)]at hQo⊢;clear hD hI;have k0:=cell_ext hG m1;go_wp2;exact hK.out _ _ ⟨rfl,hG,kkp⟩
          case o10 =>
           rw[ddq (hD 4 rfl),ddq (hD 9 rfl)]at hQo⊢;clear hD hI;go_wp2;exact hK.out _ _ ⟨rfl,hG,kkp⟩
          case o11 =>
           rw[ddq (hD 10 rfl)]at hQo⊢;clear hD hI;go_wp2;exact hK.out _ _ ⟨rfl,hG,kkp⟩
          case o12 =>
           rw[ddq (hD 11 rfl)]at hQo⊢;clear hD hI;go_wp2;exact hK.out _ _ ⟨rfl,hG,kkp⟩
          case o13 =>
           rw[ddq (hD 11 rfl)]at hQo⊢;clear hD hI;go_wp2;exact hK.out _ _ ⟨rfl,hG,kkp⟩
          case o14 =>
           rw[ddq (hD 12 rfl),ddq (hD 13 rfl),ddq (hD 11 rfl)]at hQo⊢;clear hD hI;go_wp2;exact hK.out _ _ ⟨rfl,hG,kkp⟩
          case o15 =>
           rw[ddq (hD 14 rfl),ddq (hD 11 rfl)]at hQo⊢;clear hD hI;go_wp2;exact hK.out _ _ ⟨rfl,hG,kkp⟩
          case o16 =>
           rw[ddq (hD 15 rfl),ddq (hD 11 rfl)]at hQo⊢;clear hD hI;have k0:=cell_ext hG n2;go_wp2;exact hK.out _ _ ⟨rfl,hG,kkp⟩
          case o17 =>
           rw[ddq (hD 11 rfl)]at hQo⊢;clear hD hI;go_wp2;exact hK.out _ _ ⟨rfl,hG,kkp⟩
          case o18 =>
           rw[ddq (hD 11 rfl)]at hQo⊢;clear hD hI;go_wp2;exact hK.out _ _ ⟨rfl,hG,kkp⟩
          case o19 =>
           rw[ddq (hD 17 rfl),ddq (hD 18 rfl),ddq (hD 11 rfl)]at hQo⊢;clear hD hI;go_wp2;exact hK.out _ _ ⟨rfl,hG,kkp⟩
          case o20 =>
           rw[ddq (hD 19 rfl),ddq (hD 11 rfl)]at hQo⊢;clear hD hI;go_wp2;exact hK.out _ _ ⟨rfl,hG,kkp⟩
          case o21 =>
           rw[ddq (hD 20 rfl),ddq (hD 11 rfl)]at hQo⊢;clear hD hI;have k0:=cell_ext hG m2;go_wp2;exact hK.out _ _ ⟨rfl,hG,kkp⟩
          case o22 =>
           rw[ddq (hD 16 rfl),ddq (hD 21 rfl),ddq (hD 11 rfl)]at hQo⊢;clear hD hI;go_wp2;exact hK.out _ _ ⟨rfl,hG,kkp⟩
          case o23 =>
           rw[ddq (hD 11 rfl),ddq (hD 22 rfl)]at hQo⊢;clear hD hI;go_wp2;exact hK.out _ _ ⟨rfl,hG,kkp⟩
          case o24 =>
           rw[ddq (hD 23 rfl)]at hQo⊢;clear hD hI;go_wp2;exact hK.out _ _ ⟨rfl,hG,kkp⟩
          case o25 =>
           rw[ddq (hD 24 rfl)]at hQo⊢;clear hD hI;go_wp2;exact hK.out _ _ ⟨rfl,hG,kkp⟩
          case o26 =>
           rw[ddq (hD 24 rfl)]at hQo⊢;clear hD hI;go_wp2;exact hK.out _ _ ⟨rfl,hG,kkp⟩
          case o27 =>
           rw[ddq (hD 25 rfl),ddq (hD 26 rfl),ddq (hD 24 rfl)]at hQo⊢;clear hD hI;go_wp2;exact hK.out _ _ ⟨rfl,hG,kkp⟩
          case o28 =>
           rw[ddq (hD 27 rfl),ddq (hD 24 rfl)]at hQo⊢;clear hD hI;go_wp2;exact hK.out _ _ ⟨rfl,hG,kkp⟩
          case o29 =>
           rw[ddq (hD 28 rfl),ddq (hD 24 rfl)]at hQo⊢;clear hD hI;have k0:=cell_ext hG n3;go_wp2;exact hK.out _ _ ⟨rfl,hG,kkp⟩
          case o30 =>
           rw[ddq (hD 24 rfl)]at hQo⊢;clear hD hI;go_wp2;exact hK.out _ _ ⟨rfl,hG,kkp⟩
          case o31 =>
           rw[ddq (hD 24 rfl)]at hQo⊢;clear hD hI;go_wp2;exact hK.out _ _ ⟨rfl,hG,kkp⟩
          case o32 =>
           rw[ddq (hD 30 rfl),ddq (hD 31 rfl),ddq (hD 24 rfl)]at hQo⊢;clear hD hI;go_wp2;exact hK.out _ _ ⟨rfl,hG,kkp⟩
          case o33 =>
           rw[ddq (hD 32 rfl),ddq (hD 24 rfl)]at hQo⊢;clear hD hI;go_wp2;exact hK.out _ _ ⟨rfl,hG,kkp⟩
          case o34 =>
           rw[ddq (hD 33 rfl),ddq (hD 24 rfl)]at hQo⊢;clear hD hI;have k0:=cell_ext hG m3;go_wp2;exact hK.out _ _ ⟨rfl,hG,kkp⟩
          case o35 =>
           rw[ddq (hD 29 rfl),ddq (hD 34 rfl),ddq (hD 24 rfl)]at hQo⊢;clear hD hI;go_wp2;exact hK.out _ _ ⟨rfl,hG,kkp⟩
          case o36 =>
           rw[ddq (hD 24 rfl),ddq (hD 35 rfl)]at hQo⊢;clear hD hI;go_wp2;exact hK.out _ _ ⟨rfl,hG,kkp⟩
          case o37 =>
           rw[ddq (hD 36 rfl)]at hQo⊢;clear hD hI;go_wp2;exact hK.out _ _ ⟨rfl,hG,kkp⟩
          case o38 =>
           rw[ddq (hD 37 rfl)]at hQo⊢;clear hD hI;go_wp2;exact hK.out _ _ ⟨rfl,hG,kkp⟩
          case o39 =>
           rw[ddq (hD 37 rfl)]at hQo⊢;clear hD hI;go_wp2;exact hK.out _ _ ⟨rfl,hG,kkp⟩
          case o40 =>
           rw[ddq (hD 38 rfl),ddq (hD 39 rfl),ddq (hD 37 rfl)]at hQo⊢;clear hD hI;go_wp2;exact hK.out _ _ ⟨rfl,hG,kkp⟩
          case o41 =>
           rw[ddq (hD 40 rfl),ddq (hD 37 rfl)]at hQo⊢;clear hD hI;have k0:=cell_ext hG n0;have k1:=cell_ext hG n1;have k2:=cell_ext hG n2;have k3:=cell_ext hG n3;have k4:=cell_ext hG n4;have k5:=cell_ext hG n5;go_wp2;exact hK.out _ _ ⟨rfl,hG,kkp⟩
          case o42 =>
           rw[ddq (hD 37 rfl)]at hQo⊢;clear hD hI;go_wp2;exact hK.out _ _ ⟨rfl,hG,kkp⟩
          case o43 =>
           rw[ddq (hD 37 rfl)]at hQo⊢;clear hD hI;go_wp2;exact hK.out _ _ ⟨rfl,hG,kkp⟩
          case o44 =>
           rw[ddq (hD 42 rfl),ddq (hD 43 rfl),ddq (hD 37 rfl)]at hQo⊢;clear hD hI;go_wp2;exact hK.out _ _ ⟨rfl,hG,kkp⟩
          case o45 =>
           rw[ddq (hD 44 rfl),ddq (hD 37 rfl)]at hQo⊢;clear hD hI;have k0:=cell_ext hG m0;have k1:=cell_ext hG m1;have k2:=cell_ext hG m2;have k3:=cell_ext hG m3;have k4:=cell_ext hG m4;have k5:=cell_ext hG m5;go_wp2;exact hK.out _ _ ⟨rfl,hG,kkp⟩
          case o46 =>
           rw[ddq (hD 41 rfl),ddq (hD 45 rfl),ddq (hD 37 rfl)]at hQo⊢;clear hD hI;go_wp2_with fail
           refine(samePacket_yes (x j) (x K) ja ka jc kc wx (HJ.out.1.sl.ext hG) (HK.out.1.sl.ext hG) HJ.out.2.2.2 HK.out.2.2.2).mono ?_
           rintro e w9 ⟨r9,rfl,hr9,e9⟩
           go_wp2;exact hK.out _ _ ⟨⟨_,rfl,hr9⟩,hG.trans e9,kkp⟩
          case o47 =>
           rw[ddq (hD 37 rfl)]at hQo⊢;have d46:∃ r:Bool,(xs 46) = .bool r∧(r=true→x j=x K):=hD 46 rfl;clear hD hI;generalize xs 46=y46 at *;obtain⟨r46,rfl,h46⟩:=d46;go_wp2;exact hK.out _ _ ⟨⟨r46,rfl,h46⟩,hG,kkp⟩
          case o48 =>
           rw[ddq (hD 37 rfl)]at hQo⊢;have d47:∃ r:Bool,(xs 47) = .bool (!r)∧(r=true→x j=x K):=hD 47 rfl;clear hD hI;generalize xs 47=y47 at *;obtain⟨r47,rfl,h47⟩:=d47;go_wp2;exact hK.out _ _ ⟨⟨r47,rfl,h47⟩,hG,kkp⟩
          all_goals
           clear hD hI;go_wp2;exact hK.out _ _ ⟨rfl,hG,kkp⟩
         intro xs wx hV hG;have d48:∃ r:Bool,(xs 48) = .bool (!r)∧(r=true→x j=x K):=hV 48 (by decide);clear hV;simp only[patchS,Nat.reduceAdd,Nat.reduceEqDiff,↓reduceIte];generalize xs 0=y0,xs 1=y1,xs 2=y2,xs 3=y3,xs 4=y4,xs 5=y5,xs 6=y6,xs 7=y7,xs 8=y8,xs 9=y9,xs 10=y10,xs 11=y11,xs 12=y12,xs 13=y13,xs 14=y14,xs 15=y15,xs 16=y16,xs 17=y17,xs 18=y18,xs 19=y19,xs 20=y20,xs 21=y21,xs 22=y22,xs 23=y23,xs 24=y24,xs 25=y25,xs 26=y26,xs 27=y27,xs 28=y28,xs 29=y29,xs 30=y30,xs 31=y31,xs 32=y32,xs 33=y33,xs 34=y34,xs 35=y35,xs 36=y36,xs 37=y37,xs 38=y38,xs 39=y39,xs 40=y40,xs 41=y41,xs 42=y42,xs 43=y43,xs 44=y44,xs 45=y45,xs 46=y46,xs 47=y47,xs 48=y48 at *
         replace hG:Ext wr wx:=hG
         obtain⟨r48,rfl,h48⟩:=d48;clear m0 m1 m2 m3 m4 m5 n0 n1 n2 n3 n4 n5 d1 d2 d3;cases r48
         ·clear h48;go_wp2_with fail
          refine(alive_any _).mono ?_
          rintro e w12 ⟨rfl,e12⟩
          go_wp2;go_ret
          exact⟨rfl,(((E8.trans e10).trans E10).trans hG).trans e12⟩
         ·have h49:=Lib.hid (h48 rfl);clear h48;go_wp2;go_roundw
          case rel=>exact⟨j+1,by omega,by go_num,E10.trans hG,Lib.hid (fun j' hj' h1 h2 h3=>by
           by_cases e:j'=j
           ·subst e;exact h49.out
           ·exact Hj.out j' (by omega) h1 h2 h3)⟩
          case measure=>simp[intOf] <;> omega
        ·have d3:((x j).part == (x K).part)=false:=by simpa using c3
         have h49:=Lib.hid c3;clear c1 c2 c3;go_quiet (fail)
         have hG:Ext wr (wr.drewN nq):=Ext.drewN wr nq;generalize wr.drewN nq=wx at *;go_wp2;go_roundw
         case rel=>exact⟨j+1,by omega,by go_num,E10.trans hG,Lib.hid (fun j' hj' h1 h2 h3=>by
          by_cases e:j'=j
          ·subst e;exact absurd h3 h49.out
          ·exact Hj.out j' (by omega) h1 h2 h3)⟩
         case measure=>simp[intOf] <;> omega
       ·have d2:((x j).row == (x K).row)=false:=by simpa using c2
        have h49:=Lib.hid c2;clear c1 c2;go_quiet (fail)
        have hG:Ext wr (wr.drewN nq):=Ext.drewN wr nq;generalize wr.drewN nq=wx at *;go_wp2;go_roundw
        case rel=>exact⟨j+1,by omega,by go_num,E10.trans hG,Lib.hid (fun j' hj' h1 h2 h3=>by
         by_cases e:j'=j
         ·subst e;exact absurd h2 h49.out
         ·exact Hj.out j' (by omega) h1 h2 h3)⟩
        case measure=>simp[intOf] <;> omega
      ·have d1:((x j).fr == (x K).fr)=false:=by simpa using c1
       have h49:=Lib.hid c1;clear c1;go_quiet (fail)
       have hG:Ext wr (wr.drewN nq):=Ext.drewN wr nq;generalize wr.drewN nq=wx at *;go_wp2;go_roundw
       case rel=>exact⟨j+1,by omega,by go_num,E10.trans hG,Lib.hid (fun j' hj' h1 h2 h3=>by
        by_cases e:j'=j
        ·subst e;exact absurd h1 h49.out
        ·exact Hj.out j' (by omega) h1 h2 h3)⟩
       case measure=>simp[intOf] <;> omega
     ·obtain rfl:j=K:=by omega
      have hdj:decide ((j:Int)<j)=false:=by simp
      have Q11:=HQ10.out.ext E10;have e11:=e10.trans E10;go_wp2;go_roundw
      case rel=>exact⟨s+1,_,by omega,by have:=HK0.out;congr 1;omega,e11,Q11,Lib.hid (fun K' j' h1 h2 h3=>by
       by_cases e:K'=j
       ·subst e;exact Hj.out j' h3
       ·exact Hall.out K' j' (by have:=HK0.out;omega) h2 h3)⟩
      case measure=>have:=HK0.out;simp[intOf] <;> omega
   ·obtain rfl:s=k:=by omega
    rw[show(s:Int)-1-s = -1 by omega];have hno:noTwo s x:=fun i j hi hj h1 h2 h3=>by
     rcases Nat.lt_trichotomy i j with h|h|h
     ·exact Hall.out j i (by omega) hj h h1 h2 h3
     ·rw[h]
     ·exact(Hall.out i j (by omega) hi h h1.symm h2.symm h3.symm).symm
    have HNO:=Lib.hid hno;have kp9:=Q9.kp;have HWF9:=Lib.hid (show ∀ p∈pkl s (fun j=>x (s-1-j)),wfI p.fr∧wfI p.row∧wfI p.part from fun p hp=>by
     have:=(Q9.wf p hp).1;unfold pkb at this;exact⟨wf_small (by omega) (by omega),wf_small (by omega) (by omega),wf_small (by omega) (by omega)⟩)
    clear hno Q9 hlt;go_wp2_with fail
    refine(impl_CollectSlice_any a9 c9 s _ f q _ (by omega) kp9 HWF9.out Hf.out Hq.out).mono ?_;rw[coll_turned HNO.out,←HC.out];unfold CoR;rw[←HDD.out.1,←HDD.out.2,←HM.out]
    rintro e w11 ⟨a11,c11,rfl,o11,e11⟩
    have E11:=E8.trans (e9.trans e11);have hv2:=conv_own w11 _ a2 _ c2 D (owns_ext HO8.out (e9.trans e11));have hv11:=conv_own w11 _ a11 _ c11 D o11;clear kp9 HWF9 o11 e9 e11;go_wp2_with fail
    refine(alive_any _).mono ?_
    rintro e w12 ⟨rfl,e12⟩
    go_wp2;go_ret
    exact⟨rfl,E11.trans e12⟩
 case true =>
  go_wp2_with (at_builtin;refine wpList_appsN _ o5 hs5 rfl _ _ 23 rfl (.agg #[.int .i64 0,.int .i64 0,.int .i64 0,.int .i64 0,.bool false,.slice none 0 0]) 64 Try.underlying23 info_Packet rfl (by decide) rfl al k cl us rfl hul hun huc hu1 (by omega) (by omega) ?_;intro v6 w6 own6 gr6;refine Hid.out ?_)
  have Q6:=(nil_PQ _ _ _ o5).apps hul huk own6 gr6;rw[Nat.zero_add]at Q6
  replace Q6:=Q6.congr (y:=x) (fun i _=>by simp)
  have e6:Ext w3 w6:=Ext.grown e5 gr6 (owns_ge o5);clear hul hun huc hu1 huk own6 gr6 o5 e5 hs5;obtain⟨us2,hul,hun,huc,hu1,huk⟩:=(HL3.out.ext e6).flat;have o6:=Q6.1;have hs6:=e6.size;have HQ6:=Lib.hid Q6;clear Q6;refine Lib.hid ?_;go_wp2_with (at_builtin;refine wpList_appsN _ o6 hs6 rfl _ _ 23 rfl (.agg #[.int .i64 0,.int .i64 0,.int .i64 0,.int .i64 0,.bool false,.slice none 0 0]) 64 Try.underlying23 info_Packet rfl (by decide) rfl al k cl us2 rfl hul hun huc hu1 (by omega) (by omega) ?_;intro v7 w7 own7 gr7;refine Hid.out ?_)
  have Q7:=HQ6.out.apps hul huk own7 gr7;have e7:Ext w3 w7:=Ext.grown e6 gr7 (owns_ge o6);obtain⟨a7,c7,rfl⟩:=owns_form Q7.1;have kp7:=Q7.kp;have HWF7:=Lib.hid (show ∀ p∈pkl (k+k) (fun i=>if i<k then x i else x (i-k)),wfI p.fr∧wfI p.row∧wfI p.part from fun p hp=>by
   have:=(Q7.wf p hp).1;unfold pkb at this;exact⟨wf_small (by omega) (by omega),wf_small (by omega) (by omega),wf_small (by omega) (by omega)⟩)
  clear hul hun huc hu1 huk own7 gr7 o6 e6 hs6 HQ6 Q7;refine Lib.hid ?_;go_wp2_with fail
  refine(impl_CollectSlice_any a7 c7 (k+k) _ f q _ (by omega) kp7 HWF7.out Hf.out Hq.out).mono ?_;rw[coll_twice,←HC.out];unfold CoR;rw[←HDD.out.1,←HDD.out.2,←HM.out]
  rintro e w8 ⟨a8,c8,rfl,o8,e8⟩
  have E38:=e7.trans e8;have hv2:=conv_own w8 _ a2 _ c2 D (owns_ext HO.out E38);have hv8:=conv_own w8 _ a8 _ c8 D o8;have E8:=E3.trans E38;have HL8:=Lib.hid (HL3.out.ext E38);have HO8:=Lib.hid (owns_ext HO.out E38);clear kp7 HWF7 o8 e7 e8 E38 HO E3 HL3 hv3;have oT:=World.ownsRow_made (base:=w8.heap.size) (e:=32) (size:=6) w8 #[] 0 (Nat.le_refl _) (by simp) rfl;have eT:=Ext.alloc w8 (.cells #[] 32);have QT:=nil_PQ _ _ _ oT;clear oT;go_wp2_with fail
  go_loopw [12,13] (fun v y wr=>∃(s:Nat) (cs:List Value),s≤k∧y= .int .i64 ((k:Int)-1-s)∧Ext w8 wr∧PQ wr w8.heap.size v s (fun j=>x (k-1-j)) cs∧Hid (∀ K j,k-s≤K→K<k→j<K→(x j).fr=(x K).fr→(x j).row=(x K).row→(x j).part=(x K).part→x j=x K)) (fun _ y _=>(intOf y+1).toNat)
  case atStart=>exact⟨0,_,by omega,by first|rfl|(congr 1;omega)|simp,eT,QT.congr (fun i hi=>by omega),Lib.hid (fun K j h1 h2=>by omega)⟩
  case round =>
   clear eT QT hv2 hv8;obtain⟨s,cs,hs,rfl,e9,Q9,Hall⟩:=hrel;obtain⟨a9,c9,rfl⟩:=owns_form Q9.1
   by_cases hlt:s<k
   ·obtain⟨K,hK⟩:∃ K,K=k-1-s:=⟨_,rfl⟩;have hKk:K<k:=by omega
    have HK0:=Lib.hid hK;rw[show(k:Int)-1-s=(K:Int) by omega];obtain⟨b,off,ka,kc,he,-,-,⟨m0,m1,m2,m3,m4,m5⟩,hbK,hsK⟩:=(HL8.out.ext e9) K hKk;cases he;have o9:=Q9.1;have hs9:=e9.size;have HQ9:=Lib.hid Q9;have HK1:=Lib.hid (⟨hbK,hsK⟩:_∧_);have hdK:decide (((K:Nat):Int)≥0)=true:=by simp
    clear Q9 hbK hsK hK;go_wp2_with (at_builtin;refine wpList_app6 _ o9 hs9 _ _ _ _ _ _ rfl _ _ 23 rfl (.agg #[.int .i64 0,.int .i64 0,.int .i64 0,.int .i64 0,.bool false,.slice none 0 0]) 64 Try.underlying23 info_Packet rfl rfl rfl (by intro u hu;simp at hu;rcases hu with rfl|rfl|rfl|rfl|rfl|rfl <;> rfl) (by omega) (by omega) ?_;intro v10 w10 own10 gr10;refine Hid.out ?_)
    have Q10:=HQ9.out.app (y:=x K) own10 gr10 HK1.out.1 HK1.out.2
    replace Q10:=Q10.congr (y:=fun j=>x (k-1-j)) (fun i hi=>by
     by_cases hi2:i<s
     ·rw[fk_lt hi2]
     ·obtain rfl:i=s:=by omega
      rw[fk_eq,HK0.out])
    have e10:Ext w8 w10:=Ext.grown e9 gr10 (owns_ge o9);obtain⟨a10,c10,rfl⟩:=owns_form Q10.1;have HQ10:=Lib.hid Q10;clear own10 gr10 o9 hs9 HQ9 HK1 Q10 e9 m0 m1 m2 m3 m4 m5 hdK;refine Lib.hid ?_;go_wp2_with fail
    go_loopw [14] (fun y wr=>∃ j:Nat,j≤K∧y= .int .i64 (j:Nat)∧Ext w10 wr∧Hid (∀ j',j'<j→(x j').fr=(x K).fr→(x j').row=(x K).row→(x j').part=(x K).part→x j'=x K)) (fun y _=>K-(intOf y).toNat)
    case atStart=>exact⟨0,by omega,rfl,Below.refl _ _,Lib.hid (fun j' h=>by omega)⟩
    case round =>
     obtain⟨j,hj,rfl,E10,Hj⟩:=hrel
     by_cases hjK:j<K
     ·have hjKi:(j:Int)<k:=by omega
      have hKi:(K:Int)<k:=by omega
      obtain⟨b',off',ka,kc,he,-,-,⟨m0,m1,m2,m3,m4,m5⟩,hbK,hsK⟩:=(HL8.out.ext (e10.trans E10)) K hKk;cases he;obtain⟨b',off',ja,jc,he,-,-,⟨n0,n1,n2,n3,n4,n5⟩,hbJ,hsJ⟩:=(HL8.out.ext (e10.trans E10)) j (by omega);cases he;have HK:=Lib.hid (⟨hbK,hsK⟩:_∧_);have HJ:=Lib.hid (⟨hbJ,hsJ⟩:_∧_);clear hbK hsK hbJ hsJ;go_upto_region 19 with fail
      by_cases c1:(x j).fr=(x K).fr
      ·have d1:((x j).fr == (x K).fr)=true:=by simpa using c1
       by_cases c2:(x j).row=(x K).row
       ·have d2:((x j).row == (x K).row)=true:=by simpa using c2
        by_cases c3:(x j).part=(x K).part
        ·have d3:((x j).part == (x K).part)=true:=by simpa using c3
         clear c1 c2 c3;refine wp_region_inv2 (by kernel_rfl) [(100,0),(101,1),(102,2),(103,3),(104,4),(105,5),(106,6),(107,7),(108,8),(109,9),(110,10),(111,11),(112,12),(113,13),(114,14),(115,15),(116,16),(117,17),(118,18),(119,19),(120,20),(121,21),(122,22),(123,23),(124,24),(125,25),(126,26),(127,27),(128,28),(129,29),(130,30),(131,31),(132,32),(133,33),(134,34),(135,35),(136,36),(137,37),(138,38),(139,39),(140,40),(141,41),(142,42),(143,43),(144,44),(145,45),(146,46),(147,47),(148,48)] [[],[],[0,1],[0,1,2],[0,1,2,3],[],[],[5,6],[5,6,7],[5,6,7,8],[0,1,2,3,4,5,6,7,8,9],[0,1,2,3,4,5,6,7,8,9,10],[0,1,2,3,4,5,6,7,8,9,10,11],[0,1,2,3,4,5,6,7,8,9,10,11],[0,1,2,3,4,5,6,7,8,9,10,11,12,13],[0,1,2,3,4,5,6,7,8,9,10,11,12,13,14],[0,1,2,3,4,5,6,7,8,9,10,11,12,13,14,15],[0,1,2,3,4,5,6,7,8,9,10,11],[0,1,2,3,4,5,6,7,8,9,10,11],[0,1,2,3,4,5,6,7,8,9,10,11,17,18],[0,1,2,3,4,5,6,7,8,9,10,11,17,18,19],[0,1,2,3,4,5,6,7,8,9,10,11,17,18,19,20],[0,1,2,3,4,5,6,7,8,9,10,11,12,13,14,15,16,17,18,19,20,21],[0,1,2,3,4,5,6,7,8,9,10,11,12,13,14,15,16,17,18,19,20,21,22],[0,1,2,3,4,5,6,7,8,9,10,11,12,13,14,15,16,17,18,19,20,21,22,23],[0,1,2,3,4,5,6,7,8,9,10,11,12,13,14,15,16,17,18,19,20,21,22,23,24],[0,1,2,3,4,5,6,7,8,9,10,11,12,13,14,15,16,17,18,19,20,21,22,23,24],[0,1,2,3,4,5,6,7,8,9,10,11,12,13,14,15,16,17,18,19,20,21,22,23,24,25,26],[0,1,2,3,4,5,6,7,8,9,10,11,12,13,14,15,16,17,18,19,20,21,22,23,24,25,26,27],[0,1,2,3,4,5,6,7,8,9,10,11,12,13,14,15,16,17,18,19,20,21,22,23,24,25,26,27,28],[0,1,2,3,4,5,6,7,8,9,10,11,12,13,14,15,16,17,18,19,20,21,22,23,24],[0,1,2,3,4,5,6,7,8,9,10,11,12,13,14,15,16,17,18,19,20,21,22,23,24],[0,1,2,3,4,5,6,7,8,9,10,11,12,13,14,15,16,17,18,19,20,21,22,23,24,30,31],[0,1,2,3,4,5,6,7,8,9,10,11,12,13,14,15,16,17,18,19,20,21,22,23,24,30,31,32],[0,1,2,3,4,5,6,7,8,9,10,11,12,13,14,15,16,17,18,19,20,21,22,23,24,30,31,32,33],[0,1,2,3,4,5,6,7,8,9,10,11,12,13,14,15,16,17,18,19,20,21,22,23,24,25,26,27,28,29,30,31,32,33,34],[0,1,2,3,4,5,6,7,8,9,10,11,12,13,14,15,16,17,18,19,20,21,22,23,24,25,26,27,28,29,30,31,32,33,34,35],[0,1,2,3,4,5,6,7,8,9,10,11,12,13,14,15,16,17,18,19,20,21,22,23,24,25,26,27,28,29,30,31,32,33,34,35,36],[0,1,2,3,4,5,6,7,8,9,10,11,12,13,14,15,16,17,18,19,20,21,22,23,24,25,26,27,28,29,30,31,32,33,34,35,36,37],[0,1,2,3,4,5,6,7,8,9,10,11,12,13,14,15,16,17,18,19,20,21,22,23,24,25,26,27,28,29,30,31,32,33,34,35,36,37],[0,1,2,3,4,5,6,7,8,9,10,11,12,13,14,15,16,17,18,19,20,21,22,23,24,25,26,27,28,29,30,31,32,33,34,35,36,37,38,39],[0,1,2,3,4,5,6,7,8,9,10,11,12,13,14,15,16,17,18,19,20,21,22,23,24,25,26,27,28,29,30,31,32,33,34,35,36,37,38,39,40],[0,1,2,3,4,5,6,7,8,9,10,11,12,13,14,15,16,17,18,19,20,21,22,23,24,25,26,27,28,29,30,31,32,33,34,35,36,37],[0,1,2,3,4,5,6,7,8,9,10,11,12,13,14,15,16,17,18,19,20,21,22,23,24,25,26,27,28,29,30,31,32,33,34,35,36,37],[0,1,2,3,4,5,6,7,8,9,10,11,12,13,14,15,16,17,18,19,20,21,22,23,24,25,26,27,28,29,30,31,32,33,34,35,36,37,42,43],[0,1,2,3,4,5,6,7,8,9,10,11,12,13,14,15,16,17,18,19,20,21,22,23,24,25,26,27,28,29,30,31,32,33,34,35,36,37,42,43,44],[0,1,2,3,4,5,6,7,8,9,10,11,12,13,14,15,16,17,18,19,20,21,22,23,24,25,26,27,28,29,30,31,32,33,34,35,36,37,38,39,40,41,42,43,44,45],[0,1,2,3,4,5,6,7,8,9,10,11,12,13,14,15,16,17,18,19,20,21,22,23,24,25,26,27,28,29,30,31,32,33,34,35,36,37,38,39,40,41,42,43,44,45,46],[0,1,2,3,4,5,6,7,8,9,10,11,12,13,14,15,16,17,18,19,20,21,22,23,24,25,26,27,28,29,30,31,32,33,34,35,36,37,38,39,40,41,42,43,44,45,46,47]] (fun i own ys wx=>match i with|0=>own= .slice (some ⟨b,off,none⟩) k cl|1=>own= .int .i64 (j:Int)|2=>own= .pointer (some ⟨b,off+j*6,none⟩)|3=>own= .pointer (some ⟨b,off+j*6+1,none⟩)|4=>own= .int .i64 (x j).fr|5=>own= .slice (some ⟨b,off,none⟩) k cl|6=>own= .int .i64 (K:Int)|7=>own= .pointer (some ⟨b,off+K*6,none⟩)|8=>own= .pointer (some ⟨b,off+K*6+1,none⟩)|9=>own= .int .i64 (x K).fr|10=>own= .bool true|11=>own= .bool true|12=>own= .slice (some ⟨b,off,none⟩) k cl|13=>own= .int .i64 (j:Int)|14=>own= .pointer (some ⟨b,off+j*6,none⟩)|15=>own= .pointer (some ⟨b,off+j*6+2,none⟩)|16=>own= .int .i64 (x j).row|17=>own= .slice (some ⟨b,off,none⟩) k cl|18=>own= .int .i64 (K:Int)|19=>own= .pointer (some ⟨b,off+K*6,none⟩)|20=>own= .pointer (some ⟨b,off+K*6+2,none⟩)|21=>own= .int .i64 (x K).row|22=>own= .bool true|23=>own= .bool true|24=>own= .bool true|25=>own= .slice (some ⟨b,off,none⟩) k cl|26=>own= .int .i64 (j:Int)|27=>own= .pointer (some ⟨b,off+j*6,none⟩)|28=>own= .pointer (some ⟨b,off+j*6+3,none⟩)|29=>own= .int .i64 (x j).part|30=>own= .slice (some ⟨b,off,none⟩) k cl|31=>own= .int .i64 (K:Int)|32=>own= .pointer (some ⟨b,off+K*6,none⟩)|33=>own= .pointer (some ⟨b,off+K*6+3,none⟩)|34=>own= .int .i64 (x K).part|35=>own= .bool true|36=>own= .bool true|37=>own= .bool true|38=>own= .slice (some ⟨b,off,none⟩) k cl|39=>own= .int .i64 (j:Int)|40=>own= .pointer (some ⟨b,off+j*6,none⟩)|41=>own= .agg #[.int .i64 (x j).num,.int .i64 (x j).fr,.int .i64 (x j).row,.int .i64 (x j).part,.bool (x j).last,.slice ja (x j).data.length jc]|42=>own= .slice (some ⟨b,off,none⟩) k cl|43=>own= .int .i64 (K:Int)|44=>own= .pointer (some ⟨b,off+K*6,none⟩)|45=>own= .agg #[.int .i64 (x K).num,.int .i64 (x K).fr,.int .i64 (x K).row,.int .i64 (x K).part,.bool (x K).last,.slice ka (x K).data.length kc]|46=>∃ r:Bool,own= .bool r∧(r=true→x j=x K)|47=>∃ r:Bool,own= .bool (!r)∧(r=true→x j=x K)|48=>∃ r:Bool,own= .bool (!r)∧(r=true→x j=x K)|_=>True) (fun kx wx=>Ext wr wx) (by kernel_rfl) (by kernel_rfl) (by kernel_rfl) ?g0_r2 ?gop_r2 ?gend_r2
         case g0_r2=>exact Ext.drewN _ 1
         case gop_r2 =>
          refine⟨?_,?_,?o2,?o3,?o4,?_,?_,?o7,?o8,?o9,?o10,?o11,?o12,?o13,?o14,?o15,?o16,?o17,?o18,?o19,?o20,?o21,?o22,?o23,?o24,?o25,?o26,?o27,?o28,?o29,?o30,?o31,?o32,?o33,?o34,?o35,?o36,?o37,?o38,?o39,?o40,?o41,?o42,?o43,?o44,?o45,?o46,?o47,?o48,trivial⟩ <;> (intro kx xs wx hk hG hD hI Qo Kx hK hQo;simp only[patchS,Nat.reduceAdd,Nat.reduceEqDiff,↓reduceIte]at hQo⊢)
          case o2 =>
           rw[ddq (hD 0 rfl),ddq (hD 1 rfl)]at hQo⊢;clear hD hI;go_wp2;exact hK.out _ _ ⟨rfl,hG,kkp⟩
          case o3 =>
           rw[ddq (hD 2 rfl)]at hQo⊢;clear hD hI;go_wp2;exact hK.out _ _ ⟨rfl,hG,kkp⟩
          case o4 =>
           rw[ddq (hD 3 rfl)]at hQo⊢;clear hD hI;have k0:=cell_ext hG n1;go_wp2;exact hK.out _ _ ⟨rfl,hG,kkp⟩
          case o7 =>
           rw[ddq (hD 5 rfl),ddq (hD 6 rfl)]at hQo⊢;clear hD hI;go_wp2;exact hK.out _ _ ⟨rfl,hG,kkp⟩
          case o8 =>
           rw[ddq (hD 7 rfl)]at hQo⊢;clear hD hI;go_wp2;exact hK.out _ _ ⟨rfl,hG,kkp⟩
          case o9 =>
           rw[ddq (hD 8 rfl)]at hQo⊢;clear hD hI;have k0:=cell_ext hG m1;go_wp2;exact hK.out _ _ ⟨rfl,hG,kkp⟩
          case o10 =>
           rw[ddq (hD 4 rfl),ddq (hD 9 rfl)]at hQo⊢;clear hD hI;go_wp2;exact hK.out _ _ ⟨rfl,hG,kkp⟩
          case o11 =>
           rw[ddq (hD 10 rfl)]at hQo⊢;clear hD hI;go_wp2;exact hK.out _ _ ⟨rfl,hG,kkp⟩
          case o12 =>
           rw[ddq (hD 11 rfl)]at hQo⊢;clear hD hI;go_wp2;exact hK.out _ _ ⟨rfl,hG,kkp⟩
          case o13 =>
           rw[ddq (hD 11 rfl)]at hQo⊢;clear hD hI;go_wp2;exact hK.out _ _ ⟨rfl,hG,kkp⟩
          case o14 =>
           rw[ddq (hD 12 rfl),ddq (hD 13 rfl),ddq (hD 11 rfl)]at hQo⊢;clear hD hI;go_wp2;exact hK.out _ _ ⟨rfl,hG,kkp⟩
          case o15 =>
           rw[ddq (hD 14 rfl),ddq (hD 11 rfl)]at hQo⊢;clear hD hI;go_wp2;exact hK.out _ _ ⟨rfl,hG,kkp⟩
          case o16 =>
           rw[ddq (hD 15 rfl),ddq (hD 11 rfl)]at hQo⊢;clear hD hI;have k0:=cell_ext hG n2;go_wp2;exact hK.out _ _ ⟨rfl,hG,kkp⟩
          case o17 =>
           rw[ddq (hD 11 rfl)]at hQo⊢;clear hD hI;go_wp2;exact hK.out _ _ ⟨rfl,hG,kkp⟩
          case o18 =>
           rw[ddq (hD 11 rfl)]at hQo⊢;clear hD hI;go_wp2;exact hK.out _ _ ⟨rfl,hG,kkp⟩
          case o19 =>
           rw[ddq (hD 17 rfl),ddq (hD 18 rfl),ddq (hD 11 rfl)]at hQo⊢;clear hD hI;go_wp2;exact hK.out _ _ ⟨rfl,hG,kkp⟩
          case o20 =>
           rw[ddq (hD 19 rfl),ddq (hD 11 rfl)]at hQo⊢;clear hD hI;go_wp2;exact hK.out _ _ ⟨rfl,hG,kkp⟩
          case o21 =>
           rw[ddq (hD 20 rfl),ddq (hD 11 rfl)]at hQo⊢;clear hD hI;have k0:=cell_ext hG m2;go_wp2;exact hK.out _ _ ⟨rfl,hG,kkp⟩
          case o22 =>
           rw[ddq (hD 16 rfl),ddq (hD 21 rfl),ddq (hD 11 rfl)]at hQo⊢;clear hD hI;go_wp2;exact hK.out _ _ ⟨rfl,hG,kkp⟩
          case o23 =>
           rw[ddq (hD 11 rfl),ddq (hD 22 rfl)]at hQo⊢;clear hD hI;go_wp2;exact hK.out _ _ ⟨rfl,hG,kkp⟩
          case o24 =>
           rw[ddq (hD 23 rfl)]at hQo⊢;clear hD hI;go_wp2;exact hK.out _ _ ⟨rfl,hG,kkp⟩
          case o25 =>
           rw[ddq (hD 24 rfl)]at hQo⊢;clear hD hI;go_wp2;exact hK.out _ _ ⟨rfl,hG,kkp⟩
          case o26 =>
           rw[ddq (hD 24 rfl)]at hQo⊢;clear hD hI;go_wp2;exact hK.out _ _ ⟨rfl,hG,kkp⟩
          case o27 =>
           rw[ddq (hD 25 rfl),ddq (hD 26 rfl),ddq (hD 24 rfl)]at hQo⊢;clear hD hI;go_wp2;exact hK.out _ _ ⟨rfl,hG,kkp⟩
          case o28 =>
           rw[ddq (hD 27 rfl),ddq (hD 24 rfl)]at hQo⊢;clear hD hI;go_wp2;exact hK.out _ _ ⟨rfl,hG,kkp⟩
          case o29 =>
           rw[ddq (hD 28 rfl),ddq (hD 24 rfl)]at hQo⊢;clear hD hI;have k0:=cell_ext hG n3;go_wp2;exact hK.out _ _ ⟨rfl,hG,kkp⟩
          case o30 =>
           rw[ddq (hD 24 rfl)]at hQo⊢;clear hD hI;go_wp2;exact hK.out _ _ ⟨rfl,hG,kkp⟩
          case o31 =>
           rw[ddq (hD 24 rfl)]at hQo⊢;clear hD hI;go_wp2;exact hK.out _ _ ⟨rfl,hG,kkp⟩
          case o32 =>
           rw[ddq (hD 30 rfl),ddq (hD 31 rfl),ddq (hD 24 rfl)]at hQo⊢;clear hD hI;go_wp2;exact hK.out _ _ ⟨rfl,hG,kkp⟩
          case o33 =>
           rw[ddq (hD 32 rfl),ddq (hD 24 rfl)]at hQo⊢;clear hD hI;go_wp2;exact hK.out _ _ ⟨rfl,hG,kkp⟩
          case o34 =>
           rw[ddq (hD 33 rfl),ddq (hD 24 rfl)]at hQo⊢;clear hD hI;have k0:=cell_ext hG m3;go_wp2;exact hK.out _ _ ⟨rfl,hG,kkp⟩
          case o35 =>
           rw[ddq (hD 29 rfl),ddq (hD 34 rfl),ddq (hD 24 rfl)]at hQo⊢;clear hD hI;go_wp2;exact hK.out _ _ ⟨rfl,hG,kkp⟩
          case o36 =>
           rw[ddq (hD 24 rfl),ddq (hD 35 rfl)]at hQo⊢;clear hD hI;go_wp2;exact hK.out _ _ ⟨rfl,hG,kkp⟩
          case o37 =>
           rw[ddq (hD 36 rfl)]at hQo⊢;clear hD hI;go_wp2;exact hK.out _ _ ⟨rfl,hG,kkp⟩
          case o38 =>
           rw[ddq (hD 37 rfl)]at hQo⊢;clear hD hI;go_wp2;exact hK.out _ _ ⟨rfl,hG,kkp⟩
          case o39 =>
           rw[ddq (hD 37 rfl)]at hQo⊢;clear hD hI;go_wp2;exact hK.out _ _ ⟨rfl,hG,kkp⟩
          case o40 =>
           rw[ddq (hD 38 rfl),ddq (hD 39 rfl),ddq (hD 37 rfl)]at hQo⊢;clear hD hI;go_wp2;exact hK.out _ _ ⟨rfl,hG,kkp⟩
          case o41 =>
           rw[ddq (hD 40 rfl),ddq (hD 37 rfl)]at hQo⊢;clear hD hI;have k0:=cell_ext hG n0;have k1:=cell_ext hG n1;have k2:=cell_ext hG n2;have k3:=cell_ext hG n3;have k4:=cell_ext hG n4;have k5:=cell_ext hG n5;go_wp2;exact hK.out _ _ ⟨rfl,hG,kkp⟩
          case o42 =>
           rw[ddq (hD 37 rfl)]at hQo⊢;clear hD hI;go_wp2;exact hK.out _ _ ⟨rfl,hG,kkp⟩
          case o43 =>
           rw[ddq (hD 37 rfl)]at hQo⊢;clear hD hI;go_wp2;exact hK.out _ _ ⟨rfl,hG,kkp⟩
          case o44 =>
           rw[ddq (hD 42 rfl),ddq (hD 43 rfl),ddq (hD 37 rfl)]at hQo⊢;clear hD hI;go_wp2;exact hK.out _ _ ⟨rfl,hG,kkp⟩
          case o45 =>
           rw[ddq (hD 44 rfl),ddq (hD 37 rfl)]at hQo⊢;clear hD hI;have k0:=cell_ext hG m0;have k1:=cell_ext hG m1;have k2:=cell_ext hG m2;have k3:=cell_ext hG m3;have k4:=cell_ext hG m4;have k5:=cell_ext hG m5;go_wp2;exact hK.out _ _ ⟨rfl,hG,kkp⟩
          case o46 =>
           rw[ddq (hD 41 rfl),ddq (hD 45 rfl),ddq (hD 37 rfl)]at hQo⊢;clear hD hI;go_wp2_with fail
           refine(samePacket_yes (x j) (x K) ja ka jc kc wx (HJ.out.1.sl.ext hG) (HK.out.1.sl.ext hG) HJ.out.2.2.2 HK.out.2.2.2).mono ?_
           rintro e w9 ⟨r9,rfl,hr9,e9⟩
           go_wp2;exact hK.out _ _ ⟨⟨_,rfl,hr9⟩,hG.trans e9,kkp⟩
          case o47 =>
           rw[ddq (hD 37 rfl)]at hQo⊢;have d46:∃ r:Bool,(xs 46) = .bool r∧(r=true→x j=x K):=hD 46 rfl;clear hD hI;generalize xs 46=y46 at *;obtain⟨r46,rfl,h46⟩:=d46;go_wp2;exact hK.out _ _ ⟨⟨r46,rfl,h46⟩,hG,kkp⟩
          case o48 =>
           rw[ddq (hD 37 rfl)]at hQo⊢;have d47:∃ r:Bool,(xs 47) = .bool (!r)∧(r=true→x j=x K):=hD 47 rfl;clear hD hI;generalize xs 47=y47 at *;obtain⟨r47,rfl,h47⟩:=d47;go_wp2;exact hK.out _ _ ⟨⟨r47,rfl,h47⟩,hG,kkp⟩
          all_goals
           clear hD hI;go_wp2;exact hK.out _ _ ⟨rfl,hG,kkp⟩
         intro xs wx hV hG;have d48:∃ r:Bool,(xs 48) = .bool (!r)∧(r=true→x j=x K):=hV 48 (by decide);clear hV;simp only[patchS,Nat.reduceAdd,Nat.reduceEqDiff,↓reduceIte];generalize xs 0=y0,xs 1=y1,xs 2=y2,xs 3=y3,xs 4=y4,xs 5=y5,xs 6=y6,xs 7=y7,xs 8=y8,xs 9=y9,xs 10=y10,xs 11=y11,xs 12=y12,xs 13=y13,xs 14=y14,xs 15=y15,xs 16=y16,xs 17=y17,xs 18=y18,xs 19=y19,xs 20=y20,xs 21=y21,xs 22=y22,xs 23=y23,xs 24=y24,xs 25=y25,xs 26=y26,xs 27=y27,xs 28=y28,xs 29=y29,xs 30=y30,xs 31=y31,xs 32=y32,xs 33=y33,xs 34=y34,xs 35=y35,xs 36=y36,xs 37=y37,xs 38=y38,xs 39=y39,xs 40=y40,xs 41=y41,xs 42=y42,xs 43=y43,xs 44=y44,xs 45=y45,xs 46=y46,xs 47=y47,xs 48=y48 at *
         replace hG:Ext wr wx:=hG
         obtain⟨r48,rfl,h48⟩:=d48;clear m0 m1 m2 m3 m4 m5 n0 n1 n2 n3 n4 n5 d1 d2 d3;cases r48
         ·clear h48;go_wp2_with fail
          refine(alive_any _).mono ?_
          rintro e w12 ⟨rfl,e12⟩
          go_wp2;go_ret
          exact⟨rfl,(((E8.trans e10).trans E10).trans hG).trans e12⟩
         ·have h49:=Lib.hid (h48 rfl);clear h48;go_wp2;go_roundw
          case rel=>exact⟨j+1,by omega,by go_num,E10.trans hG,Lib.hid (fun j' hj' h1 h2 h3=>by
           by_cases e:j'=j
           ·subst e;exact h49.out
           ·exact Hj.out j' (by omega) h1 h2 h3)⟩
          case measure=>simp[intOf] <;> omega
        ·have d3:((x j).part == (x K).part)=false:=by simpa using c3
         have h49:=Lib.hid c3;clear c1 c2 c3;go_quiet (fail)
         have hG:Ext wr (wr.drewN nq):=Ext.drewN wr nq;generalize wr.drewN nq=wx at *;go_wp2;go_roundw
         case rel=>exact⟨j+1,by omega,by go_num,E10.trans hG,Lib.hid (fun j' hj' h1 h2 h3=>by
          by_cases e:j'=j
          ·subst e;exact absurd h3 h49.out
          ·exact Hj.out j' (by omega) h1 h2 h3)⟩
         case measure=>simp[intOf] <;> omega
       ·have d2:((x j).row == (x K).row)=false:=by simpa using c2
        have h49:=Lib.hid c2;clear c1 c2;go_quiet (fail)
        have hG:Ext wr (wr.drewN nq):=Ext.drewN wr nq;generalize wr.drewN nq=wx at *;go_wp2;go_roundw
        case rel=>exact⟨j+1,by omega,by go_num,E10.trans hG,Lib.hid (fun j' hj' h1 h2 h3=>by
         by_cases e:j'=j
         ·subst e;exact absurd h2 h49.out
         ·exact Hj.out j' (by omega) h1 h2 h3)⟩
        case measure=>simp[intOf] <;> omega
      ·have d1:((x j).fr == (x K).fr)=false:=by simpa using c1
       have h49:=Lib.hid c1;clear c1;go_quiet (fail)
       have hG:Ext wr (wr.drewN nq):=Ext.drewN wr nq;generalize wr.drewN nq=wx at *;go_wp2;go_roundw
       case rel=>exact⟨j+1,by omega,by go_num,E10.trans hG,Lib.hid (fun j' hj' h1 h2 h3=>by
        by_cases e:j'=j
        ·subst e;exact absurd h1 h49.out
        ·exact Hj.out j' (by omega) h1 h2 h3)⟩
       case measure=>simp[intOf] <;> omega
     ·obtain rfl:j=K:=by omega
      have hdj:decide ((j:Int)<j)=false:=by simp
      have Q11:=HQ10.out.ext E10;have e11:=e10.trans E10;go_wp2;go_roundw
      case rel=>exact⟨s+1,_,by omega,by have:=HK0.out;congr 1;omega,e11,Q11,Lib.hid (fun K' j' h1 h2 h3=>by
       by_cases e:K'=j
       ·subst e;exact Hj.out j' h3
       ·exact Hall.out K' j' (by have:=HK0.out;omega) h2 h3)⟩
      case measure=>have:=HK0.out;simp[intOf] <;> omega
   ·obtain rfl:s=k:=by omega
    rw[show(s:Int)-1-s = -1 by omega];have hno:noTwo s x:=fun i j hi hj h1 h2 h3=>by
     rcases Nat.lt_trichotomy i j with h|h|h
     ·exact Hall.out j i (by omega) hj h h1 h2 h3
     ·rw[h]
     ·exact(Hall.out i j (by omega) hi h h1.symm h2.symm h3.symm).symm
    have HNO:=Lib.hid hno;have kp9:=Q9.kp;have HWF9:=Lib.hid (show ∀ p∈pkl s (fun j=>x (s-1-j)),wfI p.fr∧wfI p.row∧wfI p.part from fun p hp=>by
     have:=(Q9.wf p hp).1;unfold pkb at this;exact⟨wf_small (by omega) (by omega),wf_small (by omega) (by omega),wf_small (by omega) (by omega)⟩)
    clear hno Q9 hlt;go_wp2_with fail
    refine(impl_CollectSlice_any a9 c9 s _ f q _ (by omega) kp9 HWF9.out Hf.out Hq.out).mono ?_;rw[coll_turned HNO.out,←HC.out];unfold CoR;rw[←HDD.out.1,←HDD.out.2,←HM.out]
    rintro e w11 ⟨a11,c11,rfl,o11,e11⟩
    have E11:=E8.trans (e9.trans e11);have hv2:=conv_own w11 _ a2 _ c2 D (owns_ext HO8.out (e9.trans e11));have hv11:=conv_own w11 _ a11 _ c11 D o11;clear kp9 HWF9 o11 e9 e11;go_wp2_with fail
    refine(alive_any _).mono ?_
    rintro e w12 ⟨rfl,e12⟩
    go_wp2;go_ret
    exact⟨rfl,E11.trans e12⟩
end Go.Proofs.Ytphfacfjhjcllaa
namespace Go.Proofs.Ytphfacfjhjcllaa
open Go.RowKit Go.ChangeShapes Go.WideShapes
section
variable {H : Type} {enc : TypeId × Value → H} {P : Program} {w : World}
/-- The cells cs read as a value of type t. -/
def Cells (enc:TypeId×Value→H) (P:Program) (w:World) (t:TypeId) (cs:List Value):Prop :=
 ∃ fuel x,DataW.trod enc P w 0 (fun _=>true) true fuel t cs=some x
theorem Cells.of_trod {t:TypeId} {v:Value} {d:DataW H} {ps:List MemPlace} (h:DataW.Trod enc P w 0 (fun _=>true) true t v d ps):Cells enc P w t v.cells.toList:=by
 obtain⟨fuel,hf⟩:=h;exact⟨fuel,_,hf⟩
theorem Cells.int {t:TypeId} {k:IntKind} {cs:List Value} (h:Cells enc P w t cs) (ht:P.underlying t=some (.int k)):∃ n,cs = [.int k n]∧(Lit.int k n).wf=true:=by
 obtain⟨fuel,x,hf⟩:=h;obtain⟨n,h1,-,h2⟩:=DataW.trod_int ht hf;exact⟨n,h1,h2⟩
theorem Cells.bool {t:TypeId} {cs:List Value} (h:Cells enc P w t cs) (ht:P.underlying t=some .bool):∃ b,cs = [.bool b]:=by
 obtain⟨fuel,x,hf⟩:=h;obtain⟨n,h1,-⟩:=DataW.trod_bool ht hf;exact⟨n,h1⟩
theorem add_add (a:Addr) (i j:Nat):a.add (i+j)=(a.add i).add j:=by
 unfold Addr.add
 by_cases h1:i=0
 ·subst h1;simp
 ·by_cases h2:j=0
  ·subst h2;simp
  ·simp[h1,h2,Nat.add_assoc]
/-- A slice whose elements have c cells each: cell j of element i. -/
theorem Cells.slice {t e:TypeId} {c:Nat} {cs:List Value} (h:Cells enc P w t cs) (ht:P.underlying t=some (.slice e)) (hc:P.cellsOf e=c) :
 ∃ a n cap,cs = [.slice a n cap]∧(n≤cap∧cap≤maxLen)∧∀ i,i<n→∃ x es,a=some x∧es.length=c∧(∀ j,j<c→w.cell? (x.add (i*c+j))=es[j]?)∧Cells enc P w e es:=by
 subst hc;obtain⟨fuel,x,hf⟩:=h;rcases Deep.open_slice ht hf with⟨rfl,-⟩|⟨a,len,cap,m,n,D,Pl,rfl,-,hl,hm,hmm,-,hx⟩
 ·exact⟨none,0,0,rfl,⟨by omega,by simp⟩,fun i hi=>by omega⟩
 ·refine⟨some a,len,cap,rfl,⟨hl,hm⟩,fun i hi => ?_⟩;obtain⟨cs',h1,h2⟩:=hx i (by simp at hmm;omega);obtain⟨-,hlen,hcell⟩:=World.cells?_some h1;refine⟨a,cs',rfl,hlen,fun j hj => ?_,⟨n,_,h2⟩⟩;have:=hcell j hj;rw[←this,add_add]
theorem Cells.struct {t:TypeId} {fs:Array Field} {cs:List Value} (h:Cells enc P w t cs) (ht:P.underlying t=some (.struct fs)) :
 cs.length=P.cellsOf t∧∀(i:Nat) (f:Field),fs[i]?=some f→Cells enc P w f.type ((cs.drop f.offset).take (P.cellsOf f.type)):=by
 obtain⟨fuel,x,hf⟩:=h;obtain⟨xs,n,-,-,h1,h2,h3⟩:=DataW.trod_struct ht hf;refine⟨h1,fun i f hi => ?_⟩;have h4:=h3 i f hi;have hl:i<xs.length:=by
  rw[h2];exact(Array.getElem?_eq_some_iff.1 hi).1
 exact⟨n,xs[i],by rw[h4];simp[hl]⟩
theorem Cells.array {t e:TypeId} {n:Nat} {cs:List Value} (h:Cells enc P w t cs) (ht:P.underlying t=some (.array n e)) :
 cs.length=P.cellsOf t∧∀ i,i<n→Cells enc P w e ((cs.drop (i*P.cellsOf e)).take (P.cellsOf e)):=by
 obtain⟨fuel,x,hf⟩:=h;cases fuel with
 | zero=>simp[DataW.trod]at hf
 | succ m =>
  unfold DataW.trod at hf;rw[ht]at hf
  split at hf <;> simp_all
  obtain⟨hl,xs,hp,hd⟩:=hf;intro i hi;have h4:=mapM_some_get hp i i (by simp[hi]);have hl:i<xs.length:=by rw[mapM_some_length hp];simpa using hi
  exact⟨m,xs[i],by rw[h4];simp[hl]⟩
theorem Sl.of_add {a:Addr} {n:Nat} {xs:List Value} (hl:xs.length=n) (h:∀ i,i<n→w.cell? (a.add i)=some (xs.getD i undef)):Sl w (some a) n xs:=by
 refine⟨hl,fun i hi => ?_⟩;obtain⟨b,off,spot⟩:=a;have hc:=h 0 (by omega);have hs:spot=none:=by simpa [Addr.add] using World.cell?_spot hc
 subst hs;exact⟨b,off,rfl,by rw[←h i hi,Addr.add_lit]⟩
/-- A list out of a choice for each index. -/
theorem list_of {α:Type} (n:Nat) (p:Nat→α→Prop) (h:∀ i,i<n→∃ y,p i y):∃ ys:List α,ys.length=n∧∀ i (hi:i<ys.length),p i ys[i]:=by
 induction n with
 | zero=>exact⟨[],rfl,fun i hi=>by simp at hi⟩
 | succ n ih =>
  obtain⟨ys,hl,hy⟩:=ih (fun i hi=>h i (by omega));obtain⟨y,hp⟩:=h n (by omega);refine⟨ys ++ [y],by simp[hl],fun i hi => ?_⟩
  by_cases h1:i<ys.length
  ·rw[List.getElem_append_left h1];exact hy i h1
  ·have:i=n:=by simp at hi;omega
   subst this;rw[List.getElem_append_right (by omega)]
   simpa [hl] using hp
/-- A slice of one-cell elements. -/
theorem Cells.slice1 {t e:TypeId} {cs:List Value} (h:Cells enc P w t cs) (ht:P.underlying t=some (.slice e)) (hc:P.cellsOf e=1) :
 ∃ a n cap xs,cs = [.slice a n cap]∧(n≤cap∧cap≤maxLen)∧Sl w a n xs∧∀ x∈xs,Cells enc P w e [x]:=by
 obtain⟨a,n,cap,rfl,hn,hx⟩:=h.slice ht hc;obtain⟨ys,hl,hy⟩:=list_of (α:=Value) n (fun i y=>(∃ x,a=some x∧w.cell? (x.add i)=some y)∧Cells enc P w e [y]) (fun i hi=>by
  obtain⟨x,es,ha,h1,h2,h3⟩:=hx i hi
  match es,h1 with
  | [y],_=>exact⟨y,⟨x,ha,by simpa using h2 0 (by omega)⟩,h3⟩)
 refine⟨a,n,cap,ys,rfl,hn,?_,?_⟩
 ·cases a with
  | none =>
   refine⟨hl,fun i hi => ?_⟩;obtain⟨⟨x,hx,-⟩,-⟩:=hy i (by omega);simp at hx
  | some a =>
   refine Sl.of_add hl fun i hi => ?_
   obtain⟨⟨x,hx,hc⟩,-⟩:=hy i (by omega);simp only[Option.some.injEq]at hx;subst hx;rw[hc];simp[show i<ys.length by omega]
 ·intro x hx;obtain⟨i,hi,rfl⟩:=List.getElem_of_mem hx;exact(hy i hi).2
theorem map_of {α:Type} (C:α→Value) (p:α→Prop) (xs:List Value) (h:∀ x∈xs,∃ z,x=C z∧p z):∃ zs:List α,xs=zs.map C∧∀ z∈zs,p z:=by
 induction xs with
 | nil=>exact⟨[],rfl,fun z hz=>by simp at hz⟩
 | cons x xs ih =>
  obtain⟨zs,rfl,hz⟩:=ih (fun y hy=>h y (by simp[hy]));obtain⟨z,rfl,hp⟩:=h x (by simp);refine⟨z::zs,rfl,fun y hy => ?_⟩;rcases List.mem_cons.1 hy with rfl|hy
  ·exact hp
  ·exact hz y hy
theorem Cells.slice_int {t e:TypeId} {k:IntKind} {cs:List Value} (h:Cells enc P w t cs) (ht:P.underlying t=some (.slice e)) (he:P.underlying e=some (.int k)) (hc:P.cellsOf e=1) :
 ∃(a:Option Addr) (n cap:Nat) (zs:List Int),cs = [.slice a n cap]∧(n≤cap∧cap≤maxLen)∧Sl w a n (zs.map (Value.int k))∧∀ z∈zs,(Lit.int k z).wf=true:=by
 obtain⟨a,n,cap,xs,rfl,hn,s,hx⟩:=h.slice1 ht hc;obtain⟨zs,rfl,hz⟩:=map_of (Value.int k) (fun z=>(Lit.int k z).wf=true) xs (fun x hx'=>by
  obtain⟨z,h1,h2⟩:=(hx x hx').int he;exact⟨z,by simpa using h1,h2⟩)
 exact⟨a,n,cap,zs,rfl,hn,s,hz⟩
theorem Cells.slice_bool {t e:TypeId} {cs:List Value} (h:Cells enc P w t cs) (ht:P.underlying t=some (.slice e)) (he:P.underlying e=some .bool) (hc:P.cellsOf e=1) :
 ∃(a:Option Addr) (n cap:Nat) (zs:List Bool),cs = [.slice a n cap]∧(n≤cap∧cap≤maxLen)∧Sl w a n (zs.map Value.bool):=by
 obtain⟨a,n,cap,xs,rfl,hn,s,hx⟩:=h.slice1 ht hc;obtain⟨zs,rfl,-⟩:=map_of Value.bool (fun _=>True) xs (fun x hx'=>by
  obtain⟨z,h1⟩:=(hx x hx').bool he;exact⟨z,by simpa using h1,trivial⟩)
 exact⟨a,n,cap,zs,rfl,hn,s⟩
theorem open_sl_int {t e:TypeId} {k:IntKind} {v:Value} {d:DataW H} {ps:List MemPlace} (ht:P.underlying t=some (.slice e)) (he:P.underlying e=some (.int k)) (hc:P.cellsOf e=1)
 (hv:∃ a len cap,v= .slice a len cap) (h:DataW.Trod enc P w 0 (fun _=>true) true t v d ps) :
 ∃(a:Option Addr) (n c:Nat) (zs:List Int),v= .slice a n c∧Sl w a n (zs.map (Value.int k))∧(n≤c∧c≤maxLen)∧∀ z∈zs,(Lit.int k z).wf=true:=by
 obtain⟨a,n,c,rfl⟩:=hv;obtain⟨a',n',c',zs,h1,h2,h3,h4⟩:=(Cells.of_trod h).slice_int ht he hc;simp[Value.cells]at h1;obtain⟨rfl,rfl,rfl⟩:=h1;exact⟨a,n,c,zs,rfl,h3,h2,h4⟩
theorem open_sl_bool {t e:TypeId} {v:Value} {d:DataW H} {ps:List MemPlace} (ht:P.underlying t=some (.slice e)) (he:P.underlying e=some .bool) (hc:P.cellsOf e=1)
 (hv:∃ a len cap,v= .slice a len cap) (h:DataW.Trod enc P w 0 (fun _=>true) true t v d ps) :
 ∃(a:Option Addr) (n c:Nat) (zs:List Bool),v= .slice a n c∧Sl w a n (zs.map Value.bool)∧(n≤c∧c≤maxLen):=by
 obtain⟨a,n,c,rfl⟩:=hv;obtain⟨a',n',c',zs,h1,h2,h3⟩:=(Cells.of_trod h).slice_bool ht he hc;simp[Value.cells]at h1;obtain⟨rfl,rfl,rfl⟩:=h1;exact⟨a,n,c,zs,rfl,h3,h2⟩
end
end Go.Proofs.Ytphfacfjhjcllaa
