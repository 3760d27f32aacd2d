/- FnMissingNumbers: the numbers that are missing are in ascending order, none of them is a packet's, and every other number of the range is. | From the reading of an argument to the walks' words. -/
import Derived.Test.YtphfacfjhjcllaaQa10
import Derived.ProofKit
import Derived.OpenShut
import Derived.ShutString
import Derived.ChangeOld
import Derived.Deep.Slices
import Derived.Lib.SmallJoins
set_option linter.unusedVariables false
set_option linter.unusedSimpArgs false
set_option maxRecDepth 100000
set_option maxHeartbeats 4000000
namespace Go.Proofs.Ytphfacfjhjcllaa
open Go.RowKit
theorem byte_rangeM {zs:List Int} (h:∀ z∈zs,(Lit.int .u8 z).wf=true):∀ z∈zs,0≤z∧z≤255:=by
 intro z hz;have h1:=h z hz
 simpa [Lit.wf,IntKind.min,IntKind.max,IntKind.signed,IntKind.bits] using h1
/-- Which of the first 10000 numbers the first j packets have. -/
def hvB (L:List Pkt) (j:Nat):List Bool:=(List.range 10000).map (fun(i:Nat)=>(nums (L.take j)).contains (i:Int))
theorem hvB_len (L:List Pkt) (j:Nat):(hvB L j).length=10000:=by unfold hvB;rw[List.length_map,List.length_range]
theorem hvB_at (L:List Pkt) (j:Nat) {i:Nat} (hi:i<10000):nthB (hvB L j) i=(nums (L.take j)).contains (i:Int):=by
 unfold nthB hvB;rw[List.getD_eq_getElem?_getD,List.getElem?_map,List.getElem?_range hi];rfl
theorem hvB_0 (L:List Pkt):hvB L 0=List.replicate 10000 false:=by
 refine ext_nthB (by rw[hvB_len,List.length_replicate]) (fun i hi => ?_);rw[hvB_len]at hi;rw[hvB_at _ _ hi,List.take_zero];unfold nthB;rw[List.getD_eq_getElem?_getD,List.getElem?_replicate,if_pos hi];rfl
theorem hvB_next (L:List Pkt) {j:Nat} (hj:j<L.length) (i:Nat) (hi:i<10000):nthB (hvB L (j+1)) i=(nthB (hvB L j) i || ((kget L j).num == (i:Int))):=by
 rw[hvB_at _ _ hi,hvB_at _ _ hi,nums_take L j hj,contains_snoc]
theorem nthB_set {l:List Bool} {p i:Nat} {b:Bool} (hp:p<l.length):nthB (l.set p b) i=if i=p then b else nthB l i:=by
 unfold nthB;simp only[List.getD_eq_getElem?_getD,List.getElem?_set]
 by_cases h:i=p
 ·subst h;simp[hp]
 ·rw[if_neg (fun e=>h e.symm),if_neg h]
theorem hvB_set (L:List Pkt) {j p:Nat} (hj:j<L.length) (hp:p<10000) (hn:(kget L j).num=(p:Int)):(hvB L j).set p true=hvB L (j+1):=by
 refine ext_nthB (by rw[List.length_set,hvB_len,hvB_len]) (fun i hi => ?_);rw[List.length_set,hvB_len]at hi;rw[nthB_set (by rw[hvB_len];exact hp),hvB_next L hj i hi,hn]
 by_cases h:i=p
 ·subst h;simp
 ·have h2:((p:Int) == (i:Int))=false:=by simp;omega
  rw[if_neg h,h2];simp
theorem hvB_keep (L:List Pkt) {j:Nat} (hj:j<L.length) (hn:(kget L j).num<0∨9999<(kget L j).num):hvB L j=hvB L (j+1):=by
 refine ext_nthB (by rw[hvB_len,hvB_len]) (fun i hi => ?_);rw[hvB_len]at hi;rw[hvB_next L hj i hi];have h2:((kget L j).num == (i:Int))=false:=by simp;omega
 rw[h2];simp
theorem misL_pre (N:List Int) (lo:Int) (j:Nat):∀ t,∃ r,misL N lo (j+t)=misL N lo j++r
 | 0=>⟨[],by simp⟩
 | t+1=>by
  obtain⟨r,hr⟩:=misL_pre N lo j t;cases hc:N.contains (lo+((j+t:Nat):Int))
  ·exact⟨r ++ [lo+((j+t:Nat):Int)],by rw[←Nat.add_assoc,misL_no hc,hr,List.append_assoc]⟩
  ·exact⟨r,by rw[←Nat.add_assoc,misL_yes hc,hr]⟩
theorem misL_hit {N:List Int} {lo:Int} {j M:Nat} (hj:j<M) (h:N.contains (lo+(j:Int))=false):(misL N lo j).length<(misL N lo M).length∧nth (misL N lo M) (misL N lo j).length=lo+(j:Int):=by
 obtain⟨r,hr⟩:=misL_pre N lo (j+1) (M-(j+1));rw[show j+1+(M-(j+1))=M by omega,misL_no h]at hr;rw[hr];refine⟨by simp,?_⟩;simp[nth]
theorem law_FnMissingNumbers (a:Option Addr) (c n:Nat) (zs:List Int) (w:World) (hn0:n≤c∧c≤maxLen) (sl:Sl w a n (zs.map (Value.int .u8))) (wf:∀ z∈zs,(Lit.int .u8 z).wf=true) :
 Calls Try.prog 3 #[.slice a n c] w fun e w'=>e= .returned (.bool true)∧Ext w w':=by
 have hn:n≤c∧c≤9223372036854775807:=⟨hn0.1,hn0.2⟩;clear hn0;have hz:=Lib.hid (byte_rangeM wf);clear wf
 by_cases hbig:1048576<n
 ·go_enter Try.func3,Try.ntmps3
  go_wp2;go_ret
  refine⟨rfl,?_⟩
  (repeat (first|with_reducible exact Below.refl _ _|assumption|with_reducible refine below_drewN ?_ _|with_reducible refine Below.drew ?_|with_reducible refine Below.setCell ?_ (by simp <;> omega) _|with_reducible refine Ext.trans ?_ (Ext.alloc _ _)))
 go_enter Try.func3,Try.ntmps3
 go_wp2_with fail
 refine(DrawMissingNumbers_any a c n zs _ hn.1 hn.2 (sl.ext (by(repeat (first|with_reducible exact Below.refl _ _|assumption|with_reducible refine below_drewN ?_ _|with_reducible refine Below.drew ?_|with_reducible refine Below.setCell ?_ (by simp <;> omega) _|with_reducible refine Ext.trans ?_ (Ext.alloc _ _))))) hz.out).mono ?_
 rintro e w1 ⟨k,x,al,cl,lo,hi,rfl,hk,hcl,L1,hlo,hhi,e1⟩
 have E1:Ext w w1:=by refine Ext.trans ?_ e1;(repeat (first|with_reducible exact Below.refl _ _|assumption|with_reducible refine below_drewN ?_ _|with_reducible refine Below.drew ?_|with_reducible refine Below.setCell ?_ (by simp <;> omega) _|with_reducible refine Ext.trans ?_ (Ext.alloc _ _)))
 clear sl hz e1;have kp1:=L1.kp;have HWF:=Lib.hid (show ∀ p∈pkl k x,(Lit.int .i64 p.num).wf=true from fun p hp=>by have:=(L1.wf p hp).1;unfold pkb at this;exact wf_small (by omega) (by omega));obtain⟨L,hL⟩:∃ L,L=pkl k x:=⟨_,rfl⟩;rw[←hL]at kp1 HWF;have hLl:L.length=k:=by rw[hL];exact pkl_len _ _
 have HLl:=Lib.hid hLl;clear L1 hL hLl;go_wp2_with fail
 refine(impl_MissingNumbers_any al cl k L lo hi _ (by omega) kp1 HWF.out).mono ?_
 rintro e w2 ⟨v2,rfl,o2,e2⟩
 have E2:=E1.trans e2;have kp2:=kp1.ext e2;clear E1 e2 kp1;go_wp2_with fail
 refine(spec_MissingNumbers_any al cl k L lo hi _ (by omega) kp2).mono ?_
 rintro e w3 ⟨v3,rfl,o3,e3⟩
 have E3:=E2.trans e3;have kp3:=kp2.ext e3;have o2':=owns_ext o2 e3;clear E2 e3 kp2 o2;obtain⟨a2,c2,rfl⟩:=owns_form o2';obtain⟨a3,c3,rfl⟩:=owns_form o3;obtain⟨O,hO⟩:∃ O,O=miss L lo hi:=⟨_,rfl⟩;have hO4:O.length≤10000:=by rw[hO];exact miss_len _ _ _
 rw[←hO]at o2' o3⊢;have HO:=Lib.hid hO;have s2:=Sl.of_owns o2';have s3:=Sl.of_owns o3;clear hO o2' o3;go_wp2_with fail
 refine(sameInts_same a2 a3 c2 c3 O.length O _ (by omega) s2 s3).mono ?_
 rintro e w4 ⟨rfl,e4⟩
 have E4:=E3.trans e4;have kp4:=kp3.ext e4;have s4:=s2.ext e4;clear E3 e4 kp3 s2 s3
 by_cases hr:lo<0∨9999<hi
 ·have hO0:O = []:=by rw[HO.out];exact if_neg (by omega)
  subst hO0;clear s4 HO hO4
  by_cases h1:lo<0
  ·have hd:decide (lo<0)=true:=by simpa using h1
   go_wp2_with fail
   refine(alive_any _).mono ?_
   rintro e w5 ⟨rfl,e5⟩
   go_wp2;go_ret
   exact⟨rfl,E4.trans e5⟩
  ·have hd:decide (lo<0)=false:=by simpa using h1
   have hd2:decide (hi>9999)=true:=by simp;omega
   go_wp2_with fail
   refine(alive_any _).mono ?_
   rintro e w5 ⟨rfl,e5⟩
   go_wp2;go_ret
   exact⟨rfl,E4.trans e5⟩
 ·obtain⟨l0,rfl⟩:=Int.eq_ofNat_of_zero_le (show 0≤lo by omega);have hd:decide (((l0:Nat):Int)<0)=false:=by simp
  have hd2:decide (hi>9999)=false:=by simp;omega
  have hh9:hi≤9999:=by omega
  obtain⟨M,hM⟩:∃ M,M=(hi-(l0:Int)+1).toNat:=⟨_,rfl⟩;have hOm:O=misL (nums L) (l0:Int) M:=by rw[HO.out,hM];exact if_pos (by omega)
  have HOm:=Lib.hid hOm;have HM:=Lib.hid hM;clear hM hOm hr;go_wp2_with (at_make;refine wpList_mk _ rfl _ _ 30 rfl 4 (.bool false) 1 Try.underlying30 info_bool rfl _ 10000 rfl rfl rfl (by omega) (by omega) ?_;intro w5 own5 gr5)
  have e5:Ext w4 w5:=ext_none gr5 rfl;have hr5:w5.ownsRow w4.heap.size 4 1 (.slice (some ⟨w4.heap.size,0,none⟩) 10000 10000) 10000 ((hvB L 0).map Value.bool):=by rw[hvB_0,List.map_replicate];exact own5
  clear own5 gr5;go_wp2_with fail
  go_loopw [8] (fun y wr=>∃ j:Nat,j≤k∧y= .int .i64 (j:Nat)∧Ext w4 wr∧wr.ownsRow w4.heap.size 4 1 (.slice (some ⟨w4.heap.size,0,none⟩) 10000 10000) 10000 ((hvB L j).map Value.bool)) (fun y _=>k-(intOf y).toNat)
  case atStart=>exact⟨0,by omega,rfl,e5,hr5⟩
  case round =>
   clear e5 hr5;obtain⟨j,hj,rfl,e6,o6⟩:=hrel
   by_cases hlt:j<k
   ·obtain⟨b1,o1,rfl,g1⟩:=(kp4.ext e6).2 j hlt;obtain⟨pa,pn,pc,⟨j1,-⟩,-⟩:=g1;have hset:=fun(p:Nat) (hp:p<10000) (hn:(kget L j).num=(p:Int))=>hvB_set L (by rw[HLl.out];exact hlt) hp hn
    have hkeep:=hvB_keep L (j:=j) (by rw[HLl.out];exact hlt);have Hset:=Lib.hid hset;have Hkeep:=Lib.hid hkeep;clear hset hkeep;generalize (kget L j).num=nm at *
    by_cases h0:0≤nm
    ·by_cases h9:nm≤9999
     ·obtain⟨p,rfl⟩:=Int.eq_ofNat_of_zero_le h0;have hp:p<10000:=by omega
      have d1:decide (((p:Nat):Int)≥0)=true:=by simp
      have d2:decide (((p:Nat):Int)≤9999)=true:=by simp;omega
      obtain⟨bo,hbo1,-⟩:=owns_get o6 hp;have f6:=o6.frozenAt p;have o7:=(o6.stored p (.bool true)).1;have g7:=(o6.stored p (.bool true)).2;rw[←List.map_set,Hset.out p hp rfl]at o7;have e7:Ext w4 (wr.setCell ⟨w4.heap.size,p,none⟩ (.bool true)):=Ext.grown e6 g7 (fun q hq=>by cases hq;exact Nat.le_refl _);have HO7:=Lib.hid o7;have HE7:=Lib.hid e7;clear o7 g7 e7 o6 e6;go_wp2;go_roundw
      case rel=>exact⟨j+1,by omega,by go_num,HE7.out,HO7.out⟩
      case measure=>simp[intOf] <;> omega
     ·have d1:decide (nm≥0)=true:=by simpa using h0
      have d2:decide (nm≤9999)=false:=by simpa using h9
      have hk':=Lib.hid (Hkeep.out (by omega));go_wp2;go_roundw
      case rel=>exact⟨j+1,by omega,by go_num,e6,by rw[←hk'.out];exact o6⟩
      case measure=>simp[intOf] <;> omega
    ·have d1:decide (nm≥0)=false:=by simpa using h0
     have hk':=Lib.hid (Hkeep.out (by omega));go_wp2;go_roundw
     case rel=>exact⟨j+1,by omega,by go_num,e6,by rw[←hk'.out];exact o6⟩
     case measure=>simp[intOf] <;> omega
   ·obtain rfl:j=k:=by omega
    have s6:=s4.ext e6;have E6:=E4.trans e6;have hat:∀(q:Nat),q<10000→wr.cell? ⟨w4.heap.size,q,none⟩=some (.bool ((nums L).contains (q:Int))):=fun q hq=>by
     obtain⟨b2,o2,he,hc⟩:=(Sl.of_owns o6).bool hq;cases he;rw[hvB_at _ _ hq,List.take_of_length_le (by rw[HLl.out];exact Nat.le_refl _),Nat.zero_add]at hc;exact hc
    have Hat:=Lib.hid hat;clear hat o6 e6 s4 E4;obtain⟨N1,hN1⟩:∃ N1,N1=O.length:=⟨_,rfl⟩;have HN1:=Lib.hid hN1;rw[←hN1]at hO4 s6⊢;clear hN1;go_wp2_with fail
    obtain⟨wo,hwo⟩:∃ wo,wo=wr:=⟨_,rfl⟩;rw[←hwo]at E6 Hat s6⊢;clear hwo;go_loopw [9,10] (fun t y wr=>∃ j:Nat,j≤M∧y= .int .i64 ((l0+j:Nat):Int)∧t= .int .i64 ((misL (nums L) (l0:Int) j).length:Nat)∧wr=wo) (fun _ y _=>10001-(intOf y).toNat)
    case atStart=>exact⟨0,by omega,by simp,rfl,rfl⟩
    case round =>
     obtain⟨j,hj,rfl,rfl,rfl⟩:=hrel
     by_cases hlt:j<M
     ·have hq:l0+j≤9999:=by have:=HM.out;omega
      have hle:(((l0+j:Nat):Int)≤hi):=by have:=HM.out;omega
      have k0:=Hat.out (l0+j) (by omega);have hc0:(((l0+j:Nat):Int))=(l0:Int)+(j:Int):=by omega
      cases hc:(nums L).contains ((l0:Int)+(j:Int))
      ·rw[hc0,hc]at k0;obtain⟨p1,p2⟩:=misL_hit hlt hc;rw[←HOm.out,←HN1.out]at p1;rw[←HOm.out]at p2;have hmn:=Lib.hid (misL_no hc);obtain⟨b2,o2,rfl,h2⟩:=s6.int p1;rw[p2,←hc0]at h2;have hlen:(misL (nums L) (l0:Int) j).length≤10000:=by omega
       have hT:=Lib.hid (show(misL (nums L) (l0:Int) (j+1)).length=(misL (nums L) (l0:Int) j).length+1 by rw[misL_no hc];simp);clear hmn hc p2;generalize (misL (nums L) (l0:Int) j).length=T at *;have hd1:decide ((T:Int)≥(N1:Int))=false:=by simp;omega
       have hTN:(T:Int)<N1:=by omega
       generalize hX:l0+j=sN at *;have HX:=Lib.hid hX;have hq10:(sN:Int)<10000:=by omega
       clear hX hc0;go_wp2;go_roundw
       case rel=>exact⟨j+1,by omega,by have:=HX.out;first|(congr 1;omega)|go_num,by rw[hT.out];go_num,by first|rfl|trivial⟩
       case measure=>simp[intOf] <;> omega
      ·rw[hc0,hc]at k0;have hT:=Lib.hid (show(misL (nums L) (l0:Int) (j+1)).length=(misL (nums L) (l0:Int) j).length by rw[misL_yes hc]);clear hc;generalize (misL (nums L) (l0:Int) j).length=T at *;generalize hX:l0+j=sN at *;have HX:=Lib.hid hX;have hq10:(sN:Int)<10000:=by omega
       clear hX hc0;go_wp2;go_roundw
       case rel=>exact⟨j+1,by omega,by have:=HX.out;first|(congr 1;omega)|go_num,by rw[hT.out],by first|rfl|trivial⟩
       case measure=>simp[intOf] <;> omega
     ·obtain rfl:j=M:=by omega
      have hgt:decide (((l0+j:Nat):Int)≤hi)=false:=by simp;have:=HM.out;omega
      rw[show(misL (nums L) (l0:Int) j).length=N1 by rw[HN1.out,HOm.out]];generalize l0+j=sN at *;go_wp2_with fail
      refine(alive_any _).mono ?_
      rintro e w5 ⟨rfl,e5⟩
      go_wp2;go_ret
      exact⟨rfl,E6.trans e5⟩
end Go.Proofs.Ytphfacfjhjcllaa
namespace Go.Proofs.Ytphfacfjhjcllaa
open Go.RowKit Go.ChangeShapes Go.WideShapes
section
variable {H : Type} {enc : TypeId × Value → H} {P : Program} {w : World}
/-- The cells cs read as a value of type t. -/
def Cells (enc:TypeId×Value→H) (P:Program) (w:World) (t:TypeId) (cs:List Value):Prop :=
 ∃ fuel x,DataW.trod enc P w 0 (fun _=>true) true fuel t cs=some x
theorem Cells.of_trod {t:TypeId} {v:Value} {d:DataW H} {ps:List MemPlace} (h:DataW.Trod enc P w 0 (fun _=>true) true t v d ps):Cells enc P w t v.cells.toList:=by
 obtain⟨fuel,hf⟩:=h;exact⟨fuel,_,hf⟩
theorem Cells.int {t:TypeId} {k:IntKind} {cs:List Value} (h:Cells enc P w t cs) (ht:P.underlying t=some (.int k)):∃ n,cs = [.int k n]∧(Lit.int k n).wf=true:=by
 obtain⟨fuel,x,hf⟩:=h;obtain⟨n,h1,-,h2⟩:=DataW.trod_int ht hf;exact⟨n,h1,h2⟩
theorem Cells.bool {t:TypeId} {cs:List Value} (h:Cells enc P w t cs) (ht:P.underlying t=some .bool):∃ b,cs = [.bool b]:=by
 obtain⟨fuel,x,hf⟩:=h;obtain⟨n,h1,-⟩:=DataW.trod_bool ht hf;exact⟨n,h1⟩
theorem add_add (a:Addr) (i j:Nat):a.add (i+j)=(a.add i).add j:=by
 unfold Addr.add
 by_cases h1:i=0
 ·subst h1;simp
 ·by_cases h2:j=0
  ·subst h2;simp
  ·simp[h1,h2,Nat.add_assoc]
/-- A slice whose elements have c cells each: cell j of element i. -/
theorem Cells.slice {t e:TypeId} {c:Nat} {cs:List Value} (h:Cells enc P w t cs) (ht:P.underlying t=some (.slice e)) (hc:P.cellsOf e=c) :
 ∃ a n cap,cs = [.slice a n cap]∧(n≤cap∧cap≤maxLen)∧∀ i,i<n→∃ x es,a=some x∧es.length=c∧(∀ j,j<c→w.cell? (x.add (i*c+j))=es[j]?)∧Cells enc P w e es:=by
 subst hc;obtain⟨fuel,x,hf⟩:=h;rcases Deep.open_slice ht hf with⟨rfl,-⟩|⟨a,len,cap,m,n,D,Pl,rfl,-,hl,hm,hmm,-,hx⟩
 ·exact⟨none,0,0,rfl,⟨by omega,by simp⟩,fun i hi=>by omega⟩
 ·refine⟨some a,len,cap,rfl,⟨hl,hm⟩,fun i hi => ?_⟩;obtain⟨cs',h1,h2⟩:=hx i (by simp at hmm;omega);obtain⟨-,hlen,hcell⟩:=World.cells?_some h1;refine⟨a,cs',rfl,hlen,fun j hj => ?_,⟨n,_,h2⟩⟩;have:=hcell j hj;rw[←this,add_add]
theorem Cells.struct {t:TypeId} {fs:Array Field} {cs:List Value} (h:Cells enc P w t cs) (ht:P.underlying t=some (.struct fs)) :
 cs.length=P.cellsOf t∧∀(i:Nat) (f:Field),fs[i]?=some f→Cells enc P w f.type ((cs.drop f.offset).take (P.cellsOf f.type)):=by
 obtain⟨fuel,x,hf⟩:=h;obtain⟨xs,n,-,-,h1,h2,h3⟩:=DataW.trod_struct ht hf;refine⟨h1,fun i f hi => ?_⟩;have h4:=h3 i f hi;have hl:i<xs.length:=by
  rw[h2];exact(Array.getElem?_eq_some_iff.1 hi).1
 exact⟨n,xs[i],by rw[h4];simp[hl]⟩
theorem Cells.array {t e:TypeId} {n:Nat} {cs:List Value} (h:Cells enc P w t cs) (ht:P.underlying t=some (.array n e)) :
 cs.length=P.cellsOf t∧∀ i,i<n→Cells enc P w e ((cs.drop (i*P.cellsOf e)).take (P.cellsOf e)):=by
 obtain⟨fuel,x,hf⟩:=h;cases fuel with
 | zero=>simp[DataW.trod]at hf
 | succ m =>
  unfold DataW.trod at hf;rw[ht]at hf
  split at hf <;> simp_all
  obtain⟨hl,xs,hp,hd⟩:=hf;intro i hi;have h4:=mapM_some_get hp i i (by simp[hi]);have hl:i<xs.length:=by rw[mapM_some_length hp];simpa using hi
  exact⟨m,xs[i],by rw[h4];simp[hl]⟩
theorem Sl.of_add {a:Addr} {n:Nat} {xs:List Value} (hl:xs.length=n) (h:∀ i,i<n→w.cell? (a.add i)=some (xs.getD i undef)):Sl w (some a) n xs:=by
 refine⟨hl,fun i hi => ?_⟩;obtain⟨b,off,spot⟩:=a;have hc:=h 0 (by omega);have hs:spot=none:=by simpa [Addr.add] using World.cell?_spot hc
 subst hs;exact⟨b,off,rfl,by rw[←h i hi,Addr.add_lit]⟩
/-- A list out of a choice for each index. -/
theorem list_of {α:Type} (n:Nat) (p:Nat→α→Prop) (h:∀ i,i<n→∃ y,p i y):∃ ys:List α,ys.length=n∧∀ i (hi:i<ys.length),p i ys[i]:=by
 induction n with
 | zero=>exact⟨[],rfl,fun i hi=>by simp at hi⟩
 | succ n ih =>
  obtain⟨ys,hl,hy⟩:=ih (fun i hi=>h i (by omega));obtain⟨y,hp⟩:=h n (by omega);refine⟨ys ++ [y],by simp[hl],fun i hi => ?_⟩
  by_cases h1:i<ys.length
  ·rw[List.getElem_append_left h1];exact hy i h1
  ·have:i=n:=by simp at hi;omega
   subst this;rw[List.getElem_append_right (by omega)]
   simpa [hl] using hp
/-- A slice of one-cell elements. -/
theorem Cells.slice1 {t e:TypeId} {cs:List Value} (h:Cells enc P w t cs) (ht:P.underlying t=some (.slice e)) (hc:P.cellsOf e=1) :
 ∃ a n cap xs,cs = [.slice a n cap]∧(n≤cap∧cap≤maxLen)∧Sl w a n xs∧∀ x∈xs,Cells enc P w e [x]:=by
 obtain⟨a,n,cap,rfl,hn,hx⟩:=h.slice ht hc;obtain⟨ys,hl,hy⟩:=list_of (α:=Value) n (fun i y=>(∃ x,a=some x∧w.cell? (x.add i)=some y)∧Cells enc P w e [y]) (fun i hi=>by
  obtain⟨x,es,ha,h1,h2,h3⟩:=hx i hi
  match es,h1 with
  | [y],_=>exact⟨y,⟨x,ha,by simpa using h2 0 (by omega)⟩,h3⟩)
 refine⟨a,n,cap,ys,rfl,hn,?_,?_⟩
 ·cases a with
  | none =>
   refine⟨hl,fun i hi => ?_⟩;obtain⟨⟨x,hx,-⟩,-⟩:=hy i (by omega);simp at hx
  | some a =>
   refine Sl.of_add hl fun i hi => ?_
   obtain⟨⟨x,hx,hc⟩,-⟩:=hy i (by omega);simp only[Option.some.injEq]at hx;subst hx;rw[hc];simp[show i<ys.length by omega]
 ·intro x hx;obtain⟨i,hi,rfl⟩:=List.getElem_of_mem hx;exact(hy i hi).2
theorem map_of {α:Type} (C:α→Value) (p:α→Prop) (xs:List Value) (h:∀ x∈xs,∃ z,x=C z∧p z):∃ zs:List α,xs=zs.map C∧∀ z∈zs,p z:=by
 induction xs with
 | nil=>exact⟨[],rfl,fun z hz=>by simp at hz⟩
 | cons x xs ih =>
  obtain⟨zs,rfl,hz⟩:=ih (fun y hy=>h y (by simp[hy]));obtain⟨z,rfl,hp⟩:=h x (by simp);refine⟨z::zs,rfl,fun y hy => ?_⟩;rcases List.mem_cons.1 hy with rfl|hy
  ·exact hp
  ·exact hz y hy
theorem Cells.slice_int {t e:TypeId} {k:IntKind} {cs:List Value} (h:Cells enc P w t cs) (ht:P.underlying t=some (.slice e)) (he:P.underlying e=some (.int k)) (hc:P.cellsOf e=1) :
 ∃(a:Option Addr) (n cap:Nat) (zs:List Int),cs = [.slice a n cap]∧(n≤cap∧cap≤maxLen)∧Sl w a n (zs.map (Value.int k))∧∀ z∈zs,(Lit.int k z).wf=true:=by
 obtain⟨a,n,cap,xs,rfl,hn,s,hx⟩:=h.slice1 ht hc;obtain⟨zs,rfl,hz⟩:=map_of (Value.int k) (fun z=>(Lit.int k z).wf=true) xs (fun x hx'=>by
  obtain⟨z,h1,h2⟩:=(hx x hx').int he;exact⟨z,by simpa using h1,h2⟩)
 exact⟨a,n,cap,zs,rfl,hn,s,hz⟩
theorem Cells.slice_bool {t e:TypeId} {cs:List Value} (h:Cells enc P w t cs) (ht:P.underlying t=some (.slice e)) (he:P.underlying e=some .bool) (hc:P.cellsOf e=1) :
 ∃(a:Option Addr) (n cap:Nat) (zs:List Bool),cs = [.slice a n cap]∧(n≤cap∧cap≤maxLen)∧Sl w a n (zs.map Value.bool):=by
 obtain⟨a,n,cap,xs,rfl,hn,s,hx⟩:=h.slice1 ht hc;obtain⟨zs,rfl,-⟩:=map_of Value.bool (fun _=>True) xs (fun x hx'=>by
  obtain⟨z,h1⟩:=(hx x hx').bool he;exact⟨z,by simpa using h1,trivial⟩)
 exact⟨a,n,cap,zs,rfl,hn,s⟩
theorem open_sl_int {t e:TypeId} {k:IntKind} {v:Value} {d:DataW H} {ps:List MemPlace} (ht:P.underlying t=some (.slice e)) (he:P.underlying e=some (.int k)) (hc:P.cellsOf e=1)
 (hv:∃ a len cap,v= .slice a len cap) (h:DataW.Trod enc P w 0 (fun _=>true) true t v d ps) :
 ∃(a:Option Addr) (n c:Nat) (zs:List Int),v= .slice a n c∧Sl w a n (zs.map (Value.int k))∧(n≤c∧c≤maxLen)∧∀ z∈zs,(Lit.int k z).wf=true:=by
 obtain⟨a,n,c,rfl⟩:=hv;obtain⟨a',n',c',zs,h1,h2,h3,h4⟩:=(Cells.of_trod h).slice_int ht he hc;simp[Value.cells]at h1;obtain⟨rfl,rfl,rfl⟩:=h1;exact⟨a,n,c,zs,rfl,h3,h2,h4⟩
theorem open_sl_bool {t e:TypeId} {v:Value} {d:DataW H} {ps:List MemPlace} (ht:P.underlying t=some (.slice e)) (he:P.underlying e=some .bool) (hc:P.cellsOf e=1)
 (hv:∃ a len cap,v= .slice a len cap) (h:DataW.Trod enc P w 0 (fun _=>true) true t v d ps) :
 ∃(a:Option Addr) (n c:Nat) (zs:List Bool),v= .slice a n c∧Sl w a n (zs.map Value.bool)∧(n≤c∧c≤maxLen):=by
 obtain⟨a,n,c,rfl⟩:=hv;obtain⟨a',n',c',zs,h1,h2,h3⟩:=(Cells.of_trod h).slice_bool ht he hc;simp[Value.cells]at h1;obtain⟨rfl,rfl,rfl⟩:=h1;exact⟨a,n,c,zs,rfl,h3,h2⟩
end
end Go.Proofs.Ytphfacfjhjcllaa
