/- FnMissingNumbers: the numbers that are missing are in ascending order, none of them is a packet's, and every other number of the range is. | CollectSlice: what it returns (plain); the map of the first valid packets. | CollectSlice: the program's contracts. | CollectSlice: the reference's contract. | FnCollectSlice: plain words; two packets that are the same. -/
import Derived.Test.YtphfacfjhjcllaaQb9
import Derived.DeepKeys4
import Derived.Lib.Bytes
set_option linter.unusedVariables false
set_option linter.unusedSimpArgs false
set_option maxRecDepth 100000
set_option maxHeartbeats 16000000
namespace Go.Proofs.Ytphfacfjhjcllaa
open Go.RowKit
theorem byte_rangeM {zs:List Int} (h:∀ z∈zs,(Lit.int .u8 z).wf=true):∀ z∈zs,0≤z∧z≤255:=by
 intro z hz;have h1:=h z hz
 simpa [Lit.wf,IntKind.min,IntKind.max,IntKind.signed,IntKind.bits] using h1
/-- Which of the first 10000 numbers the first j packets have. -/
def hvB (L:List Pkt) (j:Nat):List Bool:=(List.range 10000).map (fun(i:Nat)=>(nums (L.take j)).contains (i:Int))
end Go.Proofs.Ytphfacfjhjcllaa
namespace Go.Proofs.Ytphfacfjhjcllaa
open Go.RowKit Go.Maps
/-- The i-th packet is a valid one with this picture, row and part. -/
def kmatch (L:List Pkt) (f r p:Int) (i:Nat):Bool:=decide (kget L i).ok && (decide ((kget L i).fr=f) && (decide ((kget L i).row=r) && decide ((kget L i).part=p)))
/-- The first such one among the first k. -/
def ffind (L:List Pkt) (f r p:Int) (k:Nat):Option Nat:=(List.range k).find? (kmatch L f r p)
theorem ffind_succ (L:List Pkt) (f r p:Int) (k:Nat):ffind L f r p (k+1)=(ffind L f r p k).or (if kmatch L f r p k then some k else none):=by
 unfold ffind;rw[List.range_succ,List.find?_append]
 congr 1
 cases h:kmatch L f r p k <;> simp[h]
theorem ffind_same {L:List Pkt} {f r p:Int} {k:Nat} (h:kmatch L f r p k=false∨(ffind L f r p k).isSome=true):ffind L f r p (k+1)=ffind L f r p k:=by
 rw[ffind_succ];rcases h with h|h
 ·rw[h];simp
 ·obtain⟨x,hx⟩:=Option.isSome_iff_exists.1 h;rw[hx];simp
theorem ffind_new {L:List Pkt} {f r p:Int} {k:Nat} (h:kmatch L f r p k=true) (h2:ffind L f r p k=none):ffind L f r p (k+1)=some k:=by
 rw[ffind_succ,h2,h];simp
theorem ffind_lt {L:List Pkt} {f r p:Int} {k i:Nat} (h:ffind L f r p k=some i):i<k∧kmatch L f r p i=true:=by
 unfold ffind at h;have h1:=List.mem_of_find?_eq_some h;have h2:=List.find?_some h;exact⟨by simpa using h1,h2⟩
theorem kmatch_iff {L:List Pkt} {f r p:Int} {i:Nat} : kmatch L f r p i=true↔(kget L i).ok∧(kget L i).fr=f∧(kget L i).row=r∧(kget L i).part=p:=by
 unfold kmatch;simp only[Bool.and_eq_true,decide_eq_true_eq]
theorem kmatch_not {L:List Pkt} {f r p:Int} {i:Nat} (h : ¬ ((kget L i).ok∧(kget L i).fr=f∧(kget L i).row=r∧(kget L i).part=p)):kmatch L f r p i=false:=by
 cases hk:kmatch L f r p i
 ·rfl
 ·exact absurd (kmatch_iff.1 hk) h
/-- The search from the end: what is known when k is the least one looked at. -/
def Fnd (L:List Pkt) (f r p:Int) (n k:Nat):Option Nat→Prop
 | none=>∀ i,k≤i→i<n→kmatch L f r p i=false
 | some i=>k≤i∧i<n∧kmatch L f r p i=true∧∀ j,k≤j→j<i→kmatch L f r p j=false
def atv : Option Nat→Int
 | none => -1
 | some i=>i
theorem Fnd.none (L:List Pkt) (f r p:Int) (n:Nat):Fnd L f r p n n none:=fun i h1 h2=>by omega
theorem Fnd.hit {L:List Pkt} {f r p:Int} {n k:Nat} (hk:k<n) (h:kmatch L f r p k=true):Fnd L f r p n k (some k):=⟨Nat.le_refl _,hk,h,fun j h1 h2=>by omega⟩
theorem Fnd.miss {L:List Pkt} {f r p:Int} {n k:Nat} {o:Option Nat} (h:Fnd L f r p n (k+1) o) (hm:kmatch L f r p k=false):Fnd L f r p n k o:=by
 have step:∀ {j:Nat},k≤j→j≠k→k+1≤j:=fun h1 h2=>by omega
 cases o with
 | none =>
  intro i h1 h2
  by_cases e:i=k
  ·subst e;exact hm
  ·exact h i (step h1 e) h2
 | some i =>
  obtain⟨h1,h2,h3,h4⟩:=h;refine⟨by omega,h2,h3,fun j h5 h6 => ?_⟩
  by_cases e:j=k
  ·subst e;exact hm
  ·exact h4 j (step h5 e) h6
theorem Fnd.done {L:List Pkt} {f r p:Int} {n:Nat} {o:Option Nat} (h:Fnd L f r p n 0 o):ffind L f r p n=o:=by
 unfold ffind;cases o with
 | none =>
  rw[List.find?_eq_none];intro x hx;rw[h x (Nat.zero_le _) (by simpa using hx)];simp
 | some i =>
  obtain⟨-,h2,h3,h4⟩:=h;rw[List.find?_eq_some_iff_getElem];refine⟨h3,i,by simpa using h2,by simp,fun j hj => ?_⟩;have:=h4 j (Nat.zero_le _) (by omega);simp[this]
/-- The parts from p on, at most fuel of them, behind acc. -/
def cfrom (L:List Pkt) (f r:Int) (n:Nat):Nat→Nat→List Int→Option (List Int)
 | 0,_,_=>none
 | fuel+1,p,acc=>match ffind L f r (p:Int) n with
  | none=>none
  | some i=>if(kget L i).last then some (acc++(kget L i).data)else cfrom L f r n fuel (p+1) (acc++(kget L i).data)
/-- What CollectSlice finds. -/
def coll (L:List Pkt) (f r:Int):Option (List Int):=cfrom L f r L.length 256 0 []
theorem kok_len {L:List Pkt} {f r p:Int} {i:Nat} (h:kmatch L f r p i=true):(kget L i).data.length≤200:=by
 have h1:=(kmatch_iff.1 h).1;unfold Pkt.ok pval at h1;omega
theorem cfrom_len (L:List Pkt) (f r:Int) (n:Nat):∀(fuel p:Nat) (acc x:List Int),cfrom L f r n fuel p acc=some x→x.length≤acc.length+fuel*200:=by
 intro fuel
 induction fuel with
 | zero=>intro p acc x h;simp[cfrom]at h
 | succ fuel ih =>
  intro p acc x h;simp only[cfrom]at h
  split at h
  ·cases h
  ·rename_i i hi
   have hl:=kok_len (ffind_lt hi).2
   split at h
   ·simp only[Option.some.injEq]at h;subst h;rw[List.length_append];omega
   ·have:=ih _ _ _ h;rw[List.length_append]at this;omega
theorem coll_len (L:List Pkt) (f r:Int):((coll L f r).getD []).length≤51200:=by
 cases h:coll L f r with
 | none=>simp
 | some x =>
  have:=cfrom_len L f r _ _ _ _ _ h
  simpa using this
/-- Keys. -/
def pkey (f r p:Int):Lit := .string (keyBytes [.int .i64 f,.int .i64 r,.int .i64 p])
def pval0 : Value := .agg #[.int .i64 0,.int .i64 0,.int .i64 0,.int .i64 0,.bool false,.slice none 0 0]
/-- The i-th packet as a value, its data at A i with capacity C i. -/
def kval (L:List Pkt) (A:Nat→Option Addr) (C:Nat→Nat) (i:Nat):Value :=
 .agg #[.int .i64 (kget L i).num,.int .i64 (kget L i).fr,.int .i64 (kget L i).row,.int .i64 (kget L i).part,.bool (kget L i).last,.slice (A i) (kget L i).data.length (C i)]
def heldR (v:Value):Option (DataW Value×List MemPlace):=some (.held v,[])
def wfI (x:Int):Prop:=(Lit.int .i64 x).wf=true
/-- The slice at a of n packets reads as L, their data at A, C. -/
def KPV (w:World) (a:Option Addr) (n:Nat) (L:List Pkt) (A:Nat→Option Addr) (C:Nat→Nat):Prop :=
 L.length=n∧∀ i,i<n→∃ b off,a=some ⟨b,off,none⟩∧(w.cell? ⟨b,off+i*6,none⟩=some (.int .i64 (kget L i).num)∧w.cell? ⟨b,off+i*6+1,none⟩=some (.int .i64 (kget L i).fr)∧w.cell? ⟨b,off+i*6+2,none⟩=some (.int .i64 (kget L i).row)∧w.cell? ⟨b,off+i*6+3,none⟩=some (.int .i64 (kget L i).part)∧w.cell? ⟨b,off+i*6+4,none⟩=some (.bool (kget L i).last)∧w.cell? ⟨b,off+i*6+5,none⟩=some (.slice (A i) (kget L i).data.length (C i)))∧Sl w (A i) (kget L i).data.length ((kget L i).data.map (Value.int .u8))∧(kget L i).data.length≤C i∧C i≤maxLen
theorem KP.choose {w:World} {a:Option Addr} {n:Nat} {L:List Pkt} (h:KP w a n L):∃ A C,KPV w a n L A C:=by
 have h1:∀ i,∃ y:Option Addr×Nat,i<n→∃ b off,a=some ⟨b,off,none⟩∧(w.cell? ⟨b,off+i*6,none⟩=some (.int .i64 (kget L i).num)∧w.cell? ⟨b,off+i*6+1,none⟩=some (.int .i64 (kget L i).fr)∧w.cell? ⟨b,off+i*6+2,none⟩=some (.int .i64 (kget L i).row)∧w.cell? ⟨b,off+i*6+3,none⟩=some (.int .i64 (kget L i).part)∧w.cell? ⟨b,off+i*6+4,none⟩=some (.bool (kget L i).last)∧w.cell? ⟨b,off+i*6+5,none⟩=some (.slice y.1 (kget L i).data.length y.2))∧Sl w y.1 (kget L i).data.length ((kget L i).data.map (Value.int .u8))∧(kget L i).data.length≤y.2∧y.2≤maxLen:=by
  intro i
  by_cases hi:i<n
  ·obtain⟨b,off,ha,a2,n2,c2,g1,g2,g3,g4,-⟩:=h.2 i hi;have:=g2.int_len;subst this;exact⟨(a2,c2),fun _=>⟨b,off,ha,g1,g2,g3,g4⟩⟩
  ·exact⟨(none,0),fun h=>absurd h hi⟩
 exact⟨fun i=>(Classical.choose (h1 i)).1,fun i=>(Classical.choose (h1 i)).2,h.1,fun i hi=>Classical.choose_spec (h1 i) hi⟩
theorem KPV.ext {w w':World} {a:Option Addr} {n:Nat} {L:List Pkt} {A:Nat→Option Addr} {C:Nat→Nat} (h:KPV w a n L A C) (e:Ext w w'):KPV w' a n L A C:=by
 refine⟨h.1,fun i hi => ?_⟩;obtain⟨b,off,ha,⟨h1,h2,h3,h4,h5,h6⟩,h7,h8⟩:=h.2 i hi;exact⟨b,off,ha,⟨cell_ext e h1,cell_ext e h2,cell_ext e h3,cell_ext e h4,cell_ext e h5,cell_ext e h6⟩,h7.ext e,h8⟩
theorem ownsMap_ext {H:Type} {P:Program} {k:TypeId} {R:Value→Option (DataW H×List MemPlace)} {w w':World} {b m:Nat} {D:DataW H} (h:w.ownsMap P k R b m D) (e:Ext w w'):w'.ownsMap P k R b m D:=by
 obtain⟨es,clock,hb,r⟩:=h;exact⟨es,clock,e.blk hb,r⟩
/-- The map has the first valid packet of each key among the first k. -/
def MapP (L:List Pkt) (A:Nat→Option Addr) (C:Nat→Nat) (D:DataW Value) (k:Nat):Prop :=
 IsMap D∧∀ f r p,wfI f→wfI r→wfI p→has D (pkey f r p)=(ffind L f r p k).isSome∧D.atKey (pkey f r p) (.held pval0) = .held (match ffind L f r p k with|some i=>kval L A C i|none=>pval0)
theorem MapP.nil (L:List Pkt) (A:Nat→Option Addr) (C:Nat→Nat):MapP L A C (.map []) 0:=⟨isMap_empty,fun f r p _ _ _=>⟨rfl,rfl⟩⟩
theorem MapP.skip {L:List Pkt} {A:Nat→Option Addr} {C:Nat→Nat} {D:DataW Value} {k:Nat} (h:MapP L A C D k) (hs : ¬ (kget L k).ok∨(ffind L (kget L k).fr (kget L k).row (kget L k).part k).isSome=true):MapP L A C D (k+1):=by
 refine⟨h.1,fun f r p w1 w2 w3 => ?_⟩;rw[ffind_same (k:=k)]
 ·exact h.2 f r p w1 w2 w3
 ·by_cases hm:(kget L k).ok∧(kget L k).fr=f∧(kget L k).row=r∧(kget L k).part=p
  ·obtain⟨m1,rfl,rfl,rfl⟩:=hm;rcases hs with hs|hs
   ·exact absurd m1 hs
   ·exact .inr hs
  ·exact .inl (kmatch_not hm)
theorem MapP.put {L:List Pkt} {A:Nat→Option Addr} {C:Nat→Nat} {D:DataW Value} {k:Nat} (inj:∀ {f r p f' r' p':Int},wfI f→wfI r→wfI p→wfI f'→wfI r'→wfI p'→pkey f r p=pkey f' r' p'→f=f'∧r=r'∧p=p') (h:MapP L A C D k) (w1:wfI (kget L k).fr) (w2:wfI (kget L k).row) (w3:wfI (kget L k).part) (hok:(kget L k).ok)
 (hs:ffind L (kget L k).fr (kget L k).row (kget L k).part k=none):MapP L A C (D.put (pkey (kget L k).fr (kget L k).row (kget L k).part) (.held (kval L A C k))) (k+1):=by
 refine⟨h.1.put _ _,fun f r p v1 v2 v3 => ?_⟩
 by_cases hm:(kget L k).fr=f∧(kget L k).row=r∧(kget L k).part=p
 ·obtain⟨rfl,rfl,rfl⟩:=hm;rw[ffind_new (kmatch_iff.2 ⟨hok,rfl,rfl,rfl⟩) hs];exact⟨has_put_same h.1 (by simp[pkey,WideAt.IsKeyLit]) _,atKey_put_same h.1 (by simp[pkey,WideAt.IsKeyLit]) _ _⟩
 ·have hne:pkey f r p≠pkey (kget L k).fr (kget L k).row (kget L k).part:=fun e=>by
   obtain⟨e1,e2,e3⟩:=inj v1 v2 v3 w1 w2 w3 e;exact hm ⟨e1.symm,e2.symm,e3.symm⟩
  rw[has_put_other hne,atKey_put_other hne,ffind_same (.inl (kmatch_not (fun h=>hm h.2)))];exact h.2 f r p v1 v2 v3
/-- v, ok := m[k] in a map that holds values as they are. -/
theorem wpList_lookup_held {P:Program} (w:World) {ops:Array Oper} {rest:List Oper} {o:Oper} {a:Act} {Q:Exit→Act→World→Prop}
 (hg:o.guard=none) (m x:Operand) (t:TypeId) (hop:o.op=Op.lookup t m x true)
 (k e:TypeId) (K:Keyed P k) (ht:P.underlying t=some (.map k e)) {z:Value} (hz:(zeroValue e).run P w= .ok z w) (b n:Nat) (D:DataW Value)
 (hm:a.eval m= .map (some b)) (hown:w.ownsMap P k heldR b n D) (key:Value) (kl:Lit) (hx:a.eval x=key) (hkey:keyOf P k key=some kl) (v:Value) (c:Bool) (hc:has D kl=c) (hat:D.atKey kl (.held z) = .held v)
 (hK:wpList P ops Q rest (a.put o.dst (.tuple #[v,.bool c])) w) :
 wpList P ops Q (o::rest) a w:=by
 subst hc;refine wpList_lookup_own_ok w hg m x t hop k e K ht heldR hz (.held z) [] rfl b n D hm hown key kl hx hkey (fun v' ps hv => ?_);rw[hat]at hv;simp[heldR]at hv;rw[hv.1];exact hK
theorem pkey_wide : (match Try.prog.underlying 62 with|some (.array _ _)|some (.struct _)=>true|_=>false)=true:=by kernel_rfl
theorem laid_out : laidOutB Try.prog=true:=by kernel_rfl
theorem pkey_row : 62<Try.prog.types.size:=of_decide_eq_true (by kernel_rfl)
theorem pkey_type : Try.prog.keyTypeAt 2 62=true:=by kernel_rfl
theorem pkey_tiled : Try.prog.tiled 2 62=true:=by kernel_rfl
theorem pkey_law : WideMaps.KeyLaw Try.prog 62:=deep_law_laid laid_out (m:=2) (by omega) pkey_row pkey_type pkey_wide
theorem keyed_P : Keyed Try.prog 62:=Keyed.of_law pkey_law
theorem zero_Packet (w:World):(zeroValue 32).run Try.prog w= .ok pval0 w:=by kernel_rfl
theorem keyOf_P {f r p:Int} (h1:wfI f) (h2:wfI r) (h3:wfI p):keyOf Try.prog 62 (.agg #[.int .i64 f,.int .i64 r,.int .i64 p])=some (pkey f r p):=by
 have hts:Try.prog.types.size=(Try.prog.types.size-1)+1:=by kernel_rfl
 have hk:Try.prog.keyType 62=true:=by kernel_rfl
 have hc:Try.prog.cellsOf 62=3:=by kernel_rfl
 have hc3:Try.prog.cellsOf 3=1:=by kernel_rfl
 have hf:(Value.agg #[.int .i64 f,.int .i64 r,.int .i64 p]).formed Try.prog 62=true:=by
  simp[Value.formed,Try.underlying62,hc]
 have hi:∀ x,wfI x→∀ d,Try.prog.keyLits (d+1) 3 [.int .i64 x]=some [.int .i64 x]:=fun x hx d=>by
  unfold wfI at hx;simp only[Program.keyLits,Try.underlying3,hx,and_self,if_true]
 unfold keyOf;rw[Try.underlying62];simp only[hk,hf,Bool.and_self,if_true];rw[hts];have hu:=Try.underlying62;simp only[Program.keyLits,hu];have g1:(Lit.int .i64 f).wf=true:=h1;have g2:(Lit.int .i64 r).wf=true:=h2;have g3:(Lit.int .i64 p).wf=true:=h3;simp[Value.cells,hc,hc3,g1,g2,g3,pkey]
theorem pkey_inj {f r p f' r' p':Int} (h1:wfI f) (h2:wfI r) (h3:wfI p) (h4:wfI f') (h5:wfI r') (h6:wfI p') (e:pkey f r p=pkey f' r' p'):f=f'∧r=r'∧p=p':=by
 have k1:=keyOf_P h1 h2 h3;have k2:=keyOf_P h4 h5 h6;rw[e]at k1;have:=keyOf_inj_deep pkey_tiled pkey_wide k1 k2;simp at this;exact this
theorem held_rd (v:Value):heldR v=some (.held v,[]):=rfl
theorem impl_received_any (a:Option Addr) (c n:Nat) (L:List Pkt) (A:Nat→Option Addr) (C:Nat→Nat) (w:World) (hn:n<2^40) (r:KPV w a n L A C) (wf:∀ x∈L,wfI x.fr∧wfI x.row∧wfI x.part) :
 Calls Try.prog 19 #[.slice a n c] w fun e w'=>∃ D,e= .returned (.map (some w.heap.size))∧w'.ownsMap Try.prog 62 heldR w.heap.size n D∧MapP L A C D n∧Ext w w':=by
 have hmm := @run_makeMap Try.prog;have Wf:=Lib.hid wf;clear wf;go_enter Try.func19,Try.ntmps19
 go_wp2;go_loopw [12] (fun i wr=>∃(k:Nat) (D:DataW Value),k≤n∧i= .int .i64 k∧Ext w wr∧wr.ownsMap Try.prog 62 heldR w.heap.size k D∧MapP L A C D k) (fun i _=>n-(intOf i).toNat)
 case atStart=>exact⟨0,_,by omega,rfl,Ext.alloc _ _,World.ownsMap_made _ _ _ _,MapP.nil _ _ _⟩
 case round =>
  obtain⟨k,D,hk,rfl,E2,own2,mp⟩:=hrel
  by_cases hlt:k<n
  ·obtain⟨b1,o1,rfl,⟨j1,j2,j3,j4,j5,j6⟩,-,hc1,hc2⟩:=(r.ext E2).2 k hlt;have hkl:k<L.length:=by rw[r.1];exact hlt
   obtain⟨v1,v2,v3⟩:wfI (kget L k).fr∧wfI (kget L k).row∧wfI (kget L k).part:=by rw[kget_eq L k hkl];exact Wf.out _ (List.getElem_mem _)
   have hm:=mp.2 _ _ _ v1 v2 v3;have hkey:=keyOf_P v1 v2 v3;have hput:=fun(hok:(kget L k).ok) hs=>mp.put (fun h1 h2 h3 h4 h5 h6 e=>pkey_inj h1 h2 h3 h4 h5 h6 e) v1 v2 v3 hok hs
   have hskip:=mp.skip;have hval:kval L A C k= .agg #[.int .i64 (kget L k).num,.int .i64 (kget L k).fr,.int .i64 (kget L k).row,.int .i64 (kget L k).part,.bool (kget L k).last,.slice (A k) (kget L k).data.length (C k)]:=rfl;have hok:(kget L k).ok↔pval (kget L k).num (kget L k).fr (kget L k).row (kget L k).part (kget L k).data.length:=Iff.rfl;unfold wfI at v1 v2 v3;generalize ffind L (kget L k).fr (kget L k).row (kget L k).part k=fo at *;generalize kval L A C k=vk at *;generalize (kget L k).ok=okk at *;generalize pkey (kget L k).fr (kget L k).row (kget L k).part=kl at *;generalize kget L k=P at *;obtain⟨num,fr,row,part,last,ds⟩:=P;simp only at j1 j2 j3 j4 j5 j6 hm hkey hput hskip hval hok hc1;have HP:=Lib.hid hput;have HK:=Lib.hid hskip;have HV:=Lib.hid hval;have HO:=Lib.hid hok;clear hput hskip hval hok mp v1 v2 v3;have p1:=blk_new wr (.cells #[.int .i64 num,.int .i64 fr,.int .i64 row,.int .i64 part,.bool last,.slice (A k) ds.length (C k)] 32);have p2:=blk_new (wr.alloc (.cells #[.int .i64 num,.int .i64 fr,.int .i64 row,.int .i64 part,.bool last,.slice (A k) ds.length (C k)] 32)) (.cells #[.int .i64 fr,.int .i64 row,.int .i64 part] 62);simp only[World.size_alloc]at p2;have p1':=blk_alloc p1 (.cells #[.int .i64 fr,.int .i64 row,.int .i64 part] 62);have e2:Ext wr ((wr.alloc (.cells #[.int .i64 num,.int .i64 fr,.int .i64 row,.int .i64 part,.bool last,.slice (A k) ds.length (C k)] 32)).alloc (.cells #[.int .i64 fr,.int .i64 row,.int .i64 part] 62)):=(Ext.alloc _ _).trans (Ext.alloc _ _);cases fo with
   | some i =>
    have hh:has D kl=true:=hm.1;have hat:=hm.2;simp only[kval]at hat;generalize kget L i=P2 at hat;obtain⟨num2,fr2,row2,part2,last2,ds2⟩:=P2;simp only at hat;have hs:=Lib.hid (HK.out (.inr rfl));have own3:=ownsMap_ext own2 e2;have E3:=E2.trans e2;have E4:=fun o=>E3.trans (Ext.alloc ((wr.alloc (.cells #[.int .i64 num,.int .i64 fr,.int .i64 row,.int .i64 part,.bool last,.slice (A k) ds.length (C k)] 32)).alloc (.cells #[.int .i64 fr,.int .i64 row,.int .i64 part] 62)) o)
    clear HP HK HV HO hm own2 E2;go_wp2_with (at_lookup;refine wpList_lookup_held _ rfl _ _ 50 rfl 62 32 keyed_P Try.underlying50 (zero_Packet _) w.heap.size k D rfl own3 _ _ rfl hkey _ _ hh hat ?_)
    go_roundw
    case rel=>exact⟨k+1,D,by omega,by go_num,E4 _,own3.mono (by omega) |>.alloc _,hs.out⟩
    case measure=>simp[intOf];omega
   | none =>
    have hh:has D kl=false:=hm.1;have hat:=hm.2;simp only[pval0]at hat;have own3:=ownsMap_ext own2 e2;have E3:=E2.trans e2;have E4:=fun o=>E3.trans (Ext.alloc ((wr.alloc (.cells #[.int .i64 num,.int .i64 fr,.int .i64 row,.int .i64 part,.bool last,.slice (A k) ds.length (C k)] 32)).alloc (.cells #[.int .i64 fr,.int .i64 row,.int .i64 part] 62)) o)
    have own4:=fun o=>own3.alloc o
    clear hm own2 E2
    by_cases hpv:pval num fr row part ds.length
    ·have hs:=Lib.hid (HP.out (HO.out.2 hpv) rfl);go_wp2_with (at_lookup;refine wpList_lookup_held _ rfl _ _ 50 rfl 62 32 keyed_P Try.underlying50 (zero_Packet _) w.heap.size k D rfl own3 _ _ rfl hkey _ _ hh hat ?_)
     refine(impl_PacketValid_yes num fr row part last (A k) ds.length (C k) _ hpv).mono ?_
     rintro e w4 ⟨rfl,e4⟩
     have E5:=(E4 _).trans e4;have own5:=ownsMap_ext (own4 _) e4;have q1:=e4.blk (blk_alloc p1' _);have q2:=e4.blk (blk_alloc p2 _);obtain⟨m0,m1,m2,m3,m4,m5,m6⟩:=bx6 q1;obtain⟨n0,n1,n2,n3,n4,n5,n6⟩:=bx3 q2;rw[HV.out]at hs;clear own3 own4 E3 E4 p1 p2 p1' e2 e4 HV HP HK HO q1 q2;go_wp2_with (at_mapUpdate;refine wpList_mapUpdate_own _ rfl _ _ _ 50 rfl 62 32 keyed_P Try.underlying50 _ w.heap.size k _ rfl own5 (by unfold maxLen;omega) _ _ _ rfl rfl hkey _ [] (held_rd _) ?_;intro w1 hown1 hgrow1)
     go_roundw
     case rel=>exact⟨k+1,_,by omega,by go_num,Ext.grown E5 hgrow1 (fun q hq=>by cases hq;exact Nat.le_refl _),hown1,hs.out⟩
     case measure=>simp[intOf];omega
    ·have hs:=Lib.hid (HK.out (.inl (fun h=>hpv (HO.out.1 h))));go_wp2_with (at_lookup;refine wpList_lookup_held _ rfl _ _ 50 rfl 62 32 keyed_P Try.underlying50 (zero_Packet _) w.heap.size k D rfl own3 _ _ rfl hkey _ _ hh hat ?_)
     refine(impl_PacketValid_no num fr row part last (A k) ds.length (C k) _ hpv).mono ?_
     rintro e w4 ⟨rfl,e4⟩
     have E5:=(E4 _).trans e4;have own5:=ownsMap_ext (own4 _) e4;clear own3 own4 E3 E4 p1 p2 p1' e2 e4 HV HP HK HO hpv;go_wp2;go_roundw
     case rel=>exact⟨k+1,D,by omega,by go_num,E5,own5.mono (by omega),hs.out⟩
     case measure=>simp[intOf];omega
  ·obtain rfl:k=n:=by omega
   go_wp2;go_ret
   exact⟨D,rfl,own2,mp,E2⟩
/-- What CollectSlice answers. -/
def CoR (base:Nat) (w w':World) (R:Option (List Int)) (e:Ending):Prop:=∃(a:Option Addr) (c:Nat),e= .returned (.tuple #[.slice a (R.getD []).length c,.bool R.isSome])∧w'.ownsRow base 5 1 (.slice a (R.getD []).length c) (R.getD []).length ((R.getD []).map (Value.int .u8))∧Ext w w'
theorem one_u8 (ds:List Int):∀ u∈ds.map (Value.int .u8),u.oneCell'=true:=by
 intro u hu;simp at hu;obtain⟨z,-,rfl⟩:=hu;rfl
theorem map_app_u8 (xs ys:List Int):(xs++ys).map (Value.int .u8)=xs.map (Value.int .u8)++ys.map (Value.int .u8):=by simp
theorem impl_collectSlice_any (b:Nat) (f r:Int) (w w0:World) (a:Option Addr) (n m:Nat) (L:List Pkt) (A:Nat→Option Addr) (C:Nat→Nat) (D:DataW Value) (hr:KPV w a n L A C) (hf:wfI f) (hrw:wfI r) (own:w.ownsMap Try.prog 62 heldR b m D) (mp:MapP L A C D n) :
 Calls Try.prog 18 #[.map (some b),.int .i64 f,.int .i64 r] w fun e w'=>CoR w.heap.size w w' (coll L f r) e:=by
 obtain⟨R,hR⟩:∃ R,R=coll L f r:=⟨_,rfl⟩;rw[←hR];have H0:Hid (cfrom L f r n 256 0 []=R):=Lib.hid (by rw[hR,coll,hr.1]);clear hR;go_enter Try.func18,Try.ntmps18
 go_wp2;go_loopw [8,12] (fun v i wr=>∃(p:Nat) (acc:List Int),p≤256∧i= .int .i64 p∧Ext w wr∧wr.ownsRow w.heap.size 5 1 v acc.length (acc.map (Value.int .u8))∧acc.length≤p*200∧Hid (cfrom L f r n (256-p) p acc=R)) (fun _ i _=>256-(intOf i).toNat)
 case atStart=>exact⟨0,[],by omega,rfl,Below.refl _ _,World.ownsRow_nil _ _ _ _,by simp,H0⟩
 case round =>
  obtain⟨p,acc,hp,rfl,E2,row2,hal,HR⟩:=hrel;clear H0
  by_cases hlt:p<256
  ·have hwp:wfI (p:Int):=wf_small (by omega) (by omega);have hkey:=keyOf_P hf hrw hwp;have hm:=mp.2 _ _ _ hf hrw hwp;have hcf:cfrom L f r n (256-p) p acc=match ffind L f r (p:Int) n with
    | none=>none
    | some i=>if(kget L i).last then some (acc++(kget L i).data)else cfrom L f r n (256-(p+1)) (p+1) (acc++(kget L i).data):=by
    rw[show 256-p=(256-(p+1))+1 by omega];rfl
   have own2:=ownsMap_ext own E2;have hfl:=fun i h => @ffind_lt L f r (p:Int) n i h
   have hdl:=fun i h => @kok_len L f r (p:Int) i (hfl i h).2
   rw[hcf]at HR;generalize pkey f r (p:Int)=kl at *;generalize ffind L f r (p:Int) n=fo at *;cases fo with
   | none =>
    have hh:has D kl=false:=hm.1;have hat:=hm.2;simp only[pval0]at hat;have hres:R=none:=HR.out.symm;subst hres;clear hcf hfl hdl hm HR own row2;go_wp2_with (at_lookup;refine wpList_lookup_held _ rfl _ _ 50 rfl 62 32 keyed_P Try.underlying50 (zero_Packet _) b m D rfl own2 _ _ rfl hkey _ _ hh hat ?_)
    go_ret2
    exact⟨none,0,rfl,World.ownsRow_nil _ _ _ _,E2.trans (Ext.alloc _ _)⟩
   | some i =>
    have hh:has D kl=true:=hm.1;have hat:=hm.2;simp only[kval]at hat;have hi:=(hfl i rfl).1;have hd:=hdl i rfl;obtain⟨b1,o1,ha,-,hsl,hc1,hc2⟩:=(hr.ext E2).2 i hi;simp only at HR;generalize kget L i=P at *;obtain⟨num,fr,row,part,last,ds⟩:=P;simp only at hat hd hsl hc1 HR;generalize A i=ai at *;generalize C i=ci at *;have p1:=blk_new wr (.cells #[.int .i64 num,.int .i64 fr,.int .i64 row,.int .i64 part,.bool last,.slice ai ds.length ci] 32);have e3:=Ext.alloc wr (.cells #[.int .i64 num,.int .i64 fr,.int .i64 row,.int .i64 part,.bool last,.slice ai ds.length ci] 32);have E3:=E2.trans e3;have s3:=hsl.ext e3;have row3:=owns_ext row2 e3;have hsz:=E3.size;clear hcf hfl hdl hm own hsl row2 e3;go_wp2_with (first|(at_lookup;refine wpList_lookup_held _ rfl _ _ 50 rfl 62 32 keyed_P Try.underlying50 (zero_Packet _) b m D rfl own2 _ _ rfl hkey _ _ hh hat ?_)|(at_builtin;refine wpList_apps _ row3 hsz rfl _ _ 22 rfl (.int .u8 0) 1 Try.underlying22 info_uint8 rfl rfl ai ds.length ci _ rfl s3 (one_u8 ds) (by omega) (by omega) ?_;intro v8 w8 own8 gr8;refine Hid.out ?_))
    rw[←map_app_u8,←List.length_append]at own8;obtain⟨a8,c8,rfl⟩:=owns_form own8;have E8:Ext w w8:=Ext.grown E3 gr8 (owns_ge row3);have q1:=blk_gr p1 gr8 (by
     rcases own_ne_blk row3 p1 (by decide)with h|h
     ·rw[h];simp
     ·exact h)
    obtain⟨m0,m1,m2,m3,m4,m5,m6⟩:=bx6 q1;have hlen:(acc++ds).length≤(p+1)*200:=by rw[List.length_append];omega
    clear p1 q1 gr8 row3 s3 E3 own2 E2;refine Lib.hid ?_;cases last with
    | true =>
     have hres:R=some (acc++ds):=HR.out.symm;subst hres;clear HR;go_wp2;go_ret2
     exact⟨a8,c8,rfl,own8,E8⟩
    | false =>
     have HR2:=Lib.hid HR.out;clear HR;go_wp2;go_roundw
     case rel=>exact⟨p+1,acc++ds,by omega,by go_num,E8,own8,hlen,HR2⟩
     case measure=>simp[intOf];omega
  ·obtain rfl:p=256:=by omega
   have hres:R=none:=HR.out.symm;subst hres;go_wp2;go_ret2
   exact⟨none,0,rfl,World.ownsRow_nil _ _ _ _,E2⟩
theorem impl_CollectSlice_any (a:Option Addr) (c n:Nat) (L:List Pkt) (f r:Int) (w:World) (hn:n<2^40) (hk:KP w a n L) (wf:∀ x∈L,wfI x.fr∧wfI x.row∧wfI x.part) (hf:wfI f) (hr:wfI r) :
 Calls Try.prog 11 #[.slice a n c,.int .i64 f,.int .i64 r] w fun e w'=>CoR w.heap.size w w' (coll L f r) e:=by
 obtain⟨A,C,hkv⟩:=hk.choose;go_enter Try.func11,Try.ntmps11
 go_wp2_with fail
 refine(impl_received_any a c n L A C w hn hkv wf).mono ?_
 rintro e w1 ⟨D,rfl,own1,mp,e1⟩
 go_wp2_with fail
 refine(impl_collectSlice_any w.heap.size f r w1 w a n n L A C D (hkv.ext e1) hf hr own1 mp).mono ?_
 rintro e w2 ⟨a2,c2,rfl,own2,e2⟩
 go_wp2;go_ret2
 exact⟨a2,c2,rfl,owns_mono own2 e1.size,e1.trans e2⟩
theorem spec_CollectSlice_any (a:Option Addr) (c n:Nat) (L:List Pkt) (f r:Int) (w:World) (hn:n<2^40) (hk:KP w a n L) :
 Calls Try.prog 12 #[.slice a n c,.int .i64 f,.int .i64 r] w fun e w'=>CoR w.heap.size w w' (coll L f r) e:=by
 obtain⟨A,C,hr⟩:=hk.choose;clear hk;obtain⟨R,hR⟩:∃ R,R=coll L f r:=⟨_,rfl⟩;rw[←hR];have H0:Hid (cfrom L f r n 256 0 []=R):=Lib.hid (by rw[hR,coll,hr.1]);clear hR;have hown:=World.ownsRow_made (base:=w.heap.size) (e:=5) (size:=1) w #[] 0 (Nat.le_refl _) (by simp) rfl;go_enter Try.func12,Try.ntmps12
 go_wp2;have E1:Ext w (w.alloc (.cells #[] 5)):=Ext.alloc _ _;go_loopw [8,9] (fun v i wr=>∃(p:Nat) (acc:List Int),p≤256∧i= .int .i64 p∧Ext w wr∧wr.ownsRow w.heap.size 5 1 v acc.length (acc.map (Value.int .u8))∧acc.length≤p*200∧Hid (cfrom L f r n (256-p) p acc=R)) (fun _ i _=>256-(intOf i).toNat)
 case atStart=>exact⟨0,[],by omega,rfl,E1,by simpa using hown,by simp,H0⟩
 case round =>
  obtain⟨p,acc,hp,rfl,E2,row2,hal,HR⟩:=hrel;clear H0 hown E1
  by_cases hlt:p<256
  ·have hcf:cfrom L f r n (256-p) p acc=match ffind L f r (p:Int) n with
    | none=>none
    | some i=>if(kget L i).last then some (acc++(kget L i).data)else cfrom L f r n (256-(p+1)) (p+1) (acc++(kget L i).data):=by
    rw[show 256-p=(256-(p+1))+1 by omega];rfl
   rw[hcf]at HR;have hfl:=fun i h => @ffind_lt L f r (p:Int) n i h
   have hdl:=fun i h => @kok_len L f r (p:Int) i (hfl i h).2
   have HF:=Lib.hid hfl;have HD:=Lib.hid hdl;clear hcf hfl hdl;obtain⟨wo,rfl⟩:∃ wo:World,wo=wr:=⟨_,rfl⟩;have hdp:decide ((p:Int)<256)=true:=by simp;omega
   go_wp2;clear hdp;go_loopw [10,11] (fun t kk wz=>∃(k:Nat) (o:Option Nat),k≤n∧kk= .int .i64 ((k:Int)-1)∧t= .int .i64 (atv o)∧Hid (Fnd L f r (p:Int) n k o)∧Ext wo wz) (fun _ kk _=>(intOf kk+1).toNat)
   case atStart=>exact⟨n,none,by omega,rfl,rfl,Lib.hid (Fnd.none _ _ _ _ _),Below.refl _ _⟩
   case round =>
    obtain⟨k,o,hkn,rfl,rfl,fnd,E3⟩:=hrel;cases k with
    | succ j =>
     have hj:(((j+1:Nat):Int)-1)=(j:Int):=by omega
     rw[hj];clear hj;have hmiss:=fun hm=>Lib.hid (fnd.out.miss hm)
     have hhit:=fun hm=>Lib.hid (Fnd.hit (L:=L) (f:=f) (r:=r) (p:=(p:Int)) (n:=n) (k:=j) (by omega) hm)
     have Hmiss:=Lib.hid hmiss;have Hhit:=Lib.hid hhit;have hrx:=fun(wz':World) (e:Ext wr wz')=>(hr.ext (E2.trans (E3.trans e))).2 j (by omega)
     have hmd:(kget L j).ok↔pval (kget L j).num (kget L j).fr (kget L j).row (kget L j).part (kget L j).data.length:=Iff.rfl;have hkm := @kmatch_iff L f r (p:Int) j;rw[hmd]at hkm;have HKM:=Lib.hid hkm;clear hmiss hhit fnd hmd hkm;generalize kmatch L f r (p:Int) j=km at *;generalize kget L j=P at *;obtain⟨num,fr,row,part,last,ds⟩:=P;simp only at hrx HKM;generalize A j=ai at *;generalize C j=ci at *;have Hrx:=Lib.hid hrx;obtain⟨b1,o1,rfl,⟨j1,j2,j3,j4,j5,j6⟩,-,hc1,hc2⟩:=hrx wr (Below.refl _ _);have hlen:ds.length≤9223372036854775807:=by unfold maxLen at hc2;omega
     clear hrx;have hit_of:pval num fr row part ds.length→fr=f→row=r→part=(p:Int)→km=true:=fun h1 h2 h3 h4=>HKM.out.2 ⟨h1,h2,h3,h4⟩
     have miss_of : ¬ (pval num fr row part ds.length∧fr=f∧row=r∧part=(p:Int))→km=false:=fun h=>by
      cases hkm:km
      ·rfl
      ·exact absurd (HKM.out.1 hkm) h
     have Hit:=Lib.hid hit_of;have Miss:=Lib.hid miss_of;clear hit_of miss_of
     by_cases hpv:pval num fr row part ds.length
     ·go_wp2_with fail
      refine(spec_PacketValid_yes num fr row part last ai ds.length ci _ hpv).mono ?_
      rintro e w4 ⟨rfl,e4⟩
      obtain⟨b1',o1',hb,⟨j1',j2',j3',j4',j5',j6'⟩,-⟩:=Hrx.out w4 e4;simp only[Option.some.injEq,Addr.mk.injEq,and_true]at hb;obtain⟨rfl,rfl⟩:=hb;have E4:=E3.trans e4;clear e4 E3
      by_cases h1:fr=f
      ·subst h1
       by_cases h2:row=r
       ·subst h2
        by_cases h3:part=(p:Int)
        ·subst h3;have hres:=Hhit.out (Hit.out hpv rfl rfl rfl);clear Hhit Hmiss Hrx HKM Hit Miss hpv;go_wp2;go_roundw
         case rel=>exact⟨j,some j,by omega,rfl,rfl,hres,E4⟩
         case measure=>simp[intOf] <;> omega
        ·have hd:(part == (p:Int))=false:=by simpa using h3
         have hres:=Hmiss.out (Miss.out (fun h=>h3 h.2.2.2));clear Hhit Hmiss Hrx HKM Hit Miss hpv h3;go_wp2;go_roundw
         case rel=>exact⟨j,o,by omega,rfl,rfl,hres,E4⟩
         case measure=>simp[intOf] <;> omega
       ·have hd:(row == r)=false:=by simpa using h2
        have hres:=Hmiss.out (Miss.out (fun h=>h2 h.2.2.1));clear Hhit Hmiss Hrx HKM Hit Miss hpv h2;go_wp2;go_roundw
        case rel=>exact⟨j,o,by omega,rfl,rfl,hres,E4⟩
        case measure=>simp[intOf] <;> omega
      ·have hd:(fr == f)=false:=by simpa using h1
       have hres:=Hmiss.out (Miss.out (fun h=>h1 h.2.1));clear Hhit Hmiss Hrx HKM Hit Miss hpv h1;go_wp2;go_roundw
       case rel=>exact⟨j,o,by omega,rfl,rfl,hres,E4⟩
       case measure=>simp[intOf] <;> omega
     ·have hres:=Hmiss.out (Miss.out (fun h=>hpv h.1));go_wp2_with fail
      refine(spec_PacketValid_no num fr row part last ai ds.length ci _ hlen hpv).mono ?_
      rintro e w4 ⟨rfl,e4⟩
      have E4:=E3.trans e4;clear e4 E3 Hhit Hmiss Hrx HKM Hit Miss hpv;go_wp2;go_roundw
      case rel=>exact⟨j,o,by omega,rfl,rfl,hres,E4⟩
      case measure=>simp[intOf] <;> omega
    | zero =>
     have hj:(((0:Nat):Int)-1) = -1:=by omega
     rw[hj];clear hj;have hff:=fnd.out.done;rw[hff]at HR;have Hff:=Lib.hid hff;have E4:=E2.trans E3;have row4:=owns_ext row2 E3;clear hff fnd E2 E3 row2;cases o with
     | none =>
      have hres:R=none:=HR.out.symm;subst hres;have hat:atv none = -1:=rfl;rw[hat];clear HR hat HF HD Hff row4;have hown:=World.ownsRow_made (base:=w.heap.size) (e:=5) (size:=1) wr #[] 0 E4.size (by simp) rfl;have E5:=E4.trans (Ext.alloc wr (.cells #[] 5));go_wp2;go_ret2
      exact⟨_,_,rfl,hown,E5⟩
     | some i =>
      have hi:=(HF.out i Hff.out).1;have hd:=HD.out i Hff.out;have hat:atv (some i)=(i:Int):=rfl;rw[hat];simp only at HR;have hrx:=fun(wz':World) (e:Ext w wz')=>(hr.ext e).2 i (by omega)
      clear HF HD Hff hat;generalize kget L i=P at *;obtain⟨num,fr,row,part,last,ds⟩:=P;simp only at hrx HR hd;generalize A i=ai at *;generalize C i=ci at *;have Hrx:=Lib.hid hrx;obtain⟨b1,o1,rfl,⟨j1,j2,j3,j4,j5,j6⟩,hsl,hc1,hc2⟩:=hrx wr E4;clear hrx;have hsz:=E4.size;go_wp2_with (at_builtin;refine wpList_apps _ row4 hsz rfl _ _ 22 rfl (.int .u8 0) 1 Try.underlying22 info_uint8 rfl rfl ai ds.length ci _ rfl hsl (one_u8 ds) (by omega) (by omega) ?_;intro v8 w8 own8 gr8;refine Hid.out ?_)
      rw[←map_app_u8,←List.length_append]at own8;obtain⟨a8,c8,rfl⟩:=owns_form own8;have E8:Ext w w8:=Ext.grown E4 gr8 (owns_ge row4);obtain⟨b2,o2,hb,⟨k1,k2,k3,k4,k5,k6⟩,-⟩:=Hrx.out w8 E8;simp only[Option.some.injEq,Addr.mk.injEq,and_true]at hb;obtain⟨rfl,rfl⟩:=hb;have hlen:(acc++ds).length≤(p+1)*200:=by rw[List.length_append];omega
      clear Hrx row4 E4 gr8 hsl j1 j2 j3 j4 j5 j6;refine Lib.hid ?_;cases last with
      | true =>
       have hres:R=some (acc++ds):=HR.out.symm;subst hres;clear HR;go_wp2;go_ret2
       exact⟨a8,c8,rfl,own8,E8⟩
      | false =>
       have HR2:=Lib.hid HR.out;clear HR;go_wp2;go_roundw
       case rel=>exact⟨p+1,acc++ds,by omega,by go_num,E8,own8,hlen,HR2⟩
       case measure=>simp[intOf] <;> omega
  ·obtain rfl:p=256:=by omega
   have hres:R=none:=HR.out.symm;subst hres;have hown:=World.ownsRow_made (base:=w.heap.size) (e:=5) (size:=1) wr #[] 0 E2.size (by simp) rfl;have E5:=E2.trans (Ext.alloc wr (.cells #[] 5));go_wp2;go_ret2
   exact⟨_,_,rfl,hown,E5⟩
end Go.Proofs.Ytphfacfjhjcllaa
namespace Go.Proofs.Ytphfacfjhjcllaa
open Go.RowKit
theorem strOf_inj : ∀ {xs ys:List Int},bys xs→bys ys→(strOfNums xs).toList=(strOfNums ys).toList→xs=ys:=by
 have key:∀(xs ys:List Int),bys xs→bys ys→xs.map (fun n=>UInt8.ofNat n.toNat)=ys.map (fun n=>UInt8.ofNat n.toNat)→xs=ys:=by
  intro xs
  induction xs with
  | nil=>intro ys _ _ h;cases ys with
   | nil=>rfl
   | cons y ys=>simp at h
  | cons x xs ih=>intro ys hx hy h;cases ys with
   | nil=>simp at h
   | cons y ys =>
    simp only[List.map_cons,List.cons.injEq]at h;obtain⟨h1,h2⟩:=h;have a1:=hx x (by simp);have a2:=hy y (by simp);have h3:=congrArg UInt8.toNat h1;rw[UInt8.toNat_ofNat',UInt8.toNat_ofNat']at h3;have h4:x=y:=by omega
    rw[h4,ih ys (fun z hz=>hx z (by simp[hz])) (fun z hz=>hy z (by simp[hz])) h2]
 intro xs ys hx hy h;refine key xs ys hx hy ?_;rw[Lib.strOfNums_toList,Lib.strOfNums_toList]at h;exact h
/-- What CollectSlice looks up: is it the last part, and its data. -/
def look (L:List Pkt) (f r p:Int) (n:Nat):Option (Bool×List Int):=(ffind L f r p n).map fun i=>((kget L i).last,(kget L i).data)
theorem cfrom_look {L1 L2:List Pkt} {f r:Int} {n1 n2:Nat} (h:∀ p:Int,look L1 f r p n1=look L2 f r p n2):∀(fuel p:Nat) (acc:List Int),cfrom L1 f r n1 fuel p acc=cfrom L2 f r n2 fuel p acc:=by
 intro fuel
 induction fuel with
 | zero=>intro p acc;rfl
 | succ fuel ih =>
  intro p acc;have h1:=h (p:Int);unfold look at h1;unfold cfrom;cases e1:ffind L1 f r (p:Int) n1 with
  | none =>
   cases e2:ffind L2 f r (p:Int) n2 with
   | none=>rfl
   | some j=>rw[e1,e2]at h1;simp at h1
  | some i =>
   cases e2:ffind L2 f r (p:Int) n2 with
   | none=>rw[e1,e2]at h1;simp at h1
   | some j =>
    rw[e1,e2]at h1;simp only[Option.map_some,Option.some.injEq,Prod.mk.injEq]at h1;simp only[h1.1,h1.2,ih]
theorem coll_look {L1 L2:List Pkt} {f r:Int} (h:∀ p:Int,look L1 f r p L1.length=look L2 f r p L2.length):coll L1 f r=coll L2 f r:=cfrom_look h 256 0 []
theorem ffind_none {L:List Pkt} {f r p:Int} {n:Nat} (h:∀ i,i<n→kmatch L f r p i=false):ffind L f r p n=none:=by
 unfold ffind;rw[List.find?_eq_none];intro i hi;rw[h i (by simpa using hi)];simp
theorem ffind_none' {L:List Pkt} {f r p:Int} {n:Nat} (h:ffind L f r p n=none):∀ i,i<n→kmatch L f r p i=false:=by
 unfold ffind at h;rw[List.find?_eq_none]at h;intro i hi;have:=h i (by simpa using hi)
 simpa using this
theorem ffind_min {L:List Pkt} {f r p:Int} {n i:Nat} (h:ffind L f r p n=some i):∀ j,j<i→kmatch L f r p j=false:=by
 unfold ffind at h;have h1:=(List.find?_range_eq_some.1 h).2.2;intro j hj;have:=h1 j hj
 simpa using this
theorem coll_twice (n:Nat) (x:Nat→Pkt) (f r:Int):coll (pkl (n+n) (fun i=>if i<n then x i else x (i-n))) f r=coll (pkl n x) f r:=by
 refine coll_look (fun p => ?_);rw[pkl_len,pkl_len];have g1:∀ i,i<n→kget (pkl (n+n) (fun i=>if i<n then x i else x (i-n))) i=x i:=fun i hi=>by rw[kget_pkl _ (by omega),if_pos hi]
 have g2:∀ i,n≤i→i<n+n→kget (pkl (n+n) (fun i=>if i<n then x i else x (i-n))) i=x (i-n):=fun i hi hi2=>by rw[kget_pkl _ hi2,if_neg (by omega)]
 have g3:∀ i,i<n→kget (pkl n x) i=x i:=fun i hi=>kget_pkl x hi
 have m1:∀ i,i<n→kmatch (pkl (n+n) (fun i=>if i<n then x i else x (i-n))) f r p i=kmatch (pkl n x) f r p i:=fun i hi=>by unfold kmatch;rw[g1 i hi,g3 i hi]
 have m2:∀ i,n≤i→i<n+n→kmatch (pkl (n+n) (fun i=>if i<n then x i else x (i-n))) f r p i=kmatch (pkl n x) f r p (i-n):=fun i hi hi2=>by unfold kmatch;rw[g2 i hi hi2,g3 _ (by omega)]
 cases e:ffind (pkl n x) f r p n with
 | none =>
  have h0:=ffind_none' e;have h1:ffind (pkl (n+n) (fun i=>if i<n then x i else x (i-n))) f r p (n+n)=none:=ffind_none (fun i hi=>by
   by_cases h:i<n
   ·rw[m1 i h];exact h0 i h
   ·rw[m2 i (by omega) hi];exact h0 _ (by omega))
  unfold look;rw[e,h1];rfl
 | some i =>
  have hi:=ffind_lt e;have hmin:=ffind_min e;cases e2:ffind (pkl (n+n) (fun i=>if i<n then x i else x (i-n))) f r p (n+n)with
  | none=>have:=ffind_none' e2 i (by omega);rw[m1 i hi.1,hi.2]at this;cases this
  | some j =>
   have hj:=ffind_lt e2;have hmin2:=ffind_min e2;have hij:j=i:=by
    rcases Nat.lt_trichotomy i j with h|h|h
    ·have:=hmin2 i h;rw[m1 i hi.1,hi.2]at this;cases this
    ·exact h.symm
    ·have:=hmin j h;rw[←m1 j (by omega),hj.2]at this;cases this
   subst hij;unfold look;rw[e,e2];simp only[Option.map_some,g1 _ hi.1,g3 _ hi.1]
/-- Two packets of the same slice and part are one. -/
def noTwo (n:Nat) (x:Nat→Pkt):Prop:=∀ i j,i<n→j<n→(x i).fr=(x j).fr→(x i).row=(x j).row→(x i).part=(x j).part→x i=x j
theorem coll_turned {n:Nat} {x:Nat→Pkt} (h:noTwo n x) (f r:Int):coll (pkl n (fun i=>x (n-1-i))) f r=coll (pkl n x) f r:=by
 refine coll_look (fun p => ?_);rw[pkl_len,pkl_len];have g1:∀ i,i<n→kget (pkl n (fun i=>x (n-1-i))) i=x (n-1-i):=fun i hi=>kget_pkl _ hi
 have g3:∀ i,i<n→kget (pkl n x) i=x i:=fun i hi=>kget_pkl x hi
 have m1:∀ i,i<n→kmatch (pkl n (fun i=>x (n-1-i))) f r p i=kmatch (pkl n x) f r p (n-1-i):=fun i hi=>by unfold kmatch;rw[g1 i hi,g3 _ (by omega)]
 cases e:ffind (pkl n x) f r p n with
 | none =>
  have h0:=ffind_none' e;have h1:ffind (pkl n (fun i=>x (n-1-i))) f r p n=none:=ffind_none (fun i hi=>by rw[m1 i hi];exact h0 _ (by omega));unfold look;rw[e,h1];rfl
 | some i =>
  have hi:=ffind_lt e;cases e2:ffind (pkl n (fun i=>x (n-1-i))) f r p n with
  | none =>
   have:=ffind_none' e2 (n-1-i) (by omega);rw[m1 _ (by omega),show n-1-(n-1-i)=i by omega,hi.2]at this;cases this
  | some j =>
   have hj:=ffind_lt e2;have h2:=hj.2;rw[m1 j hj.1]at h2;have a:=kmatch_iff.1 hi.2;have b:=kmatch_iff.1 h2;rw[g3 i hi.1]at a;rw[g3 _ (by omega)]at b;have hx:=h i (n-1-j) hi.1 (by omega) (by rw[a.2.1,b.2.1]) (by rw[a.2.2.1,b.2.2.1]) (by rw[a.2.2.2,b.2.2.2]);unfold look;rw[e,e2];simp only[Option.map_some,g1 _ hj.1,g3 _ hi.1,hx]
theorem samePacket_yes (p q:Pkt) (a b:Option Addr) (c d:Nat) (w:World) (h1:Sl w a p.data.length (p.data.map (Value.int .u8))) (h2:Sl w b q.data.length (q.data.map (Value.int .u8))) (hp:bys p.data) (hq:bys q.data) :
 Calls Try.prog 13 #[.agg #[.int .i64 p.num,.int .i64 p.fr,.int .i64 p.row,.int .i64 p.part,.bool p.last,.slice a p.data.length c],.agg #[.int .i64 q.num,.int .i64 q.fr,.int .i64 q.row,.int .i64 q.part,.bool q.last,.slice b q.data.length d]] w fun e w'=>∃ r:Bool,e= .returned (.bool r)∧(r=true→p=q)∧Ext w w':=by
 have E1:=(Ext.alloc w (.cells #[.int .i64 p.num,.int .i64 p.fr,.int .i64 p.row,.int .i64 p.part,.bool p.last,.slice a p.data.length c] 32)).trans (Ext.alloc _ (.cells #[.int .i64 q.num,.int .i64 q.fr,.int .i64 q.row,.int .i64 q.part,.bool q.last,.slice b q.data.length d] 32));obtain⟨pn,pf,pr,pp,pl,pd⟩:=p;obtain⟨qn,qf,qr,qp,ql,qd⟩:=q;simp only at h1 h2 hp hq E1⊢;have hv1:=conv_any _ a _ c _ (h1.ext E1);have hv2:=conv_any _ b _ d _ (h2.ext E1);have B1:=(Ext.alloc (w.alloc (.cells #[.int .i64 pn,.int .i64 pf,.int .i64 pr,.int .i64 pp,.bool pl,.slice a pd.length c] 32)) (.cells #[.int .i64 qn,.int .i64 qf,.int .i64 qr,.int .i64 qp,.bool ql,.slice b qd.length d] 32)).blk (blk_new w (.cells #[.int .i64 pn,.int .i64 pf,.int .i64 pr,.int .i64 pp,.bool pl,.slice a pd.length c] 32));have B2:=blk_new (w.alloc (.cells #[.int .i64 pn,.int .i64 pf,.int .i64 pr,.int .i64 pp,.bool pl,.slice a pd.length c] 32)) (.cells #[.int .i64 qn,.int .i64 qf,.int .i64 qr,.int .i64 qp,.bool ql,.slice b qd.length d] 32);simp only[World.size_alloc]at B2;have HP:=Lib.hid hp;have HQ:=Lib.hid hq;clear h1 h2 hp hq;go_enter Try.func13,Try.ntmps13
 go_upto_region 1 with fail
 try simp only[World.size_alloc]
 generalize (w.alloc (.cells #[.int .i64 pn,.int .i64 pf,.int .i64 pr,.int .i64 pp,.bool pl,.slice a pd.length c] 32)).alloc (.cells #[.int .i64 qn,.int .i64 qf,.int .i64 qr,.int .i64 qp,.bool ql,.slice b qd.length d] 32)=w1 at *;obtain⟨z0,k0,k1,k2,k3,k4,k5⟩:=bx6 B1;obtain⟨z1,j0,j1,j2,j3,j4,j5⟩:=bx6 B2;obtain⟨B,hB⟩:∃ B,B=w.heap.size:=⟨_,rfl⟩;rw[←hB]at k0 k1 k2 k3 k4 k5 j0 j1 j2 j3 j4 j5⊢;clear hB B1 B2 z0 z1;have Hno:=Lib.hid (show ∀ r:Bool,r=false→∃ r':Bool,(Ending.returned (.bool r)) = .returned (.bool r')∧(r'=true→(⟨pn,pf,pr,pp,pl,pd⟩:Pkt)=⟨qn,qf,qr,qp,ql,qd⟩)∧Ext w w1 from fun r hr=>⟨r,rfl,(fun h=>by rw[hr]at h;cases h),E1⟩)
 by_cases c1:pn=qn
 case neg =>
  have d1:(pn == qn)=false:=by simpa using c1
  go_wp2;go_ret
  exact Hno.out _ rfl
 have d1:(pn == qn)=true:=by simpa using c1
 by_cases c2:pf=qf
 case neg =>
  have d2:(pf == qf)=false:=by simpa using c2
  clear c1;go_wp2;go_ret
  exact Hno.out _ rfl
 have d2:(pf == qf)=true:=by simpa using c2
 by_cases c3:pr=qr
 case neg =>
  have d3:(pr == qr)=false:=by simpa using c3
  clear c1 c2;go_wp2;go_ret
  exact Hno.out _ rfl
 have d3:(pr == qr)=true:=by simpa using c3
 by_cases c4:pp=qp
 case neg =>
  have d4:(pp == qp)=false:=by simpa using c4
  clear c1 c2 c3;go_wp2;go_ret
  exact Hno.out _ rfl
 have d4:(pp == qp)=true:=by simpa using c4
 by_cases c5:pl=ql
 case neg =>
  have d5:(pl == ql)=false:=by simpa using c5
  clear c1 c2 c3 c4;go_wp2;go_ret
  exact Hno.out _ rfl
 have d5:(pl == ql)=true:=by simpa using c5
 have HC:=Lib.hid (⟨c1,c2,c3,c4,c5⟩:_∧_∧_∧_∧_);clear c1 c2 c3 c4 c5;go_wp2;go_ret
 refine⟨_,rfl,fun h => ?_,E1⟩;obtain⟨h1,h2,h3,h4,h5⟩:=HC.out;have h6:=strOf_inj HP.out HQ.out (by simpa using h);rw[h1,h2,h3,h4,h5,h6]
end Go.Proofs.Ytphfacfjhjcllaa
