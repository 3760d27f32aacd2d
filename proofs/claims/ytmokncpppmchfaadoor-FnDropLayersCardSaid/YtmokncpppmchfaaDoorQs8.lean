/- From the reading of an argument to the walks' words. -/
import Derived.Test.YtmokncpppmchfaaDoorQs7
import Derived.ProofKit
import Derived.OpenShut
import Derived.ShutString
import Derived.ChangeOld
import Derived.Deep.Slices
import Derived.Lib.SmallJoins
set_option linter.unusedVariables false
set_option linter.unusedSimpArgs false
set_option maxRecDepth 100000
set_option maxHeartbeats 4000000
namespace Go.Proofs.YtmokncpppmchfaaDoor
open Go.RowKit Go.ChangeShapes Go.WideShapes
section
variable {H : Type} {enc : TypeId × Value → H} {P : Program} {w : World}
/-- The cells cs read as a value of type t. -/
def Cells (enc:TypeId×Value→H) (P:Program) (w:World) (t:TypeId) (cs:List Value):Prop :=
 ∃ fuel x,DataW.trod enc P w 0 (fun _=>true) true fuel t cs=some x
theorem Cells.of_trod {t:TypeId} {v:Value} {d:DataW H} {ps:List MemPlace} (h:DataW.Trod enc P w 0 (fun _=>true) true t v d ps):Cells enc P w t v.cells.toList:=by
 obtain⟨fuel,hf⟩:=h;exact⟨fuel,_,hf⟩
theorem Cells.int {t:TypeId} {k:IntKind} {cs:List Value} (h:Cells enc P w t cs) (ht:P.underlying t=some (.int k)):∃ n,cs = [.int k n]∧(Lit.int k n).wf=true:=by
 obtain⟨fuel,x,hf⟩:=h;obtain⟨n,h1,-,h2⟩:=DataW.trod_int ht hf;exact⟨n,h1,h2⟩
theorem Cells.bool {t:TypeId} {cs:List Value} (h:Cells enc P w t cs) (ht:P.underlying t=some .bool):∃ b,cs = [.bool b]:=by
 obtain⟨fuel,x,hf⟩:=h;obtain⟨n,h1,-⟩:=DataW.trod_bool ht hf;exact⟨n,h1⟩
theorem add_add (a:Addr) (i j:Nat):a.add (i+j)=(a.add i).add j:=by
 unfold Addr.add
 by_cases h1:i=0
 ·subst h1;simp
 ·by_cases h2:j=0
  ·subst h2;simp
  ·simp[h1,h2,Nat.add_assoc]
/-- A slice whose elements have c cells each: cell j of element i. -/
theorem Cells.slice {t e:TypeId} {c:Nat} {cs:List Value} (h:Cells enc P w t cs) (ht:P.underlying t=some (.slice e)) (hc:P.cellsOf e=c) :
 ∃ a n cap,cs = [.slice a n cap]∧(n≤cap∧cap≤maxLen)∧∀ i,i<n→∃ x es,a=some x∧es.length=c∧(∀ j,j<c→w.cell? (x.add (i*c+j))=es[j]?)∧Cells enc P w e es:=by
 subst hc;obtain⟨fuel,x,hf⟩:=h;rcases Deep.open_slice ht hf with⟨rfl,-⟩|⟨a,len,cap,m,n,D,Pl,rfl,-,hl,hm,hmm,-,hx⟩
 ·exact⟨none,0,0,rfl,⟨by omega,by simp⟩,fun i hi=>by omega⟩
 ·refine⟨some a,len,cap,rfl,⟨hl,hm⟩,fun i hi => ?_⟩;obtain⟨cs',h1,h2⟩:=hx i (by simp at hmm;omega);obtain⟨-,hlen,hcell⟩:=World.cells?_some h1;refine⟨a,cs',rfl,hlen,fun j hj => ?_,⟨n,_,h2⟩⟩;have:=hcell j hj;rw[←this,add_add]
theorem Cells.struct {t:TypeId} {fs:Array Field} {cs:List Value} (h:Cells enc P w t cs) (ht:P.underlying t=some (.struct fs)) :
 cs.length=P.cellsOf t∧∀(i:Nat) (f:Field),fs[i]?=some f→Cells enc P w f.type ((cs.drop f.offset).take (P.cellsOf f.type)):=by
 obtain⟨fuel,x,hf⟩:=h;obtain⟨xs,n,-,-,h1,h2,h3⟩:=DataW.trod_struct ht hf;refine⟨h1,fun i f hi => ?_⟩;have h4:=h3 i f hi;have hl:i<xs.length:=by
  rw[h2];exact(Array.getElem?_eq_some_iff.1 hi).1
 exact⟨n,xs[i],by rw[h4];simp[hl]⟩
theorem Cells.array {t e:TypeId} {n:Nat} {cs:List Value} (h:Cells enc P w t cs) (ht:P.underlying t=some (.array n e)) :
 cs.length=P.cellsOf t∧∀ i,i<n→Cells enc P w e ((cs.drop (i*P.cellsOf e)).take (P.cellsOf e)):=by
 obtain⟨fuel,x,hf⟩:=h;cases fuel with
 | zero=>simp[DataW.trod]at hf
 | succ m =>
  unfold DataW.trod at hf;rw[ht]at hf
  split at hf <;> simp_all
  obtain⟨hl,xs,hp,hd⟩:=hf;intro i hi;have h4:=mapM_some_get hp i i (by simp[hi]);have hl:i<xs.length:=by rw[mapM_some_length hp];simpa using hi
  exact⟨m,xs[i],by rw[h4];simp[hl]⟩
theorem Sl.of_add {a:Addr} {n:Nat} {xs:List Value} (hl:xs.length=n) (h:∀ i,i<n→w.cell? (a.add i)=some (xs.getD i undef)):Sl w (some a) n xs:=by
 refine⟨hl,fun i hi => ?_⟩;obtain⟨b,off,spot⟩:=a;have hc:=h 0 (by omega);have hs:spot=none:=by simpa [Addr.add] using World.cell?_spot hc
 subst hs;exact⟨b,off,rfl,by rw[←h i hi,Addr.add_lit]⟩
/-- A list out of a choice for each index. -/
theorem list_of {α:Type} (n:Nat) (p:Nat→α→Prop) (h:∀ i,i<n→∃ y,p i y):∃ ys:List α,ys.length=n∧∀ i (hi:i<ys.length),p i ys[i]:=by
 induction n with
 | zero=>exact⟨[],rfl,fun i hi=>by simp at hi⟩
 | succ n ih =>
  obtain⟨ys,hl,hy⟩:=ih (fun i hi=>h i (by omega));obtain⟨y,hp⟩:=h n (by omega);refine⟨ys ++ [y],by simp[hl],fun i hi => ?_⟩
  by_cases h1:i<ys.length
  ·rw[List.getElem_append_left h1];exact hy i h1
  ·have:i=n:=by simp at hi;omega
   subst this;rw[List.getElem_append_right (by omega)]
   simpa [hl] using hp
/-- A slice of one-cell elements. -/
theorem Cells.slice1 {t e:TypeId} {cs:List Value} (h:Cells enc P w t cs) (ht:P.underlying t=some (.slice e)) (hc:P.cellsOf e=1) :
 ∃ a n cap xs,cs = [.slice a n cap]∧(n≤cap∧cap≤maxLen)∧Sl w a n xs∧∀ x∈xs,Cells enc P w e [x]:=by
 obtain⟨a,n,cap,rfl,hn,hx⟩:=h.slice ht hc;obtain⟨ys,hl,hy⟩:=list_of (α:=Value) n (fun i y=>(∃ x,a=some x∧w.cell? (x.add i)=some y)∧Cells enc P w e [y]) (fun i hi=>by
  obtain⟨x,es,ha,h1,h2,h3⟩:=hx i hi
  match es,h1 with
  | [y],_=>exact⟨y,⟨x,ha,by simpa using h2 0 (by omega)⟩,h3⟩)
 refine⟨a,n,cap,ys,rfl,hn,?_,?_⟩
 ·cases a with
  | none =>
   refine⟨hl,fun i hi => ?_⟩;obtain⟨⟨x,hx,-⟩,-⟩:=hy i (by omega);simp at hx
  | some a =>
   refine Sl.of_add hl fun i hi => ?_
   obtain⟨⟨x,hx,hc⟩,-⟩:=hy i (by omega);simp only[Option.some.injEq]at hx;subst hx;rw[hc];simp[show i<ys.length by omega]
 ·intro x hx;obtain⟨i,hi,rfl⟩:=List.getElem_of_mem hx;exact(hy i hi).2
theorem map_of {α:Type} (C:α→Value) (p:α→Prop) (xs:List Value) (h:∀ x∈xs,∃ z,x=C z∧p z):∃ zs:List α,xs=zs.map C∧∀ z∈zs,p z:=by
 induction xs with
 | nil=>exact⟨[],rfl,fun z hz=>by simp at hz⟩
 | cons x xs ih =>
  obtain⟨zs,rfl,hz⟩:=ih (fun y hy=>h y (by simp[hy]));obtain⟨z,rfl,hp⟩:=h x (by simp);refine⟨z::zs,rfl,fun y hy => ?_⟩;rcases List.mem_cons.1 hy with rfl|hy
  ·exact hp
  ·exact hz y hy
theorem Cells.slice_int {t e:TypeId} {k:IntKind} {cs:List Value} (h:Cells enc P w t cs) (ht:P.underlying t=some (.slice e)) (he:P.underlying e=some (.int k)) (hc:P.cellsOf e=1) :
 ∃(a:Option Addr) (n cap:Nat) (zs:List Int),cs = [.slice a n cap]∧(n≤cap∧cap≤maxLen)∧Sl w a n (zs.map (Value.int k))∧∀ z∈zs,(Lit.int k z).wf=true:=by
 obtain⟨a,n,cap,xs,rfl,hn,s,hx⟩:=h.slice1 ht hc;obtain⟨zs,rfl,hz⟩:=map_of (Value.int k) (fun z=>(Lit.int k z).wf=true) xs (fun x hx'=>by
  obtain⟨z,h1,h2⟩:=(hx x hx').int he;exact⟨z,by simpa using h1,h2⟩)
 exact⟨a,n,cap,zs,rfl,hn,s,hz⟩
theorem Cells.slice_bool {t e:TypeId} {cs:List Value} (h:Cells enc P w t cs) (ht:P.underlying t=some (.slice e)) (he:P.underlying e=some .bool) (hc:P.cellsOf e=1) :
 ∃(a:Option Addr) (n cap:Nat) (zs:List Bool),cs = [.slice a n cap]∧(n≤cap∧cap≤maxLen)∧Sl w a n (zs.map Value.bool):=by
 obtain⟨a,n,cap,xs,rfl,hn,s,hx⟩:=h.slice1 ht hc;obtain⟨zs,rfl,-⟩:=map_of Value.bool (fun _=>True) xs (fun x hx'=>by
  obtain⟨z,h1⟩:=(hx x hx').bool he;exact⟨z,by simpa using h1,trivial⟩)
 exact⟨a,n,cap,zs,rfl,hn,s⟩
theorem open_sl_int {t e:TypeId} {k:IntKind} {v:Value} {d:DataW H} {ps:List MemPlace} (ht:P.underlying t=some (.slice e)) (he:P.underlying e=some (.int k)) (hc:P.cellsOf e=1)
 (hv:∃ a len cap,v= .slice a len cap) (h:DataW.Trod enc P w 0 (fun _=>true) true t v d ps) :
 ∃(a:Option Addr) (n c:Nat) (zs:List Int),v= .slice a n c∧Sl w a n (zs.map (Value.int k))∧(n≤c∧c≤maxLen)∧∀ z∈zs,(Lit.int k z).wf=true:=by
 obtain⟨a,n,c,rfl⟩:=hv;obtain⟨a',n',c',zs,h1,h2,h3,h4⟩:=(Cells.of_trod h).slice_int ht he hc;simp[Value.cells]at h1;obtain⟨rfl,rfl,rfl⟩:=h1;exact⟨a,n,c,zs,rfl,h3,h2,h4⟩
theorem open_sl_bool {t e:TypeId} {v:Value} {d:DataW H} {ps:List MemPlace} (ht:P.underlying t=some (.slice e)) (he:P.underlying e=some .bool) (hc:P.cellsOf e=1)
 (hv:∃ a len cap,v= .slice a len cap) (h:DataW.Trod enc P w 0 (fun _=>true) true t v d ps) :
 ∃(a:Option Addr) (n c:Nat) (zs:List Bool),v= .slice a n c∧Sl w a n (zs.map Value.bool)∧(n≤c∧c≤maxLen):=by
 obtain⟨a,n,c,rfl⟩:=hv;obtain⟨a',n',c',zs,h1,h2,h3⟩:=(Cells.of_trod h).slice_bool ht he hc;simp[Value.cells]at h1;obtain⟨rfl,rfl,rfl⟩:=h1;exact⟨a,n,c,zs,rfl,h3,h2⟩
end
end Go.Proofs.YtmokncpppmchfaaDoor
