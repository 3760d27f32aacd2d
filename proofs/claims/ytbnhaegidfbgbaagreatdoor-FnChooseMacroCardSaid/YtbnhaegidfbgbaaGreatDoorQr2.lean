/- append onto a row of the call's own keeps each row no longer than it. | Arrays and structs of integers as values and as blocks: load, store, index, equality, whatever their length. | Pictures copied, both sides. | Drawing: the arguments of the buffer's laws. | Macroblocks: their validity, plain; blocks within a bound; vectors. | Equality of arrays of integers (nested too); zero arrays. | Macroblocks: what is valid; the program's and the reference's tests. | Copies of macroblocks. | Drawing: vectors, blocks. | Drawing: blocks of levels. | Drawing: macroblocks. -/
import Derived.Test.YtbnhaegidfbgbaaGreatDoorQr1
import Derived.ChangeKeysEq
import Derived.Laws.Tables
import Derived.Deep.Cut
import Derived.Laws.StructEq
import Derived.Deep.CutRange
set_option linter.unusedVariables false
set_option linter.unusedSimpArgs false
set_option maxRecDepth 100000
set_option maxHeartbeats 4000000
namespace Go.Proofs.YtbnhaegidfbgbaaGreatDoor
open Go.RowKit
section
variable {P : Program} (w : World)
theorem run_append_keep (base:Nat) (t ty e:TypeId) (i:TypeInfo) (z:Value) (size bytes:Nat) (ht:P.underlying t=some (.slice e)) (hi:P.info? e=some i) (hz:i.zero=some z)
 (hsize:i.size=size) (hby:i.bytes=bytes) (hzs:z.cells.size=size) (hsz:0<size)
 (v:Value) (n:Nat) (xs:List Value) (hown:w.ownsRow base e size v n xs)
 (a:Addr) (m c:Nat) (news:List Value) (hl:news.length=m*size) (hnews:∀ j u,news[j]?=some u→w.cell? (a.add j)=some u) (h1:∀ u∈news,u.oneCell'=true)
 (h63:n+m≤maxLen) (hbytes:(n+m)*bytes≤140737488355328) (hbase:base≤w.heap.size) :
 ∃ v' w',(Builtin.append_ #[t,t] ty #[v,.slice (some a) m c]).run P w= .ok v' w'∧w'.ownsRow base e size v' (n+m) (xs++news)∧w.grownBy w' v.ownBlock ∧
  (∀ b' n' own xs',n'≤n→w.ownsRow b' e size own n' xs'→w'.ownsRow b' e size own n' xs'):=by
 obtain⟨v',w',hr,h2,h3,-⟩:=run_append_own (P:=P) w base t ty e i z size bytes ht hi hz hsize hby hzs hsz v n xs hown a m c news hl hnews h1 h63 hbytes hbase;refine⟨v',w',hr,h2,h3,fun b' n' own xs' hn' ho => ?_⟩
 by_cases hne:own.ownBlock=none∨own.ownBlock≠v.ownBlock
 ·exact ho.kept h3 hne
 ·have hsm:n+m≤9223372036854775807:=by simp only[maxLen]at h63;omega
  rcases id hown.2 with⟨rfl,rfl⟩|⟨g,cap,cur,rfl,hbg,hg,hnc,hcm,hcs,htake⟩
  ·exact absurd (show own.ownBlock=none∨_ from by
    cases h:own.ownBlock with
    | none=>exact .inl rfl
    | some q=>exact .inr (by simp[Value.ownBlock])) hne
  ·subst hsize
   by_cases hroom:n+m≤cap
   ·have hfit:n*i.size+news.length≤cur.size:=by rw[hl,hcs,←Nat.add_mul];exact Nat.mul_le_mul_right _ hroom
    have hr2:=run_append_room (P:=P) w t ty e i ht hi g n cap cur hg a m c news hl hnews h1 hroom hfit;rw[hr]at hr2;simp only[Result.ok.injEq]at hr2;obtain⟨-,rfl⟩:=hr2;rcases id ho.2 with⟨rfl,-⟩|⟨g',cap',cur',rfl,hb',hg',hnc',hcm',hcs',htake'⟩
    ·exact absurd (.inl rfl) hne
    ·have hgg:g'=g:=by
      have : ¬ (some g':Option Nat)≠some g:=fun h=>hne (.inr h)
      simpa using this
     subst hgg;rw[hg]at hg';simp only[Option.some.injEq,Obj.cells.injEq,and_true]at hg';subst hg';refine⟨ho.1,.inr ⟨g',cap',_,rfl,hb',setRow_heap w g' cur _ e _ hg,hnc',hcm',?_,?_⟩⟩
     ·simp only[List.size_toArray,List.length_append,List.length_take,List.length_drop,Array.length_toList];omega
     ·have hle:n'*i.size≤n*i.size:=Nat.mul_le_mul_right _ hn';have hlen:(cur.toList.take (n*i.size)).length=n*i.size:=by
       rw[List.length_take,Array.length_toList];omega
      rw[List.toList_toArray,List.append_assoc,List.take_append_of_le_length (by rw[hlen];exact hle),List.take_take,Nat.min_eq_left hle];exact htake'
   ·have holds:∀ j u,xs[j]?=some u→w.cell? ((⟨g,0,none⟩:Addr).add j)=some u:=hown.cells (g:=g) rfl;have hr2:=run_append_grow (P:=P) w t ty e i z ht hi hz ⟨g,0,none⟩ n cap xs hown.1 holds a m c news hl hnews (by omega) (by omega) (growslice_fits (by omega) (by rw[hby];exact hbytes));rw[hr]at hr2;simp only[Result.ok.injEq]at hr2;obtain⟨-,rfl⟩:=hr2;exact ho.kept (row:=none) ⟨rfl,rfl,rfl,by simp,fun k hk _=>(World.grownBy_alloc w.drew _ none).block k hk (by simp)⟩ (by cases own.ownBlock <;> simp)
/-- an operation that is wanted. -/
theorem wpList_want {ops:Array Oper} {rest:List Oper} {o:Oper} {a:Act} {Q:Exit→Act→World→Prop} {w:World} (hw:Region.wanted o (yielded ops a.tmps)=true)
 (h:∀ K:Act→World→Prop,(∀ a w,wpList P ops Q rest a w→K a w)→o.wp P a w K Q):wpList P ops Q (o::rest) a w :=
 wpList_step fun K hK=>by rw[if_pos hw];exact h K hK
theorem wpList_appk {ops:Array Oper} {rest:List Oper} {o:Oper} {a:Act} {Q:Exit→Act→World→Prop} {base e size:Nat} {v:Value} {n:Nat} {xs:List Value}
 (hw:Region.wanted o (yielded ops a.tmps)=true)
 (hown:w.ownsRow base e size v n xs) (hbase:base≤w.heap.size)
 (s x:Operand) (t:TypeId) (ho:o.op= .call { callee := .builtin .append,args := #[s,x],argTypes := #[t,t] })
 (z:Value) (bytes:Nat) (h1:P.underlying t=some (.slice e)) (h2:(P.info? e).map (fun i=>(i.zero,i.size,i.bytes))=some (some z,size,bytes)) (hz1:z.cells.size=size) (hsz:0<size)
 (hs:a.eval s=v) (ad:Addr) (m c:Nat) (us:List Value) (hx:a.eval x= .slice (some ad) m c) (hl:us.length=m*size) (hcell:∀(j:Nat) q,us[j]?=some q→w.cell? (ad.add j)=some q) (hu1:∀ u∈us,u.oneCell'=true)
 (hb:(n+m)*bytes≤140737488355328) (hn:n+m<2^62)
 (h:∀ v' w',w'.ownsRow base e size v' (n+m) (xs++us)→w.grownBy w' v.ownBlock→(∀ b' n' own xs',n'≤n→w.ownsRow b' e size own n' xs'→w'.ownsRow b' e size own n' xs')→wpList P ops Q rest (a.put o.dst v') w'):wpList P ops Q (o::rest) a w:=by
 obtain⟨i0,hi,hz0,hz1',hz2⟩:=info_parts h2;obtain⟨v',w',hr,k2,k3,k4⟩:=run_append_keep (P:=P) w base t o.type e i0 z size bytes h1 hi hz0 hz1' hz2 hz1 hsz v n xs hown ad m c us hl hcell hu1 (by unfold maxLen;omega) hb hbase;refine wpList_want hw fun K hK => ?_
 unfold Oper.wp execOp;simp only[ho,resolve,invoke,builtin,Sem.run_bind,Sem.run_pure,Result.andThen_ok,List.map_toArray,List.map_cons,List.map_nil,hs,hx,hr];exact hK _ _ (h v' w' k2 k3 k4)
/-- append that does not fit. -/
theorem wpList_appn {ops:Array Oper} {rest:List Oper} {o:Oper} {a:Act} {Q:Exit→Act→World→Prop} {base e size g cap:Nat} {n:Nat} {xs:List Value}
 (hw:Region.wanted o (yielded ops a.tmps)=true)
 (hown:w.ownsRow base e size (.slice (some ⟨g,0,none⟩) n cap) n xs) (hbase:base≤w.heap.size)
 (s x:Operand) (t:TypeId) (ho:o.op= .call { callee := .builtin .append,args := #[s,x],argTypes := #[t,t] })
 (z:Value) (bytes:Nat) (h1:P.underlying t=some (.slice e)) (h2:(P.info? e).map (fun i=>(i.zero,i.size,i.bytes))=some (some z,size,bytes)) (hz1:z.cells.size=size) (hsz:0<size)
 (hs:a.eval s= .slice (some ⟨g,0,none⟩) n cap) (ad:Addr) (m c:Nat) (us:List Value) (hx:a.eval x= .slice (some ad) m c) (hl:us.length=m*size) (hcell:∀(j:Nat) q,us[j]?=some q→w.cell? (ad.add j)=some q) (hu1:∀ u∈us,u.oneCell'=true)
 (hb:(n+m)*bytes≤140737488355328) (hn:n+m<2^62) (hcap:cap<n+m)
 (h:∀ v' w',w'.ownsRow base e size v' (n+m) (xs++us)→Ext w w'→wpList P ops Q rest (a.put o.dst v') w'):wpList P ops Q (o::rest) a w:=by
 obtain⟨i0,hi,hz0,hz1',hz2⟩:=info_parts h2;obtain⟨v',w',hr,k2,k3,k4⟩:=run_append_keep (P:=P) w base t o.type e i0 z size bytes h1 hi hz0 hz1' hz2 hz1 hsz _ n xs hown ad m c us hl hcell hu1 (by unfold maxLen;omega) hb hbase;have hE:Ext w w':=by
  subst hz1';have holds:∀ j u,xs[j]?=some u→w.cell? ((⟨g,0,none⟩:Addr).add j)=some u:=hown.cells (g:=g) rfl;have hr2:=run_append_grow (P:=P) w t o.type e i0 z h1 hi hz0 ⟨g,0,none⟩ n cap xs hown.1 holds ad m c us hl hcell (by omega) (by omega) (growslice_fits (by omega) (by rw[hz2];exact hb));rw[hr]at hr2;simp only[Result.ok.injEq]at hr2;obtain⟨-,rfl⟩:=hr2;exact(Ext.drewN w 1).trans (Ext.alloc _ _)
 refine wpList_want hw fun K hK => ?_
 unfold Oper.wp execOp;simp only[ho,resolve,invoke,builtin,Sem.run_bind,Sem.run_pure,Result.andThen_ok,List.map_toArray,List.map_cons,List.map_nil,hs,hx,hr];exact hK _ _ (h v' w' k2 hE)
end
end Go.Proofs.YtbnhaegidfbgbaaGreatDoor
namespace Go.Proofs.YtbnhaegidfbgbaaGreatDoor
open Go.RowKit
/-- The cells of a list of integers. -/
def ic (zs:List Int):Array Value:=(zs.map (Value.int .i64)).toArray
theorem ic_size (zs:List Int):(ic zs).size=zs.length:=by simp[ic]
theorem ic_toList (zs:List Int):(ic zs).toList=zs.map (Value.int .i64):=by simp[ic]
theorem ic_get (zs:List Int) (i:Nat) (h:i<zs.length):(ic zs)[i]?=some (.int .i64 (nth zs i)):=by simp[ic,nth,h]
/-- n of zs from off on. -/
def sub (zs:List Int) (off n:Nat):List Int:=(zs.drop off).take n
theorem sub_len (zs:List Int) (off n:Nat) (h:off+n≤zs.length):(sub zs off n).length=n:=by simp[sub];omega
theorem sub_all (zs:List Int) (n:Nat) (h:zs.length=n):sub zs 0 n=zs:=by subst h;simp[sub]
theorem nth_sub (zs:List Int) (off n i:Nat) (h:i<n):nth (sub zs off n) i=nth zs (off+i):=by
 simp[nth,sub,List.getD,List.getElem?_take,h,List.getElem?_drop]
theorem sub_one (zs:List Int) (i:Nat) (h:i<zs.length):sub zs i 1 = [nth zs i]:=by
 refine List.ext_getElem (by simp[sub];omega) fun j h1 h2 => ?_
 have:j=0:=by simp at h2;omega
 subst this;simp[sub,nth,h]
theorem ic_extract (zs:List Int) (off n:Nat):(ic zs).extract off (off+n)=ic (sub zs off n):=by
 apply Array.toList_inj.1;rw[ic_toList];simp[ic,sub,List.extract,List.map_take,List.map_drop]
/-- ys laid over zs from off on. -/
def spl (zs:List Int) (off:Nat) (ys:List Int):List Int:=zs.take off++ys++zs.drop (off+ys.length)
theorem spl_len {zs ys:List Int} {off:Nat} (h:off+ys.length≤zs.length):(spl zs off ys).length=zs.length:=by simp[spl];omega
theorem spl_all {zs ys:List Int} (h:ys.length=zs.length):spl zs 0 ys=ys:=by simp[spl,h]
theorem spl_nil (zs:List Int) (off:Nat):spl zs off []=zs:=by simp[spl]
theorem spl_cons {zs ys:List Int} {off:Nat} {y:Int} (h:off<zs.length):spl (zs.set off y) (off+1) ys=spl zs off (y::ys):=by
 unfold spl;rw[List.take_set,List.drop_set_of_lt (by omega),List.take_succ_eq_append_getElem h,List.set_append_right _ _ (by simp;omega)];have e:off-(List.take off zs).length=0:=by simp;omega
 rw[e];simp[Nat.add_assoc,Nat.add_comm 1]
theorem nth_spl_in {zs ys:List Int} {off i:Nat} (h:off+ys.length≤zs.length) (h1:off≤i) (h2:i<off+ys.length):nth (spl zs off ys) i=nth ys (i-off):=by
 have hl:(List.take off zs).length=off:=by simp;omega
 unfold nth spl;rw[List.append_assoc,List.getD_eq_getElem?_getD,List.getElem?_append_right (by rw[hl];exact h1),hl,List.getElem?_append_left (by omega),←List.getD_eq_getElem?_getD]
theorem nth_spl_out {zs ys:List Int} {off i:Nat} (h:off+ys.length≤zs.length) (h1:i<off∨off+ys.length≤i):nth (spl zs off ys) i=nth zs i:=by
 have hl:(List.take off zs).length=off:=by simp;omega
 unfold nth spl;rw[List.append_assoc];rcases h1 with h1|h1
 ·rw[List.getD_eq_getElem?_getD,List.getElem?_append_left (by rw[hl];exact h1),List.getElem?_take_of_lt h1,←List.getD_eq_getElem?_getD]
 ·rw[List.getD_eq_getElem?_getD,List.getElem?_append_right (by rw[hl];omega),hl,List.getElem?_append_right (by omega),List.getElem?_drop,←List.getD_eq_getElem?_getD]
  congr 1;omega
theorem nth_set_same (zs:List Int) (i:Nat) (v:Int) (h:i<zs.length):nth (zs.set i v) i=v:=by simp[nth,h]
theorem nth_set_ne (zs:List Int) (i j:Nat) (v:Int) (h:i≠j):nth (zs.set i v) j=nth zs j:=by simp[nth,List.getD,h]
/-- Block b holds just the integers zs. -/
def IB (w:World) (b T:Nat) (zs:List Int):Prop:=w.heap[b]?=some (.cells (ic zs) T (0,0))
theorem IB.lt {w:World} {b T:Nat} {zs:List Int} (h:IB w b T zs):b<w.heap.size:=lt_of_block h
theorem IB.cell {w:World} {b T:Nat} {zs:List Int} (h:IB w b T zs) {i:Nat} (hi:i<zs.length):w.cell? ⟨b,i,none⟩=some (.int .i64 (nth zs i)):=by
 have:w.heap[b]?=some (.cells (ic zs) T (0,0)):=h;simp only[World.cell?,this]
 simpa using ic_get zs i hi
theorem IB.frozen {w:World} {b T:Nat} {zs:List Int} (h:IB w b T zs) (i:Nat):w.frozen? ⟨b,i,none⟩=false:=by
 have:w.heap[b]?=some (.cells (ic zs) T (0,0)):=h;simp[World.frozen?,this]
theorem IB.ext {w w':World} {b T:Nat} {zs:List Int} (h:IB w b T zs) (e:Ext w w'):IB w' b T zs:=e.blk h
theorem IB.alloc {w:World} {b T:Nat} {zs:List Int} (h:IB w b T zs) (o:Obj):IB (w.alloc o) b T zs:=blk_alloc h o
theorem IB.new (w:World) (T:Nat) (zs:List Int):IB (w.alloc (.cells (ic zs) T)) w.heap.size T zs:=blk_new w _
theorem IB.gr {w w':World} {b T:Nat} {zs:List Int} {row:Option Nat} (h:IB w b T zs) (g:w.grownBy w' row) (hne:row≠some b):IB w' b T zs:=blk_gr h g hne
theorem IB.drewN {w:World} {b T:Nat} {zs:List Int} (h:IB w b T zs) (n:Nat):IB (w.drewN n) b T zs:=h
theorem IB.set {w:World} {b T:Nat} {zs:List Int} (h:IB w b T zs) (i:Nat) (v:Int):IB (w.setCell ⟨b,i,none⟩ (.int .i64 v)) b T (zs.set i v):=by
 have h1:=heap_setCell_same w b i (ic zs) T (.int .i64 v) h;have h2:(ic zs).setIfInBounds i (.int .i64 v)=ic (zs.set i v):=by
  apply Array.toList_inj.1;rw[ic_toList,Array.toList_setIfInBounds,ic_toList,List.map_set]
 rw[h2]at h1;exact h1
theorem IB.set_other {w:World} {b c i T:Nat} {v:Value} {zs:List Int} (h:IB w b T zs) (hne:b≠c):IB (w.setCell ⟨c,i,none⟩ v) b T zs:=blk_set_other h hne
theorem gr_set (w:World) (B i:Nat) (v:Value):w.grownBy (w.setCell ⟨B,i,none⟩ v) (some B):=⟨rfl,rfl,rfl,by simp,fun k _ hk=>heap_setCell_other w ⟨B,i,none⟩ k v (fun e=>hk (by simp[e]))⟩
section
variable {P : Program}
theorem wpList_wanted {ops:Array Oper} {rest:List Oper} {o:Oper} {a:Act} {Q:Exit→Act→World→Prop} {w:World} (hw:Region.wanted o (yielded ops a.tmps)=true)
 (h:∀ K:Act→World→Prop,(∀ a w,wpList P ops Q rest a w→K a w)→o.wp P a w K Q):wpList P ops Q (o::rest) a w :=
 wpList_step fun K hK=>by rw[if_pos hw];exact h K hK
theorem isAgg_of {ty:TypeId} {d:TypeDesc} (w:World) (hu:P.underlying ty=some d) (hd:(match d with | .struct _ | .array _ _=>true|_=>false)=true):(isAgg ty).run P w= .ok true w:=by
 unfold isAgg;rw[Sem.run_bind,run_underlying hu w];cases d <;> simp_all
theorem run_loadVar_ib (w:World) {b T:Nat} {zs:List Int} (h:IB w b T zs) (ty:TypeId) (off n:Nat) (d:TypeDesc) (hu:P.underlying ty=some d) (hd:(match d with | .struct _ | .array _ _=>true|_=>false)=true) (hi:(P.info? ty).map (·.size)=some n) (hb:off+n≤zs.length) :
 (loadVar ty ⟨b,off,none⟩).run P w= .ok (.agg (ic (sub zs off n))) w:=by
 have hl:(loadCells ⟨b,off,none⟩ ((sub zs off n).map (Value.int .i64)).length).run P w= .ok ((sub zs off n).map (Value.int .i64)).toArray w :=
  run_loadCells_list (P:=P) w ⟨b,off,none⟩ _ (fun j v hv=>by
   have hj:j<n:=by
    have:=(List.getElem?_eq_some_iff.1 hv).1;simp[sub]at this;omega
   have hadd:(⟨b,off,none⟩:Addr).add j=⟨b,off+j,none⟩:=by rw[Addr.add_lit]
   rw[hadd,h.cell (by omega)];have e:((sub zs off n).map (Value.int .i64))[j]?=some (.int .i64 (nth (sub zs off n) j)):=by
    have:j<(sub zs off n).length:=by rw[sub_len _ _ _ hb];exact hj
    simp[nth,this]
   rw[e,nth_sub _ _ _ _ hj]at hv;exact hv)
 cases hq:P.info? ty with
 | none=>simp[hq]at hi
 | some i =>
  have hs:i.size=n:=by simpa [hq] using hi
  rw[List.length_map,sub_len _ _ _ hb]at hl;simp[loadVar,Sem.run_bind,isAgg_of w hu hd,sizeOf,typeInfo,hq,hs,hl,ic]
/-- x := *p, p at off in a block of integers, the type an array or a struct of n cells. -/
theorem wpList_iload {ops:Array Oper} {rest:List Oper} {o:Oper} {a:Act} {w:World} {Q:Exit→Act→World→Prop} (ty:TypeId) (x:Operand) (ho:o.op= .load ty x) (hgd:Region.wanted o (yielded ops a.tmps)=true)
 {b T:Nat} {zs:List Int} (h:IB w b T zs) (off n:Nat) (hx:a.eval x= .pointer (some ⟨b,off,none⟩)) (d:TypeDesc)
 (hu:P.underlying ty=some d) (hd:(match d with | .struct _ | .array _ _=>true|_=>false)=true) (hi:(P.info? ty).map (·.size)=some n) (hb:off+n≤zs.length) (cs:Array Value) (hc:ic (sub zs off n)=cs)
 (hK:wpList P ops Q rest (a.put o.dst (.agg cs)) w):wpList P ops Q (o::rest) a w:=by
 subst hc;refine wpList_wanted hgd fun _ hK' => ?_
 unfold Oper.wp execOp;simp only[ho,hx,Instr.loadAt,Instr.sureAddr,Sem.run_bind,Sem.run_pure,Result.andThen_ok,run_loadVar_ib w h ty off n d hu hd hi hb];exact hK' _ _ hK
theorem run_storeCells_ib {b T off:Nat} : ∀(ys:List Int) (i:Nat) (zs:List Int) (w:World),IB w b T zs→off+i+ys.length≤zs.length →
 ∃ w',(storeCells ⟨b,off,none⟩ (ys.map (Value.int .i64)) i).run P w= .ok () w'∧IB w' b T (spl zs (off+i) ys)∧w.grownBy w' (some b)
 | [],i,zs,w,h,hl=>⟨w,by simp[storeCells],by rw[spl_nil];exact h,World.grownBy.refl _ _⟩
 | y::ys,i,zs,w,h,hl=>by
  have hlt:off+i<zs.length:=by simp at hl;omega
  have hadd:(⟨b,off,none⟩:Addr).add i=⟨b,off+i,none⟩:=by rw[Addr.add_lit]
  have hst:(store ((⟨b,off,none⟩:Addr).add i) (.int .i64 y)).run P w= .ok () (w.setCell ⟨b,off+i,none⟩ (.int .i64 y)):=by
   rw[hadd,run_store P w _ (.int .i64 y) _ rfl,h.cell hlt];simp[h.frozen]
  obtain⟨w',h1,h2,h3⟩:=run_storeCells_ib (off:=off) ys (i+1) (zs.set (off+i) y) _ (h.set (off+i) y) (by simp at hl⊢;omega);refine⟨w',?_,?_,grownBy_trans (gr_set _ _ _ _) h3⟩
  ·simp only[List.map_cons,storeCells,Sem.run_bind,hst,Result.andThen_ok,h1]
  ·rw[←spl_cons hlt];exact h2
/-- *p = y. -/
theorem wpList_istore {ops:Array Oper} {rest:List Oper} {o:Oper} {a:Act} {w:World} {Q:Exit→Act→World→Prop} (ty:TypeId) (x y:Operand) (ho:o.op= .store ty x y) (hgd:Region.wanted o (yielded ops a.tmps)=true)
 {b T:Nat} {zs:List Int} (h:IB w b T zs) (off n:Nat) (hx:a.eval x= .pointer (some ⟨b,off,none⟩)) (cs:Array Value) (hy:a.eval y= .agg cs) (ys:List Int) (hc:cs=ic ys)
 (hi:(P.info? ty).map (·.size)=some n) (hn:ys.length=n) (hb:off+n≤zs.length)
 (hK:∀ w',IB w' b T (spl zs off ys)→w.grownBy w' (some b)→wpList P ops Q rest (a.put o.dst undef) w'):wpList P ops Q (o::rest) a w:=by
 subst hc hn;refine wpList_wanted hgd fun _ hK' => ?_
 obtain⟨w',h1,h2,h3⟩:=run_storeCells_ib (P:=P) (off:=off) ys 0 zs w h (by omega);have hs:(storeVar ty ⟨b,off,none⟩ (.agg (ic ys))).run P w= .ok () w':=by
  cases hq:P.info? ty with
  | none=>simp[hq]at hi
  | some i =>
   have hs:i.size=ys.length:=by simpa [hq] using hi
   simp[storeVar,sizeOf,typeInfo,hq,Value.cells,hs,ic_size,ic_toList,h1]
 unfold Oper.wp execOp;simp only[ho,hx,hy,Instr.storeAt,Instr.sureAddr,Sem.run_bind,Sem.run_pure,Result.andThen_ok,hs];exact hK' _ _ (hK w' h2 h3)
/-- a[i], a an array value of integers. -/
theorem wpList_iindex {ops:Array Oper} {rest:List Oper} {o:Oper} {a:Act} {w:World} {Q:Exit→Act→World→Prop} (t:TypeId) (x ix:Operand) (ho:o.op= .index t x ix) (hgd:Region.wanted o (yielded ops a.tmps)=true)
 (zs:List Int) (hx:a.eval x= .agg (ic zs)) (k len:Nat) (z:Int) (hix:a.eval ix= .int .i64 z) (hz:z=(k:Int)) (e:TypeId) (hu:P.underlying t=some (.array len e)) (he:P.underlying e=some (.int .i64)) (hi:(P.info? e).map (·.size)=some 1) (hk:k<len) (hl:zs.length=len)
 (hK:wpList P ops Q rest (a.put o.dst (.int .i64 (nth zs k))) w):wpList P ops Q (o::rest) a w:=by
 subst hz;refine wpList_wanted hgd fun _ hK' => ?_
 have hag:(isAgg e).run P w= .ok false w:=by
  unfold isAgg;rw[Sem.run_bind,run_underlying he w];simp
 have hrun:(Instr.index t (.agg (ic zs)) (.int .i64 (k:Int))).run P w= .ok (.int .i64 (nth zs k)) w:=by
  cases hq:P.info? e with
  | none=>simp[hq]at hi
  | some i =>
   have hs:i.size=1:=by simpa [hq] using hi
   have h1:=ic_get zs k (by omega);simp[Instr.index,asIntOf,run_underlying hu,hk,sizeOf,typeInfo,hq,hs,part,Sem.run_bind,hag,h1]
 unfold Oper.wp execOp;simp only[ho,hx,hix,hrun,Sem.run_bind,Result.andThen_ok];exact hK' _ _ hK
/-- a[i], a an array value of arrays of m integers. -/
theorem wpList_iindexa {ops:Array Oper} {rest:List Oper} {o:Oper} {a:Act} {w:World} {Q:Exit→Act→World→Prop} (t:TypeId) (x ix:Operand) (ho:o.op= .index t x ix) (hgd:Region.wanted o (yielded ops a.tmps)=true)
 (zs:List Int) (hx:a.eval x= .agg (ic zs)) (k len m:Nat) (z:Int) (hix:a.eval ix= .int .i64 z) (hz:z=(k:Int)) (e:TypeId) (d:TypeDesc) (hu:P.underlying t=some (.array len e)) (he:P.underlying e=some d) (hd:(match d with | .struct _ | .array _ _=>true|_=>false)=true) (hi:(P.info? e).map (·.size)=some m) (hk:k<len)
 (hK:wpList P ops Q rest (a.put o.dst (.agg (ic (sub zs (k*m) m)))) w):wpList P ops Q (o::rest) a w:=by
 subst hz;refine wpList_wanted hgd fun _ hK' => ?_
 have hag:=isAgg_of w he hd;have hrun:(Instr.index t (.agg (ic zs)) (.int .i64 (k:Int))).run P w= .ok (.agg (ic (sub zs (k*m) m))) w:=by
  cases hq:P.info? e with
  | none=>simp[hq]at hi
  | some i =>
   have hs:i.size=m:=by simpa [hq] using hi
   have h1:=ic_extract zs (k*m) m;simp[Instr.index,asIntOf,run_underlying hu,hk,sizeOf,typeInfo,hq,hs,part,Sem.run_bind,hag,h1]
 unfold Oper.wp execOp;simp only[ho,hx,hix,hrun,Sem.run_bind,Result.andThen_ok];exact hK' _ _ hK
end
end Go.Proofs.YtbnhaegidfbgbaaGreatDoor
namespace Go.Proofs.YtbnhaegidfbgbaaGreatDoor
open Go.RowKit
theorem one_i64 (zs:List Int):∀ u∈zs.map (Value.int .i64),u.oneCell'=true:=by
 intro u hu;obtain⟨z,-,rfl⟩:=List.mem_map.1 hu;rfl
theorem ext_noneP {w w':World} {r:Option Nat} (g:w.grownBy w' r) (hr:r=none):Ext w w':=Ext.grown (Below.refl _ _) g (fun k hk=>by rw[hr]at hk;cases hk)
theorem clone_any (W H:Int) (a:Option Addr) (c n:Nat) (zs:List Int) (w:World) (hn:n<2^40) (r:Sl w a n (zs.map (Value.int .i64))) :
 Calls Tryz.prog 45 #[.agg #[.int .i64 W,.int .i64 H,.slice a n c]] w fun e w'=>∃ a' c',e= .returned (.agg #[.int .i64 W,.int .i64 H,.slice a' n c'])∧w'.ownsRow w.heap.size 3 1 (.slice a' n c') n (zs.map (Value.int .i64))∧Ext w w':=by
 have p0:=blk_alloc (blk_new w (.cells #[.int .i64 W,.int .i64 H,.slice a n c] 25)) (.cells #[.int .i64 0,.int .i64 0,.slice none 0 0] 25);have r0:=blk_new (w.alloc (.cells #[.int .i64 W,.int .i64 H,.slice a n c] 25)) (.cells #[.int .i64 0,.int .i64 0,.slice none 0 0] 25);have E0:=(Ext.alloc w (.cells #[.int .i64 W,.int .i64 H,.slice a n c] 25)).trans (Ext.alloc _ (.cells #[.int .i64 0,.int .i64 0,.slice none 0 0] 25));have hs:((w.alloc (.cells #[.int .i64 W,.int .i64 H,.slice a n c] 25)).alloc (.cells #[.int .i64 0,.int .i64 0,.slice none 0 0] 25)).heap.size=w.heap.size+1+1:=by simp
 simp only[World.size_alloc]at r0;go_enter Tryz.func45,Tryz.ntmps45
 go_upto_region 1 with fail
 try simp only[World.size_alloc]
 generalize (w.alloc (.cells #[.int .i64 W,.int .i64 H,.slice a n c] 25)).alloc (.cells #[.int .i64 0,.int .i64 0,.slice none 0 0] 25)=w0 at *;obtain⟨B,hB⟩:∃ B,B=w.heap.size:=⟨_,rfl⟩;rw[←hB]at p0 r0 hs⊢;have HB:=Lib.hid hB;have hsz:B+2≤w0.heap.size:=by omega
 have hwB:w.heap.size≤B:=by omega
 clear hB hs;have hext:Stab (fun wa wb=>Ext wa wb) (fun i own ys wx=>match i with|0=>own= .pointer (some ⟨B,0,none⟩)|1=>own= .int .i64 W|2=>own= .pointer (some ⟨B,1,none⟩)|3=>own= .int .i64 H|4=>own= .pointer (some ⟨B,2,none⟩)|5=>own= .slice a n c|6=>∃(a1:Option Addr) (c1:Nat),own= .slice a1 n c1∧wx.ownsRow (B+2) 3 1 (.slice a1 n c1) n (zs.map (Value.int .i64))|7=>∃(a1:Option Addr) (c1:Nat),own= .agg #[.int .i64 W,.int .i64 H,.slice a1 n c1]∧wx.ownsRow (B+2) 3 1 (.slice a1 n c1) n (zs.map (Value.int .i64))|8=>∃(a1:Option Addr) (c1:Nat),wx.heap[B+1]?=some (.cells #[.int .i64 W,.int .i64 H,.slice a1 n c1] 25 (0,0))∧wx.ownsRow (B+2) 3 1 (.slice a1 n c1) n (zs.map (Value.int .i64))|_=>True):=by
  intro i own ys wa wb e h
  match i,h with
  | 0,h|1,h|2,h|3,h|4,h|5,h=>exact h
  | 6,h|7,h=>obtain⟨a2,c2,h1,h2⟩:=h;exact⟨a2,c2,h1,owns_ext h2 e⟩
  | 8,h=>obtain⟨a2,c2,h1,h2⟩:=h;exact⟨a2,c2,e.blk h1,owns_ext h2 e⟩
  | _+9,_=>trivial
 have Hext:=Lib.hid hext;clear hext;refine wp_region_inv2 (by kernel_rfl) [(3,0),(4,1),(5,2),(6,3),(7,4),(8,5),(9,6),(10,7)] [[],[0],[],[2],[],[4],[4,5],[0,1,2,3,4,5,6],[0,1,2,3,4,5,6,7]] (fun i own ys wx=>match i with|0=>own= .pointer (some ⟨B,0,none⟩)|1=>own= .int .i64 W|2=>own= .pointer (some ⟨B,1,none⟩)|3=>own= .int .i64 H|4=>own= .pointer (some ⟨B,2,none⟩)|5=>own= .slice a n c|6=>∃(a1:Option Addr) (c1:Nat),own= .slice a1 n c1∧wx.ownsRow (B+2) 3 1 (.slice a1 n c1) n (zs.map (Value.int .i64))|7=>∃(a1:Option Addr) (c1:Nat),own= .agg #[.int .i64 W,.int .i64 H,.slice a1 n c1]∧wx.ownsRow (B+2) 3 1 (.slice a1 n c1) n (zs.map (Value.int .i64))|8=>∃(a1:Option Addr) (c1:Nat),wx.heap[B+1]?=some (.cells #[.int .i64 W,.int .i64 H,.slice a1 n c1] 25 (0,0))∧wx.ownsRow (B+2) 3 1 (.slice a1 n c1) n (zs.map (Value.int .i64))|_=>True) (fun kx wx=>Ext w wx∧B+2≤wx.heap.size∧wx.heap[B]?=some (.cells #[.int .i64 W,.int .i64 H,.slice a n c] 25 (0,0))∧∃ x y z:Value,wx.heap[B+1]?=some (.cells #[x,y,z] 25 (0,0))) (by kernel_rfl) (by kernel_rfl) (by kernel_rfl) ?g0_r1 ?gop_r1 ?gend_r1
 case g0_r1=>exact⟨Ext.trans_drewN E0 1,hsz,p0,_,_,_,r0⟩
 case gop_r1 =>
  refine⟨?_,?o1,?_,?o3,?_,?o5,?o6,?o7,?o8,trivial⟩ <;> (intro kx xs wx hk hG hD hI Qo Kx hK hQo;simp only[patchS,Nat.reduceAdd,Nat.reduceEqDiff,↓reduceIte]at hQo⊢)
  case o1 =>
   rw[ddq (hD 0 rfl)]at hQo⊢;clear hD hI;obtain⟨-,k0,k1,k2,-⟩:=bx3 hG.2.2.1;go_wp2;exact hK.out _ _ ⟨rfl,hG,kkp⟩
  case o3 =>
   rw[ddq (hD 2 rfl)]at hQo⊢;clear hD hI;obtain⟨-,k0,k1,k2,-⟩:=bx3 hG.2.2.1;go_wp2;exact hK.out _ _ ⟨rfl,hG,kkp⟩
  case o5 =>
   rw[ddq (hD 4 rfl)]at hQo⊢;clear hD hI;obtain⟨-,k0,k1,k2,-⟩:=bx3 hG.2.2.1;go_wp2;exact hK.out _ _ ⟨rfl,hG,kkp⟩
  case o6 =>
   rw[ddq (hD 5 rfl)]at hQo⊢;clear hD hI;refine wpList_apps _ (World.ownsRow_nil _ (B+2) _ _) hG.2.1 rfl _ _ 23 rfl (.int .i64 0) 8 Tryz.underlying23 info_int rfl rfl a n c _ rfl (r.ext hG.1) (one_i64 zs) (by omega) (by omega) ?_;intro v14 w14 own14 gr14;rw[Nat.zero_add,List.nil_append]at own14;obtain⟨a14,c14,rfl⟩:=owns_form own14;have e8:=ext_noneP gr14 rfl;obtain⟨g1,g2,g3,x,y,z,g4⟩:=hG;exact hQo _ _ (hK.out _ _ ⟨⟨_,_,rfl,own14⟩,⟨g1.trans e8,Nat.le_trans g2 e8.size,e8.blk g3,x,y,z,e8.blk g4⟩,fun i _ _ _ own ys h=>Hext.out i own ys _ _ e8 h⟩)
  case o7 =>
   rw[ddq (hD 1 rfl),ddq (hD 3 rfl)]at hQo⊢;have d6:∃(a1:Option Addr) (c1:Nat),(xs 6) = .slice a1 n c1∧wx.ownsRow (B+2) 3 1 (.slice a1 n c1) n (zs.map (Value.int .i64)):=hD 6 rfl;clear hD hI;generalize xs 6=y6 at *;obtain⟨a1,c1,rfl,o1⟩:=d6;go_wp2;exact hK.out _ _ ⟨⟨_,_,rfl,o1⟩,hG,fun _ _ _ _ _ _ h=>h⟩
  case o8 =>
   have d7:∃(a1:Option Addr) (c1:Nat),(xs 7) = .agg #[.int .i64 W,.int .i64 H,.slice a1 n c1]∧wx.ownsRow (B+2) 3 1 (.slice a1 n c1) n (zs.map (Value.int .i64)):=hD 7 rfl;clear hD hI;generalize xs 7=y7 at *;obtain⟨a7,c7,rfl,o7⟩:=d7;obtain⟨g1,g2,g3,x,y,z,g4⟩:=hG;obtain⟨-,k0,k1,k2,f0,f1,f2⟩:=bx3 g4;go_wp2;have hst:∀(wy:World),(∀(v:Value) (xs:List Value),wx.ownsRow (B+2) 3 1 v n xs→wy.ownsRow (B+2) 3 1 v n xs)→Stbn 9 8 [[],[0],[],[2],[],[4],[4,5],[0,1,2,3,4,5,6],[0,1,2,3,4,5,6,7]] (fun i own ys wx=>match i with|0=>own= .pointer (some ⟨B,0,none⟩)|1=>own= .int .i64 W|2=>own= .pointer (some ⟨B,1,none⟩)|3=>own= .int .i64 H|4=>own= .pointer (some ⟨B,2,none⟩)|5=>own= .slice a n c|6=>∃(a1:Option Addr) (c1:Nat),own= .slice a1 n c1∧wx.ownsRow (B+2) 3 1 (.slice a1 n c1) n (zs.map (Value.int .i64))|7=>∃(a1:Option Addr) (c1:Nat),own= .agg #[.int .i64 W,.int .i64 H,.slice a1 n c1]∧wx.ownsRow (B+2) 3 1 (.slice a1 n c1) n (zs.map (Value.int .i64))|8=>∃(a1:Option Addr) (c1:Nat),wx.heap[B+1]?=some (.cells #[.int .i64 W,.int .i64 H,.slice a1 n c1] 25 (0,0))∧wx.ownsRow (B+2) 3 1 (.slice a1 n c1) n (zs.map (Value.int .i64))|_=>True) wx wy:=by
    intro wy hy ii hii hne hc own ys h
    match ii,h with
    | 0,h|1,h|2,h|3,h|4,h|5,h=>exact h
    | 6,h|7,h=>obtain⟨a2,c2,h1,h2⟩:=h;exact⟨a2,c2,h1,hy _ _ h2⟩
    | 8,h=>exact absurd rfl hne
    | _+9,_=>trivial
   have hz:=blk_set3 (x' := .int .i64 W) (y' := .int .i64 H) (z' := .slice a7 n c7) g4;have hg3:(((wx.setCell ⟨B+1,0,none⟩ (.int .i64 W)).setCell ⟨B+1,1,none⟩ (.int .i64 H)).setCell ⟨B+1,2,none⟩ (.slice a7 n c7)).heap[B]?=_:=blk_set_other (blk_set_other (blk_set_other g3 (by omega)) (by omega)) (by omega);have hkeep:∀(v:Value) (xs:List Value),wx.ownsRow (B+2) 3 1 v n xs→(((wx.setCell ⟨B+1,0,none⟩ (.int .i64 W)).setCell ⟨B+1,1,none⟩ (.int .i64 H)).setCell ⟨B+1,2,none⟩ (.slice a7 n c7)).ownsRow (B+2) 3 1 v n xs:=fun v xs h=>own_gr (own_gr (own_gr h (gr_set _ _ _ _) (by omega)) (gr_set _ _ _ _) (by omega)) (gr_set _ _ _ _) (by omega)
   have hE:Ext w (((wx.setCell ⟨B+1,0,none⟩ (.int .i64 W)).setCell ⟨B+1,1,none⟩ (.int .i64 H)).setCell ⟨B+1,2,none⟩ (.slice a7 n c7)):=Ext.grown (Ext.grown (Ext.grown g1 (gr_set _ _ _ _) (fun k e=>by cases e;omega)) (gr_set _ _ _ _) (fun k e=>by cases e;omega)) (gr_set _ _ _ _) (fun k e=>by cases e;omega);exact hQo undef _ (hK.out _ _ ⟨⟨a7,c7,hz,hkeep _ _ o7⟩,⟨hE,by simp;omega,hg3,_,_,_,hz⟩,hst _ hkeep⟩)
  all_goals
   clear hD hI;go_wp2;exact hK.out _ _ ⟨rfl,hG,kkp⟩
 clear Hext;intro xs wx hV hG;have d8:∃(a1:Option Addr) (c1:Nat),wx.heap[B+1]?=some (.cells #[.int .i64 W,.int .i64 H,.slice a1 n c1] 25 (0,0))∧wx.ownsRow (B+2) 3 1 (.slice a1 n c1) n (zs.map (Value.int .i64)):=hV 8 (by decide);clear hV;simp only[patchS,Nat.reduceAdd,Nat.reduceEqDiff,↓reduceIte];generalize xs 0=y0,xs 1=y1,xs 2=y2,xs 3=y3,xs 4=y4,xs 5=y5,xs 6=y6,xs 7=y7,xs 8=y8 at *
 replace hG:Ext w wx∧B+2≤wx.heap.size∧wx.heap[B]?=some (.cells #[.int .i64 W,.int .i64 H,.slice a n c] 25 (0,0))∧∃ x y z:Value,wx.heap[B+1]?=some (.cells #[x,y,z] 25 (0,0)):=hG
 obtain⟨a8,c8,q8,o8⟩:=d8;go_wp2;exact bodyPost_ret (v := .agg #[.int .i64 W,.int .i64 H,.slice a8 n c8]) (results_cell_row rfl _ _ (B+1) 25 #[.int .i64 W,.int .i64 H,.slice a8 n c8] (0,0) _ rfl q8 Tryz.underlying25 rfl size_Picture) rfl ⟨a8,c8,rfl,owns_mono o8 (by omega),hG.1⟩
theorem l8Copy_any (W H:Int) (a:Option Addr) (c n:Nat) (zs:List Int) (w:World) (hn:n<2^40) (hn0:0<n) (r:Sl w a n (zs.map (Value.int .i64))) :
 Calls Tryz.prog 95 #[.agg #[.int .i64 W,.int .i64 H,.slice a n c]] w fun e w'=>∃ a' c',e= .returned (.agg #[.int .i64 W,.int .i64 H,.slice a' n c'])∧w'.ownsRow w.heap.size 3 1 (.slice a' n c') n (zs.map (Value.int .i64))∧Ext w w':=by
 have p0:=blk_alloc (blk_new w (.cells #[.int .i64 W,.int .i64 H,.slice a n c] 25)) (.cells #[.int .i64 0,.int .i64 0,.slice none 0 0] 25);have r0:=blk_new (w.alloc (.cells #[.int .i64 W,.int .i64 H,.slice a n c] 25)) (.cells #[.int .i64 0,.int .i64 0,.slice none 0 0] 25);have E0:=(Ext.alloc w (.cells #[.int .i64 W,.int .i64 H,.slice a n c] 25)).trans (Ext.alloc _ (.cells #[.int .i64 0,.int .i64 0,.slice none 0 0] 25));have hs:((w.alloc (.cells #[.int .i64 W,.int .i64 H,.slice a n c] 25)).alloc (.cells #[.int .i64 0,.int .i64 0,.slice none 0 0] 25)).heap.size=w.heap.size+1+1:=by simp
 simp only[World.size_alloc]at r0;go_enter Tryz.func95,Tryz.ntmps95
 go_upto_region 1 with fail
 try simp only[World.size_alloc]
 generalize (w.alloc (.cells #[.int .i64 W,.int .i64 H,.slice a n c] 25)).alloc (.cells #[.int .i64 0,.int .i64 0,.slice none 0 0] 25)=w0 at *;obtain⟨B,hB⟩:∃ B,B=w.heap.size:=⟨_,rfl⟩;rw[←hB]at p0 r0 hs⊢;have HB:=Lib.hid hB;have hsz:B+2≤w0.heap.size:=by omega
 have hwB:w.heap.size≤B:=by omega
 clear hB hs;have hext:Stab (fun wa wb=>Ext wa wb) (fun i own ys wx=>match i with|0=>own= .pointer (some ⟨B,0,none⟩)|1=>own= .int .i64 W|2=>own= .pointer (some ⟨B,1,none⟩)|3=>own= .int .i64 H|4=>∃ g:Nat,own= .slice (some ⟨g,0,none⟩) 0 0∧wx.ownsRow (B+2) 3 1 (.slice (some ⟨g,0,none⟩) 0 0) 0 []|5=>own= .pointer (some ⟨B,2,none⟩)|6=>own= .slice a n c|7=>∃(a1:Option Addr) (c1:Nat),own= .slice a1 n c1∧wx.ownsRow (B+2) 3 1 (.slice a1 n c1) n (zs.map (Value.int .i64))|8=>∃(a1:Option Addr) (c1:Nat),own= .agg #[.int .i64 W,.int .i64 H,.slice a1 n c1]∧wx.ownsRow (B+2) 3 1 (.slice a1 n c1) n (zs.map (Value.int .i64))|9=>∃(a1:Option Addr) (c1:Nat),wx.heap[B+1]?=some (.cells #[.int .i64 W,.int .i64 H,.slice a1 n c1] 25 (0,0))∧wx.ownsRow (B+2) 3 1 (.slice a1 n c1) n (zs.map (Value.int .i64))|_=>True):=by
  intro i own ys wa wb e h
  match i,h with
  | 0,h|1,h|2,h|3,h|5,h|6,h=>exact h
  | 4,h=>obtain⟨g,h1,h2⟩:=h;exact⟨g,h1,owns_ext h2 e⟩
  | 7,h|8,h=>obtain⟨a2,c2,h1,h2⟩:=h;exact⟨a2,c2,h1,owns_ext h2 e⟩
  | 9,h=>obtain⟨a2,c2,h1,h2⟩:=h;exact⟨a2,c2,e.blk h1,owns_ext h2 e⟩
  | _+10,_=>trivial
 have Hext:=Lib.hid hext;clear hext;refine wp_region_inv2 (by kernel_rfl) [(3,0),(4,1),(5,2),(6,3),(7,4),(8,5),(9,6),(10,7),(11,8)] [[],[0],[],[2],[],[],[5],[4,5,6],[0,1,2,3,4,5,6,7],[0,1,2,3,4,5,6,7,8]] (fun i own ys wx=>match i with|0=>own= .pointer (some ⟨B,0,none⟩)|1=>own= .int .i64 W|2=>own= .pointer (some ⟨B,1,none⟩)|3=>own= .int .i64 H|4=>∃ g:Nat,own= .slice (some ⟨g,0,none⟩) 0 0∧wx.ownsRow (B+2) 3 1 (.slice (some ⟨g,0,none⟩) 0 0) 0 []|5=>own= .pointer (some ⟨B,2,none⟩)|6=>own= .slice a n c|7=>∃(a1:Option Addr) (c1:Nat),own= .slice a1 n c1∧wx.ownsRow (B+2) 3 1 (.slice a1 n c1) n (zs.map (Value.int .i64))|8=>∃(a1:Option Addr) (c1:Nat),own= .agg #[.int .i64 W,.int .i64 H,.slice a1 n c1]∧wx.ownsRow (B+2) 3 1 (.slice a1 n c1) n (zs.map (Value.int .i64))|9=>∃(a1:Option Addr) (c1:Nat),wx.heap[B+1]?=some (.cells #[.int .i64 W,.int .i64 H,.slice a1 n c1] 25 (0,0))∧wx.ownsRow (B+2) 3 1 (.slice a1 n c1) n (zs.map (Value.int .i64))|_=>True) (fun kx wx=>Ext w wx∧B+2≤wx.heap.size∧wx.heap[B]?=some (.cells #[.int .i64 W,.int .i64 H,.slice a n c] 25 (0,0))∧∃ x y z:Value,wx.heap[B+1]?=some (.cells #[x,y,z] 25 (0,0))) (by kernel_rfl) (by kernel_rfl) (by kernel_rfl) ?g0_r2 ?gop_r2 ?gend_r2
 case g0_r2=>exact⟨Ext.trans_drewN E0 1,hsz,p0,_,_,_,r0⟩
 case gop_r2 =>
  refine⟨?_,?o1,?_,?o3,?o4,?_,?o6,?o7,?o8,?o9,trivial⟩ <;> (intro kx xs wx hk hG hD hI Qo Kx hK hQo;simp only[patchS,Nat.reduceAdd,Nat.reduceEqDiff,↓reduceIte]at hQo⊢)
  case o1 =>
   rw[ddq (hD 0 rfl)]at hQo⊢;clear hD hI;obtain⟨-,k0,k1,k2,-⟩:=bx3 hG.2.2.1;go_wp2;exact hK.out _ _ ⟨rfl,hG,kkp⟩
  case o3 =>
   rw[ddq (hD 2 rfl)]at hQo⊢;clear hD hI;obtain⟨-,k0,k1,k2,-⟩:=bx3 hG.2.2.1;go_wp2;exact hK.out _ _ ⟨rfl,hG,kkp⟩
  case o4 =>
   clear hD hI;go_wp2;have ha:=Ext.alloc wx (.cells #[] 3);have o4:=World.ownsRow_made (base:=B+2) (e:=3) (size:=1) wx #[] 0 hG.2.1 (by simp) rfl;obtain⟨g1,g2,g3,x,y,z,g4⟩:=hG;exact hK.out _ _ ⟨⟨_,rfl,o4⟩,⟨g1.trans ha,Nat.le_trans g2 ha.size,ha.blk g3,x,y,z,ha.blk g4⟩,fun i _ _ _ own ys h=>Hext.out i own ys _ _ ha h⟩
  case o6 =>
   rw[ddq (hD 5 rfl)]at hQo⊢;clear hD hI;obtain⟨-,k0,k1,k2,-⟩:=bx3 hG.2.2.1;go_wp2;exact hK.out _ _ ⟨rfl,hG,kkp⟩
  case o7 =>
   rw[ddq (hD 6 rfl)]at hQo⊢;have d4:∃ g:Nat,(xs 4) = .slice (some ⟨g,0,none⟩) 0 0∧wx.ownsRow (B+2) 3 1 (.slice (some ⟨g,0,none⟩) 0 0) 0 []:=hD 4 rfl;clear hD hI;generalize xs 4=y4 at *;obtain⟨g4,rfl,o4⟩:=d4;have rx:=r.ext hG.1;obtain⟨ad,hadr⟩:∃ ad,a=some ad:=by obtain⟨b1,o1,h1,-⟩:=rx.int hn0;exact⟨_,h1⟩
   subst hadr;refine wpList_appn _ rfl o4 hG.2.1 _ _ _ rfl (.int .i64 0) 8 Tryz.underlying23 info_int rfl (by decide) rfl ad n c _ rfl (by rw[rx.1];omega) (rx.cellsOf _ hn0) (one_i64 zs) (by omega) (by omega) (by omega) ?_;intro v14 w14 own14 e8;rw[Nat.zero_add,List.nil_append]at own14;obtain⟨a14,c14,rfl⟩:=owns_form own14;obtain⟨g1,g2,g3,x,y,z,g4⟩:=hG;exact hQo _ _ (hK.out _ _ ⟨⟨_,_,rfl,own14⟩,⟨g1.trans e8,Nat.le_trans g2 e8.size,e8.blk g3,x,y,z,e8.blk g4⟩,fun i _ _ _ own ys h=>Hext.out i own ys _ _ e8 h⟩)
  case o8 =>
   rw[ddq (hD 1 rfl),ddq (hD 3 rfl)]at hQo⊢;have d7:∃(a1:Option Addr) (c1:Nat),(xs 7) = .slice a1 n c1∧wx.ownsRow (B+2) 3 1 (.slice a1 n c1) n (zs.map (Value.int .i64)):=hD 7 rfl;clear hD hI;generalize xs 7=y7 at *;obtain⟨a1,c1,rfl,o1⟩:=d7;go_wp2;exact hK.out _ _ ⟨⟨_,_,rfl,o1⟩,hG,fun _ _ _ _ _ _ h=>h⟩
  case o9 =>
   have d8:∃(a1:Option Addr) (c1:Nat),(xs 8) = .agg #[.int .i64 W,.int .i64 H,.slice a1 n c1]∧wx.ownsRow (B+2) 3 1 (.slice a1 n c1) n (zs.map (Value.int .i64)):=hD 8 rfl;clear hD hI;generalize xs 8=y8 at *;obtain⟨a7,c7,rfl,o7⟩:=d8;obtain⟨g1,g2,g3,x,y,z,g4⟩:=hG;obtain⟨-,k0,k1,k2,f0,f1,f2⟩:=bx3 g4;go_wp2;have hst:∀(wy:World),(∀(v:Value) (nn:Nat) (xs:List Value),wx.ownsRow (B+2) 3 1 v nn xs→wy.ownsRow (B+2) 3 1 v nn xs)→Stbn 10 9 [[],[0],[],[2],[],[],[5],[4,5,6],[0,1,2,3,4,5,6,7],[0,1,2,3,4,5,6,7,8]] (fun i own ys wx=>match i with|0=>own= .pointer (some ⟨B,0,none⟩)|1=>own= .int .i64 W|2=>own= .pointer (some ⟨B,1,none⟩)|3=>own= .int .i64 H|4=>∃ g:Nat,own= .slice (some ⟨g,0,none⟩) 0 0∧wx.ownsRow (B+2) 3 1 (.slice (some ⟨g,0,none⟩) 0 0) 0 []|5=>own= .pointer (some ⟨B,2,none⟩)|6=>own= .slice a n c|7=>∃(a1:Option Addr) (c1:Nat),own= .slice a1 n c1∧wx.ownsRow (B+2) 3 1 (.slice a1 n c1) n (zs.map (Value.int .i64))|8=>∃(a1:Option Addr) (c1:Nat),own= .agg #[.int .i64 W,.int .i64 H,.slice a1 n c1]∧wx.ownsRow (B+2) 3 1 (.slice a1 n c1) n (zs.map (Value.int .i64))|9=>∃(a1:Option Addr) (c1:Nat),wx.heap[B+1]?=some (.cells #[.int .i64 W,.int .i64 H,.slice a1 n c1] 25 (0,0))∧wx.ownsRow (B+2) 3 1 (.slice a1 n c1) n (zs.map (Value.int .i64))|_=>True) wx wy:=by
    intro wy hy ii hii hne hc own ys h
    match ii,h with
    | 0,h|1,h|2,h|3,h|5,h|6,h=>exact h
    | 4,h=>obtain⟨g,h1,h2⟩:=h;exact⟨g,h1,hy _ _ _ h2⟩
    | 7,h|8,h=>obtain⟨a2,c2,h1,h2⟩:=h;exact⟨a2,c2,h1,hy _ _ _ h2⟩
    | 9,h=>exact absurd rfl hne
    | _+10,_=>trivial
   have hz:=blk_set3 (x' := .int .i64 W) (y' := .int .i64 H) (z' := .slice a7 n c7) g4;have hg3:(((wx.setCell ⟨B+1,0,none⟩ (.int .i64 W)).setCell ⟨B+1,1,none⟩ (.int .i64 H)).setCell ⟨B+1,2,none⟩ (.slice a7 n c7)).heap[B]?=_:=blk_set_other (blk_set_other (blk_set_other g3 (by omega)) (by omega)) (by omega);have hkeep:∀(v:Value) (nn:Nat) (xs:List Value),wx.ownsRow (B+2) 3 1 v nn xs→(((wx.setCell ⟨B+1,0,none⟩ (.int .i64 W)).setCell ⟨B+1,1,none⟩ (.int .i64 H)).setCell ⟨B+1,2,none⟩ (.slice a7 n c7)).ownsRow (B+2) 3 1 v nn xs:=fun v nn xs h=>own_gr (own_gr (own_gr h (gr_set _ _ _ _) (by omega)) (gr_set _ _ _ _) (by omega)) (gr_set _ _ _ _) (by omega)
   have hE:Ext w (((wx.setCell ⟨B+1,0,none⟩ (.int .i64 W)).setCell ⟨B+1,1,none⟩ (.int .i64 H)).setCell ⟨B+1,2,none⟩ (.slice a7 n c7)):=Ext.grown (Ext.grown (Ext.grown g1 (gr_set _ _ _ _) (fun k e=>by cases e;omega)) (gr_set _ _ _ _) (fun k e=>by cases e;omega)) (gr_set _ _ _ _) (fun k e=>by cases e;omega);exact hQo undef _ (hK.out _ _ ⟨⟨a7,c7,hz,hkeep _ _ _ o7⟩,⟨hE,by simp;omega,hg3,_,_,_,hz⟩,hst _ hkeep⟩)
  all_goals
   clear hD hI;go_wp2;exact hK.out _ _ ⟨rfl,hG,kkp⟩
 clear Hext;intro xs wx hV hG;have d9:∃(a1:Option Addr) (c1:Nat),wx.heap[B+1]?=some (.cells #[.int .i64 W,.int .i64 H,.slice a1 n c1] 25 (0,0))∧wx.ownsRow (B+2) 3 1 (.slice a1 n c1) n (zs.map (Value.int .i64)):=hV 9 (by decide);clear hV;simp only[patchS,Nat.reduceAdd,Nat.reduceEqDiff,↓reduceIte];generalize xs 0=y0,xs 1=y1,xs 2=y2,xs 3=y3,xs 4=y4,xs 5=y5,xs 6=y6,xs 7=y7,xs 8=y8,xs 9=y9 at *
 replace hG:Ext w wx∧B+2≤wx.heap.size∧wx.heap[B]?=some (.cells #[.int .i64 W,.int .i64 H,.slice a n c] 25 (0,0))∧∃ x y z:Value,wx.heap[B+1]?=some (.cells #[x,y,z] 25 (0,0)):=hG
 obtain⟨a8,c8,q8,o8⟩:=d9;go_wp2;exact bodyPost_ret (v := .agg #[.int .i64 W,.int .i64 H,.slice a8 n c8]) (results_cell_row rfl _ _ (B+1) 25 #[.int .i64 W,.int .i64 H,.slice a8 n c8] (0,0) _ rfl q8 Tryz.underlying25 rfl size_Picture) rfl ⟨a8,c8,rfl,owns_mono o8 (by omega),hG.1⟩
/-- A block without bytes is not the reader's data. -/
theorem Rd.setG {w:World} {b p g j:Nat} {v:Value} {arr:Array Value} {T:TypeId} (h:Rd w b p) (hg:w.heap[g]?=some (.cells arr T (0,0))) (harr:∀(i:Nat) (z:Int),arr[i]?≠some (.int .u8 z)) (hne:g≠b):Rd (w.setCell ⟨g,j,none⟩ v) b p:=by
 obtain⟨a,m,c,zs,h1,h2,h3,h4,h5⟩:=h;refine⟨a,m,c,zs,blk_set_other h1 (Ne.symm hne),h2,?_,h4,h5⟩
 by_cases hm:m=0
 ·subst hm;exact⟨h3.1,fun i hi=>by omega⟩
 ·have gr:w.grownBy (w.setCell ⟨g,j,none⟩ v) (some g):=⟨rfl,rfl,rfl,by simp,fun k _ hk=>heap_setCell_other w ⟨g,j,none⟩ k _ (fun e=>hk (by simp[e]))⟩;refine h3.grown gr (fun x hx e => ?_);obtain⟨b1,o1,h6,h7⟩:=h3.int (show 0<m by omega);rw[hx]at h6;simp at h6 e;subst h6;simp at e;subst e;simp[World.cell?,hg]at h7;exact harr _ _ h7
theorem Rd.gr {w w':World} {b p:Nat} {row:Option Nat} (h:Rd w b p) (g:w.grownBy w' row) (hr:∀ k,row=some k→b<k):Rd w' b p:=by
 obtain⟨a,m,c,zs,h1,h2,h3,h4,h5⟩:=h;refine⟨a,m,c,zs,by rw[g.block b (lt_of_block h1) (fun e=>by have:=hr b e.symm;omega)];exact h1,h2,?_,h4,h5⟩;rcases h4 with h4|h4
 ·subst h4;exact⟨h3.1,fun i hi=>by omega⟩
 ·exact h3.grown g (fun x hx e=>by have:=h4 x hx;have:=hr _ e.symm;omega)
theorem grown_any {a b c:World} {r row:Option Nat} (h:a.grownBy b r) (k:b.grownBy c row) (hr:∀ q,row=some q→a.heap.size≤q):a.grownBy c r :=
 ⟨k.os.trans h.os,k.tape.trans h.tape,k.output.trans h.output,Nat.le_trans h.size k.size,fun i hi hne=>(k.block i (Nat.lt_of_lt_of_le hi h.size) (fun e=>by have:=hr i e.symm;omega)).trans (h.block i hi hne)⟩
theorem DG.own {w wx wy:World} {b P C k:Nat} {row:Option Nat} (h:DG w b P C k wx) (g:wx.grownBy wy row) (hv:∀ q,row=some q→w.heap.size≤q) (hb:b<w.heap.size):DG w b P C k wy:=by
 obtain⟨h1,q,h2,h3⟩:=h;exact⟨grown_any h1 g hv,q,h2,h3.gr g (fun k hk=>by have:=hv k hk;omega)⟩
/-- Every number is in -B..B. -/
def inB (B:Int) (zs:List Int):Bool:=zs.all fun z=>decide (-B≤z) && decide (z≤B)
theorem inB_yes {B:Int} {zs:List Int} (h:∀ j,j<zs.length → -B≤nth zs j∧nth zs j≤B):inB B zs=true:=by
 unfold inB;rw[List.all_eq_true];intro z hz;obtain⟨j,hj,rfl⟩:=List.getElem_of_mem hz;have:=h j hj;rw[nth_eq zs j hj]at this;simp[this]
theorem inB_no {B:Int} {zs:List Int} {j:Nat} (hj:j<zs.length) (h:nth zs j < -B∨B<nth zs j):inB B zs=false:=by
 unfold inB;rw[List.all_eq_false];refine⟨zs[j],List.getElem_mem hj,?_⟩;rw[nth_eq zs j hj]at h;simp;omega
theorem inB_iff {B:Int} {zs:List Int} : inB B zs=true↔∀ j,j<zs.length → -B≤nth zs j∧nth zs j≤B:=by
 constructor
 ·intro h j hj;refine Classical.byContradiction fun hn => ?_
  rw[inB_no hj (by omega)]at h;cases h
 ·exact inB_yes
theorem size_A16 : (Tryz.prog.info? 29).map (·.size)=some 16:=by kernel_rfl
theorem size_int : (Tryz.prog.info? 3).map (·.size)=some 1:=by kernel_rfl
theorem impl_blockWithin_any (zs:List Int) (B:Int) (w:World) (hl:zs.length=16) (hB:0≤B) (hB2:B≤1099511627776) :
 Calls Tryz.prog 105 #[.agg (ic zs),.int .i64 B] w fun e w'=>e= .returned (.bool (inB B zs))∧Ext w w':=by
 have H:=IB.new w 29 zs;have hsa:=sub_all zs 16 hl;have Hl:=Lib.hid hl;clear hl;go_enter Tryz.func105,Tryz.ntmps105
 go_wp2_with (refine wpList_iload 29 _ rfl rfl H 0 16 rfl _ Tryz.underlying29 rfl size_A16 (by rw[Hl.out];omega) _ (by rw[hsa]) ?_)
 go_loopw [8] (fun i wr=>∃ k:Nat,k≤16∧i= .int .i64 k∧Ext w wr∧Hid (∀ j,j<k → -B≤nth zs j∧nth zs j≤B)) (fun i _=>16-(intOf i).toNat)
 case atStart=>exact⟨0,by omega,rfl,Ext.alloc _ _,Lib.hid (fun j hj=>by omega)⟩
 case round =>
  obtain⟨k,hk,rfl,E2,hall⟩:=hrel;clear H hsa
  by_cases hlt:k<16
  ·by_cases h1:nth zs k < -B
   ·have hno:=Lib.hid (inB_no (B:=B) (by rw[Hl.out];exact hlt) (.inl h1));go_wp2_with (refine wpList_iindex _ _ _ rfl rfl zs rfl k 16 _ rfl rfl _ Tryz.underlying29 Tryz.underlying3 size_int hlt Hl.out ?_)
    go_ret
    exact⟨(ret_bool hno.out).symm,E2⟩
   ·have hd1:decide (nth zs k < -B)=false:=by simpa using h1
    by_cases h2:B<nth zs k
    ·have hno:=Lib.hid (inB_no (B:=B) (by rw[Hl.out];exact hlt) (.inr h2));go_wp2_with (refine wpList_iindex _ _ _ rfl rfl zs rfl k 16 _ rfl rfl _ Tryz.underlying29 Tryz.underlying3 size_int hlt Hl.out ?_)
     go_ret
     exact⟨(ret_bool hno.out).symm,E2⟩
    ·have hd2:decide (B<nth zs k)=false:=by simpa using h2
     have hall2:=Lib.hid (show ∀ j,j<k+1 → -B≤nth zs j∧nth zs j≤B from fun j hj=>by
      by_cases hjk:j=k
      ·subst hjk;omega
      ·exact hall.out j (by omega))
     go_wp2_with (refine wpList_iindex _ _ _ rfl rfl zs rfl k 16 _ rfl rfl _ Tryz.underlying29 Tryz.underlying3 size_int hlt Hl.out ?_)
     go_roundw
     case rel=>exact⟨k+1,by omega,by go_num,E2,hall2⟩
     case measure=>simp[intOf];omega
  ·obtain rfl:k=16:=by omega
   have hy:=Lib.hid (inB_yes (B:=B) (zs:=zs) (by rw[Hl.out];exact hall.out));go_wp2;go_ret
   exact⟨(ret_bool hy.out).symm,E2⟩
section
variable {P : Program}
/-- Elements of type e, of c integers each, are compared as lists. -/
def EqE (P:Program) (e:TypeId) (c:Nat) (d:Nat):Prop:=∀(w:World) (xs ys:List Int) (off:Nat),off+c≤xs.length→off+c≤ys.length →
 ∃ a b,(part e (ic xs) off).run P w= .ok a w∧(part e (ic ys) off).run P w= .ok b w∧(Op.equalIn d e a b).run P w= .ok (decide (sub xs off c=sub ys off c)) w
theorem EqE.int {e:TypeId} (he:P.underlying e=some (.int .i64)) (d:Nat):EqE P e 1 (d+1):=by
 intro w xs ys off h1 h2;have hag:(isAgg e).run P w= .ok false w:=by
  unfold isAgg;rw[Sem.run_bind,run_underlying he w];simp
 refine⟨.int .i64 (nth xs off),.int .i64 (nth ys off),?_,?_,?_⟩
 ·simp[part,Sem.run_bind,hag,ic_get xs off (by omega)]
 ·simp[part,Sem.run_bind,hag,ic_get ys off (by omega)]
 ·rw[run_equalIn_int w d e .i64 .i64 _ _ he,sub_one xs off (by omega),sub_one ys off (by omega)]
  congr 1
  by_cases h:nth xs off=nth ys off
  ·simp[h]
  ·simp[h]
theorem eqItems_run {e:TypeId} {c d:Nat} (hE:EqE P e c d) (w:World) (xs ys:List Int):∀(is:List Nat),(∀ i∈is,i*c+c≤xs.length∧i*c+c≤ys.length) →
 (Op.eqItems d e c (ic xs) (ic ys) is).run P w= .ok (decide (∀ i∈is,sub xs (i*c) c=sub ys (i*c) c)) w
 | [],_=>by simp[Op.eqItems]
 | i::is,h=>by
  obtain⟨a,b,h1,h2,h3⟩:=hE w xs ys (i*c) (h i (by simp)).1 (h i (by simp)).2;have ih:=eqItems_run hE w xs ys is (fun j hj=>h j (by simp[hj]));simp only[Op.eqItems,Sem.run_bind,h1,h2,h3,Result.andThen_ok]
  by_cases hs:sub xs (i*c) c=sub ys (i*c) c
  ·simp only[hs,decide_true,Bool.not_true,Bool.false_eq_true,if_false,ih]
   congr 1
   simp[hs]
  ·simp only[hs,decide_false,Bool.not_false,if_true,Sem.run_pure]
   congr 1
   simp[hs]
theorem sub_sub (zs:List Int) (o n p m:Nat) (h:p+m≤n):sub (sub zs o n) p m=sub zs (o+p) m:=by
 unfold sub;rw[List.drop_take,List.drop_drop,List.take_take]
 congr 1
 omega
theorem sub_ext {xs ys:List Int} {o n c:Nat} (h1:o+n*c≤xs.length) (h2:o+n*c≤ys.length):(∀ i∈List.range n,sub (sub xs o (n*c)) (i*c) c=sub (sub ys o (n*c)) (i*c) c)↔sub xs o (n*c)=sub ys o (n*c):=by
 constructor
 ·intro h;refine ext_nth (by rw[sub_len _ _ _ h1,sub_len _ _ _ h2]) fun j hj => ?_
  rw[sub_len _ _ _ h1]at hj;have hc:0<c:=by
   rcases Nat.eq_zero_or_pos c with h0|h0
   ·subst h0;simp at hj
   ·exact h0
  have hd:j/c<n:=Nat.div_lt_of_lt_mul (by rw[Nat.mul_comm];exact hj);have hm:j%c<c:=Nat.mod_lt _ hc;have e:=h (j/c) (by simpa using hd);have e1:j/c*c+j%c=j:=by rw[Nat.mul_comm];exact Nat.div_add_mod j c
  have e2:nth (sub (sub xs o (n*c)) (j/c*c) c) (j%c)=nth (sub (sub ys o (n*c)) (j/c*c) c) (j%c):=by rw[e]
  rw[nth_sub _ _ _ _ hm,nth_sub _ _ _ _ hm,e1]at e2;exact e2
 ·intro h i _;rw[h]
theorem EqE.arr {t e:TypeId} {n c d:Nat} (ht:P.underlying t=some (.array n e)) (hi:(P.info? e).map (·.size)=some c) (hti:(P.info? t).map (·.size)=some (n*c)) (hE:EqE P e c d):EqE P t (n*c) (d+1):=by
 intro w xs ys off h1 h2;cases hq:P.info? e with
 | none=>simp[hq]at hi
 | some ii =>
  have hs:ii.size=c:=by simpa [hq] using hi
  have hce:P.cellsOf e=c:=by simp[Program.cellsOf,hq,hs]
  have hag:=isAgg_of (P:=P) w ht rfl;cases hqt:P.info? t with
  | none=>simp[hqt]at hti
  | some jj =>
   have hst:jj.size=n*c:=by simpa [hqt] using hti
   refine⟨.agg (ic (sub xs off (n*c))),.agg (ic (sub ys off (n*c))),?_,?_,?_⟩
   ·simp[part,Sem.run_bind,hag,sizeOf,typeInfo,hqt,hst,ic_extract]
   ·simp[part,Sem.run_bind,hag,sizeOf,typeInfo,hqt,hst,ic_extract]
   ·rw[run_equalIn_array w d _ _ ht hq,hce,eqItems_run hE w _ _ (List.range n) (fun i hi'=>by
     rw[sub_len _ _ _ h1,sub_len _ _ _ h2];have hin:i<n:=by simpa using hi'
     have:(i+1)*c≤n*c:=Nat.mul_le_mul_right _ hin;rw[Nat.succ_mul]at this;exact⟨this,this⟩)]
    congr 1
    exact decide_eq_decide.2 (sub_ext h1 h2)
/-- x == y, arrays of integers. -/
theorem run_eql_ints {t:TypeId} {n c:Nat} {e:TypeId} (ht:P.underlying t=some (.array n e)) (hi:(P.info? e).map (·.size)=some c) (hE:EqE P e c 9999) (w:World) (xs ys:List Int) (h1:xs.length=n*c) (h2:ys.length=n*c) :
 (Op.equalIn 10000 t (.agg (ic xs)) (.agg (ic ys))).run P w= .ok (decide (xs=ys)) w:=by
 cases hq:P.info? e with
 | none=>simp[hq]at hi
 | some ii =>
  have hs:ii.size=c:=by simpa [hq] using hi
  have hce:P.cellsOf e=c:=by simp[Program.cellsOf,hq,hs]
  rw[run_equalIn_array w 9999 _ _ ht hq,hce,eqItems_run hE w _ _ (List.range n) (fun i hi'=>by
   rw[h1,h2];have hin:i<n:=by simpa using hi'
   have:(i+1)*c≤n*c:=Nat.mul_le_mul_right _ hin;rw[Nat.succ_mul]at this;exact⟨this,this⟩)]
  congr 1
  have e:=sub_ext (xs:=xs) (ys:=ys) (o:=0) (n:=n) (c:=c) (by omega) (by omega);rw[sub_all xs _ h1,sub_all ys _ h2]at e;exact decide_eq_decide.2 e
theorem wpList_ieql {ops:Array Oper} {rest:List Oper} {o:Oper} {a:Act} {w:World} {Q:Exit→Act→World→Prop} (t:TypeId) (x y:Operand) (t2:TypeId) (ho:o.op= .binOp .eql t x y t2) (hgd:Region.wanted o (yielded ops a.tmps)=true)
 (cs ds:Array Value) (hx:a.eval x= .agg cs) (hy:a.eval y= .agg ds) (xs ys:List Int) (hcs:cs=ic xs) (hds:ds=ic ys) {n c:Nat} {e:TypeId} (ht:P.underlying t=some (.array n e)) (hi:(P.info? e).map (·.size)=some c) (hE:EqE P e c 9999) (h1:xs.length=n*c) (h2:ys.length=n*c)
 (hm:P.eqGuardType P.depth t=false) (r:Bool) (hr:decide (xs=ys)=r) (hK:wpList P ops Q rest (a.put o.dst (.bool r)) w):wpList P ops Q (o::rest) a w:=by
 subst hcs hds hr;refine wpList_wanted hgd fun _ hK' => ?_
 unfold Oper.wp execOp;simp[ho,hx,hy,Sem.run_bind,run_eqGuard_agg w .eql t x y _ _ hm,run_eql_struct w t,run_eql_ints ht hi hE w xs ys h1 h2,Result.andThen];exact hK' _ _ hK
/-- [n]T{}, T an array of integers or an integer. -/
theorem wpList_izero {ops:Array Oper} {rest:List Oper} {o:Oper} {a:Act} {w:World} {Q:Exit→Act→World→Prop} (t:TypeId) (ho:o.op= .build t #[]) (hgd:Region.wanted o (yielded ops a.tmps)=true)
 {n c:Nat} {e:TypeId} (ht:P.underlying t=some (.array n e)) (hi:(P.info? e).map (·.size)=some c) (N:Nat) (hz:(P.info? t).map (·.zero)=some (some (.agg (ic (List.replicate N 0)))))
 (hK:wpList P ops Q rest (a.put o.dst (.agg (ic (List.replicate N 0)))) w):wpList P ops Q (o::rest) a w:=by
 refine wpList_wanted hgd fun _ hK' => ?_
 cases hq:P.info? e with
 | none=>simp[hq]at hi
 | some ii =>
  cases hqt:P.info? t with
  | none=>simp[hqt]at hz
  | some jj =>
   have hzz:jj.zero=some (.agg (ic (List.replicate N 0))):=by simpa [hqt] using hz
   unfold Oper.wp execOp;simp[ho,Instr.build,zeroValue,typeInfo,hqt,hzz,run_underlying ht,sizeOf,hq,Instr.fill,Value.cells,Sem.run_bind,Result.andThen];exact hK' _ _ hK
/-- n zeros. -/
def zl (n:Nat):List Int:=List.replicate n 0
theorem zl_len (n:Nat):(zl n).length=n:=by simp[zl]
/-- new(T), T of integers alone. -/
theorem wpList_iallocz {ops:Array Oper} {rest:List Oper} {o:Oper} {a:Act} {w:World} {Q:Exit→Act→World→Prop} (t:TypeId) (ho:o.op= .alloc t) (hgd:Region.wanted o (yielded ops a.tmps)=true)
 (N:Nat) (hz:(P.info? t).map (·.zero)=some (some (.agg (ic (zl N)))))
 (hK:wpList P ops Q rest (a.put o.dst (.pointer (some ⟨w.heap.size,0,none⟩))) (w.alloc (.cells (ic (zl N)) t))):wpList P ops Q (o::rest) a w:=by
 refine wpList_wanted hgd fun _ hK' => ?_
 cases hqt:P.info? t with
 | none=>simp[hqt]at hz
 | some jj =>
  have hzz:jj.zero=some (.agg (ic (zl N))):=by simpa [hqt] using hz
  unfold Oper.wp execOp;simp[ho,Instr.alloc,zeroValue,typeInfo,hqt,hzz,Value.cells,newVar,newRow,Sem.run_bind,Result.andThen];exact hK' _ _ hK
end
end Go.Proofs.YtbnhaegidfbgbaaGreatDoor
namespace Go.Proofs.YtbnhaegidfbgbaaGreatDoor
open Go.RowKit
structure Mac where
 kind:Int
 x:Int
 y:Int
 modes:List Int
 lv:List Int
/-- Four modes, four blocks of sixteen levels. -/
structure Mac.ok (m : Mac) : Prop where
 modes:m.modes.length=4
 lv:m.lv.length=64
/-- The 71 integers of a macroblock. -/
def Mac.zs (m:Mac):List Int:=m.kind::m.x::m.y::(m.modes++m.lv)
def mac0 : Mac:=⟨0,0,0,List.replicate 4 0,List.replicate 64 0⟩
theorem mac0_ok : mac0.ok:=⟨rfl,rfl⟩
theorem Mac.zs_len {m:Mac} (h:m.ok):m.zs.length=71:=by simp[Mac.zs,h.modes,h.lv]
theorem Mac.zs_kind (m:Mac):nth m.zs 0=m.kind:=rfl
theorem Mac.zs_x (m:Mac):nth m.zs 1=m.x:=rfl
theorem Mac.zs_y (m:Mac):nth m.zs 2=m.y:=rfl
theorem Mac.zs_mv {m:Mac} : ic (sub m.zs 1 2) = #[.int .i64 m.x,.int .i64 m.y]:=rfl
theorem Mac.zs_modes {m:Mac} (h:m.ok):sub m.zs 3 4=m.modes:=by
 simp only[Mac.zs,sub,List.drop_succ_cons,List.drop_zero];rw[List.take_append_of_le_length (by rw[h.modes];exact Nat.le_refl _),List.take_of_length_le (by rw[h.modes];exact Nat.le_refl _)]
theorem Mac.zs_lv {m:Mac} (h:m.ok):sub m.zs 7 64=m.lv:=by
 simp only[Mac.zs,sub,List.drop_succ_cons];rw[List.drop_append_of_le_length (by rw[h.modes];exact Nat.le_refl _),List.drop_of_length_le (by rw[h.modes];exact Nat.le_refl _),List.nil_append,List.take_of_length_le (by rw[h.lv];exact Nat.le_refl _)]
theorem Mac.zs_blk {m:Mac} (h:m.ok) (k:Nat) (hk:k<4):sub m.zs (7+k*16) 16=sub m.lv (k*16) 16:=by
 rw[←Mac.zs_lv h,sub_sub _ _ _ _ _ (by omega)]
theorem Mac.nth_mode {m:Mac} (h:m.ok) (k:Nat) (hk:k<4):nth m.zs (3+k)=nth m.modes k:=by
 rw[←Mac.zs_modes h,nth_sub _ _ _ _ hk]
def zero4 : List Int:=List.replicate 4 0
def zero64 : List Int:=List.replicate 64 0
/-- What MacroValid asks. -/
def Mac.valid (m:Mac):Prop:=(0≤m.kind∧m.kind≤2)∧(-16≤m.x∧m.x≤16 ∧ -16≤m.y∧m.y≤16)∧(m.kind≠1→m.x=0∧m.y=0)∧(m.kind≠2→m.modes=zero4)∧(m.kind=2→∀ j,j<4→0≤nth m.modes j∧nth m.modes j≤4)∧(m.kind=0→m.lv=zero64)∧inB 4080 m.lv=true
noncomputable instance (m : Mac) : Decidable m.valid := Classical.propDecidable _
/-- Blocks of sixteen: all within the bound. -/
theorem inB_blocks {B:Int} {zs:List Int} (h:zs.length=64):inB B zs=true↔∀ k,k<4→inB B (sub zs (k*16) 16)=true:=by
 constructor
 ·intro hb k hk;refine inB_yes fun j hj => ?_
  rw[sub_len _ _ _ (by omega)]at hj;rw[nth_sub _ _ _ _ hj];exact inB_iff.1 hb _ (by omega)
 ·intro hb;refine inB_yes fun j hj => ?_
  have h1:=inB_iff.1 (hb (j/16) (by omega)) (j%16) (by rw[sub_len _ _ _ (by omega)];omega);rw[nth_sub _ _ _ _ (by omega),show j/16*16+j%16=j by omega]at h1;exact h1
section
variable {P : Program}
theorem wpList_veql {ops:Array Oper} {rest:List Oper} {o:Oper} {a:Act} {w:World} {Q:Exit→Act→World→Prop} (t:TypeId) (x y:Operand) (t2:TypeId) (ho:o.op= .binOp .eql t x y t2) (hgd:Region.wanted o (yielded ops a.tmps)=true)
 (cs ds:Array Value) (hx:a.eval x= .agg cs) (hy:a.eval y= .agg ds) (r:Bool) (hrun:∀ w,(Op.equalIn 10000 t (.agg cs) (.agg ds)).run P w= .ok r w) (hm:P.eqGuardType P.depth t=false)
 (hK:wpList P ops Q rest (a.put o.dst (.bool r)) w):wpList P ops Q (o::rest) a w:=by
 refine wpList_wanted hgd fun _ hK' => ?_
 unfold Oper.wp execOp;simp[ho,hx,hy,Sem.run_bind,run_eqGuard_agg w .eql t x y _ _ hm,run_eql_struct w t,hrun,Result.andThen];exact hK' _ _ hK
end
/-- A valid vector. -/
def vv (x y:Int):Prop := -16≤x∧x≤16 ∧ -16≤y∧y≤16
theorem vec_eq (x y:Int) (r:Bool) (hr:decide (x=0∧y=0)=r) (w:World):(Op.equalIn 10000 27 (.agg #[.int .i64 x,.int .i64 y]) (.agg #[.int .i64 0,.int .i64 0])).run Tryz.prog w= .ok r w:=by
 have hf:Tryz.prog.underlying 27=some (.struct (Tryz.prog.fieldsOf 27)):=by kernel_rfl
 have hp:Tryz.prog.stoodInHeld 27=false:=by kernel_rfl
 subst hr;rw[run_equalIn_struct w 9999 _ _ _ hf hp];have hag:(isAgg 3).run Tryz.prog w= .ok false w:=by
  unfold isAgg;rw[Sem.run_bind,run_underlying Tryz.underlying3 w];simp
 have p1:∀(u v:Int),(part 3 #[.int .i64 u,.int .i64 v] 0).run Tryz.prog w= .ok (.int .i64 u) w:=fun u v=>by simp[part,Sem.run_bind,hag]
 have p2:∀(u v:Int),(part 3 #[.int .i64 u,.int .i64 v] 1).run Tryz.prog w= .ok (.int .i64 v) w:=fun u v=>by simp[part,Sem.run_bind,hag]
 have q:∀(u v:Int),(Op.equalIn 9999 3 (.int .i64 u) (.int .i64 v)).run Tryz.prog w= .ok (u == v) w:=fun u v=>run_equalIn_int w 9998 _ _ _ _ _ Tryz.underlying3
 simp only[Program.fieldsOf,Tryz.underlying27,Op.eqFields,Sem.run_bind,p1,p2,q,Result.andThen_ok]
 by_cases hx:x=0
 ·subst hx
  by_cases hy:y=0
  ·subst hy;simp[p1,p2,q,Result.andThen]
  ·simp[p1,p2,q,Result.andThen,hy]
 ·simp[p1,p2,q,Result.andThen,hx]
theorem guard_Vector : Tryz.prog.eqGuardType Tryz.prog.depth 27=false:=by kernel_rfl
theorem guard_A4 : Tryz.prog.eqGuardType Tryz.prog.depth 28=false:=by kernel_rfl
theorem guard_A16A4 : Tryz.prog.eqGuardType Tryz.prog.depth 30=false:=by kernel_rfl
theorem size_A4 : (Tryz.prog.info? 28).map (·.size)=some 4:=by kernel_rfl
theorem size_A16A4 : (Tryz.prog.info? 30).map (·.size)=some 64:=by kernel_rfl
theorem size_Vector : (Tryz.prog.info? 27).map (·.size)=some 2:=by kernel_rfl
theorem size_Macro : (Tryz.prog.info? 32).map (·.size)=some 71:=by kernel_rfl
theorem zero_A4 : (Tryz.prog.info? 28).map (·.zero)=some (some (.agg (ic (List.replicate 4 0)))):=by kernel_rfl
theorem zero_A16A4 : (Tryz.prog.info? 30).map (·.zero)=some (some (.agg (ic (List.replicate 64 0)))):=by kernel_rfl
theorem eqE_int : EqE Tryz.prog 3 1 9999:=EqE.int Tryz.underlying3 9998
theorem eqE_A16 : EqE Tryz.prog 29 16 9999:=EqE.arr (n:=16) Tryz.underlying29 size_int size_A16 (EqE.int Tryz.underlying3 9997)
theorem impl_VectorValid_yes (x y:Int) (w:World) (h:vv x y) :
 Calls Tryz.prog 48 #[.agg #[.int .i64 x,.int .i64 y]] w fun e w'=>e= .returned (.bool true)∧Ext w w':=by
 obtain⟨h1,h2,h3,h4⟩:=h;go_enter Tryz.func48,Tryz.ntmps48
 go_wp2;go_ret
 exact⟨by first|rfl|(simp;done)|(simp;omega),Ext.alloc _ _⟩
theorem impl_VectorValid_no (x y:Int) (w:World) (h : ¬ vv x y) :
 Calls Tryz.prog 48 #[.agg #[.int .i64 x,.int .i64 y]] w fun e w'=>e= .returned (.bool false)∧Ext w w':=by
 unfold vv at h
 by_cases h1 : -16≤x
 ·by_cases h2:x≤16
  ·by_cases h3 : -16≤y
   ·have h4 : ¬ y≤16:=fun h4=>h ⟨h1,h2,h3,h4⟩
    clear h;go_enter Tryz.func48,Tryz.ntmps48
    go_wp2;go_ret
    exact⟨by first|rfl|(simp;done)|(simp;omega),Ext.alloc _ _⟩
   ·clear h;go_enter Tryz.func48,Tryz.ntmps48
    go_wp2;go_ret
    exact⟨by first|rfl|(simp;done)|(simp;omega),Ext.alloc _ _⟩
  ·clear h;go_enter Tryz.func48,Tryz.ntmps48
   go_wp2;go_ret
   exact⟨by first|rfl|(simp;done)|(simp;omega),Ext.alloc _ _⟩
 ·clear h;go_enter Tryz.func48,Tryz.ntmps48
  go_wp2;go_ret
  exact⟨by first|rfl|(simp;done)|(simp;omega),Ext.alloc _ _⟩
end Go.Proofs.YtbnhaegidfbgbaaGreatDoor
namespace Go.Proofs.YtbnhaegidfbgbaaGreatDoor
open Go.RowKit
/-- The first k of xs, behind them what ys has. -/
def mixI (xs ys:List Int) (k:Nat):List Int:=xs.take k++ys.drop k
theorem mixI_zero (xs ys:List Int):mixI xs ys 0=ys:=by simp[mixI]
theorem mixI_len (xs ys:List Int) (k n:Nat) (h1:xs.length=n) (h2:ys.length=n):(mixI xs ys k).length=n:=by simp[mixI];omega
theorem mixI_all (xs ys:List Int) (n:Nat) (h1:xs.length=n) (h2:ys.length=n):mixI xs ys n=xs:=by
 unfold mixI;rw[List.take_of_length_le (by omega),List.drop_of_length_le (by omega),List.append_nil]
theorem mixI_set (xs ys:List Int) (k n:Nat) (h1:xs.length=n) (h2:ys.length=n) (h:k<n):(mixI xs ys k).set k (nth xs k)=mixI xs ys (k+1):=by
 have hl:(xs.take k).length=k:=by simp;omega
 have hk':k<ys.length:=by omega
 have hk:k<xs.length:=by omega
 unfold mixI;rw[List.drop_eq_getElem_cons hk',List.set_append_right _ _ (by omega),hl,Nat.sub_self,List.set_cons_zero,List.take_succ_eq_append_getElem hk,nth_eq _ _ hk,List.append_assoc];rfl
theorem blk_set2 {w:World} {b:Nat} {x y x' y':Value} {T:TypeId} (h:w.heap[b]?=some (.cells #[x,y] T (0,0))):((w.setCell ⟨b,0,none⟩ x').setCell ⟨b,1,none⟩ y').heap[b]?=some (.cells #[x',y'] T (0,0)):=by
 have h1:=heap_setCell_same w b 0 _ _ x' h;have h2:=heap_setCell_same _ b 1 _ _ y' h1
 simpa using h2
/-- Integers within bounds. -/
def bdI (B:Int) (zs:List Int):Prop:=∀ j,j<zs.length → -B≤nth zs j∧nth zs j≤B
theorem bdI_set {B:Int} {zs:List Int} {i:Nat} {v:Int} (h:bdI B zs) (h1 : -B≤v) (h2:v≤B):bdI B (zs.set i v):=by
 intro j hj;rw[List.length_set]at hj
 by_cases hij:i=j
 ·subst hij;rw[nth_set_same _ _ _ hj];omega
 ·rw[nth_set_ne _ _ _ _ hij];exact h j hj
theorem bdI_spl {B:Int} {zs ys:List Int} {off:Nat} (h:bdI B zs) (hy:bdI B ys) (hl:off+ys.length≤zs.length):bdI B (spl zs off ys):=by
 intro j hj;rw[spl_len hl]at hj
 by_cases h1:off≤j∧j<off+ys.length
 ·rw[nth_spl_in hl h1.1 h1.2];exact hy _ (by omega)
 ·rw[nth_spl_out hl (by omega)];exact h j hj
/-- Block q holds n integers within bounds. -/
def IQ (B:Int) (w:World) (q T n:Nat):Prop:=∃ zs,IB w q T zs∧zs.length=n∧bdI B zs
theorem IQ.gr {B:Int} {w w':World} {q T n b:Nat} (h:IQ B w q T n) (g:w.grownBy w' (some b)) (hne:q≠b):IQ B w' q T n:=by
 obtain⟨zs,h1,h2,h3⟩:=h;exact⟨zs,h1.gr g (by simp;omega),h2,h3⟩
theorem IQ.ext {B:Int} {w w':World} {q T n:Nat} (h:IQ B w q T n) (e:Ext w w'):IQ B w' q T n:=by
 obtain⟨zs,h1,h2,h3⟩:=h;exact⟨zs,h1.ext e,h2,h3⟩
theorem IQ.set {B:Int} {w:World} {q T n:Nat} (h:IQ B w q T n) (i:Nat) (v:Int) (h1 : -B≤v) (h2:v≤B):IQ B (w.setCell ⟨q,i,none⟩ (.int .i64 v)) q T n:=by
 obtain⟨zs,k1,k2,k3⟩:=h;exact⟨zs.set i v,k1.set i v,by simpa using k2,bdI_set k3 h1 h2⟩
theorem IQ.cell {B:Int} {w:World} {q T n:Nat} (h:IQ B w q T n) {i:Nat} (hi:i<n):∃ v:Int,w.cell? ⟨q,i,none⟩=some (.int .i64 v)∧w.frozen? ⟨q,i,none⟩=false ∧ -B≤v∧v≤B:=by
 obtain⟨zs,k1,rfl,k3⟩:=h;exact⟨_,k1.cell hi,k1.frozen i,k3 i hi⟩
theorem IQ.lt {B:Int} {w:World} {q T n:Nat} (h:IQ B w q T n):q<w.heap.size:=by
 obtain⟨zs,k1,-⟩:=h;exact k1.lt
theorem IQ.set_other {B:Int} {w:World} {q c i T n:Nat} {v:Value} (h:IQ B w q T n) (hne:q≠c):IQ B (w.setCell ⟨c,i,none⟩ v) q T n:=by
 obtain⟨zs,k1,k2,k3⟩:=h;exact⟨zs,k1.set_other hne,k2,k3⟩
/-- A row written that the call made is as good as what it grew by. -/
theorem gr_new {w w1 w2:World} {r:Option Nat} {q:Nat} (g:w.grownBy w1 r) (h:w1.grownBy w2 (some q)) (hq:w.heap.size≤q):w.grownBy w2 r :=
 ⟨h.os.trans g.os,h.tape.trans g.tape,h.output.trans g.output,Nat.le_trans g.size h.size,fun k hk hne=>(h.block k (Nat.lt_of_lt_of_le hk g.size) (by simp;omega)).trans (g.block k hk hne)⟩
theorem RdP.grq {w w':World} {b P q:Nat} (h:RdP w b P) (g:w.grownBy w' (some q)) (hq:b<q):RdP w' b P:=by
 obtain⟨p,hp,a,m,c,zs,h1,h2,h3,h4,h5⟩:=h;refine⟨p,hp,a,m,c,zs,by rw[g.block b (lt_of_block h1) (by simp;omega)];exact h1,h2,?_,h4,h5⟩;rcases h4 with h4|h4
 ·subst h4;exact⟨h3.1,fun i hi=>by omega⟩
 ·exact h3.grown g (fun x hx e=>by have:=h4 x hx;simp at e;omega)
theorem DG.grq {w wx wy:World} {b P C k q:Nat} (h:DG w b P C k wx) (g:wx.grownBy wy (some q)) (hq:w.heap.size≤q) (hb:b<q):DG w b P C k wy:=⟨gr_new h.1 g hq,h.2.grq g hb⟩
section
variable {P : Program}
end
theorem IQ.splq {B:Int} {w:World} {q T n off:Nat} {zs ys:List Int} (p:IB w q T (spl zs off ys)) (hl:zs.length=n) (hz:bdI B zs) (hy:bdI B ys) (ho:off+ys.length≤n):IQ B w q T n :=
 ⟨_,p,by rw[spl_len (by omega),hl],bdI_spl hz hy (by omega)⟩
theorem odd_any (b P:Nat) (n:Int) (w:World) (h:RdP w b P) (hp:P<2^40) (hn0:0≤n) (hn:n≤1000000000) :
 Calls Tryz.prog 88 #[.pointer (some ⟨b,0,none⟩),.int .i64 n] w fun e w'=>∃ x:Bool,e= .returned (.bool x)∧RdP w' b (P+1)∧w.grownBy w' (some b):=by
 by_cases hz:n=0
 ·subst hz;refine(odd_0 b 0 _ (by omega)).mono ?_
  rintro e w' ⟨rfl,rfl⟩
  exact⟨false,rfl,h.mono (by omega),grown_refl _ _⟩
 ·refine(odd_c b P n _ h hp (by omega) hn).mono ?_
  rintro e w' ⟨x,rfl,r,g⟩
  exact⟨x,rfl,r,g⟩
/-- What holds while a macroblock is drawn. -/
def MG (w:World) (b P k q:Nat) (wx:World):Prop:=DG w b P 1 k wx∧IQ 10000 wx q 32 71∧IB wx w.heap.size 32 (zl 71)∧b<w.heap.size∧w.heap.size<q
theorem MG.step {w wx:World} {b P k q:Nat} (h:MG w b P k q wx):MG w b P (k+1) q wx:=⟨h.1.step,h.2⟩
theorem MG.more {w wx wy:World} {b P k q:Nat} (h:MG w b P k q wx) (e:wx.grownBy wy (some b)) (r:RdP wy b (P+k*1+1)) (_:1≤1):MG w b P (k+1) q wy:=⟨h.1.more e r (Nat.le_refl _),h.2.1.gr e (by have:=h.2.2.2;omega),h.2.2.1.gr e (by have:=h.2.2.2;simp;omega),h.2.2.2⟩
theorem MG.ext {w wx wy:World} {b P k q:Nat} (h:MG w b P k q wx) (e:Ext wx wy):MG w b P (k+1) q wy:=⟨h.1.ext e,h.2.1.ext e,h.2.2.1.ext e,h.2.2.2⟩
theorem MG.ext0 {w wx wy:World} {b P k q:Nat} (h:MG w b P k q wx) (e:Ext wx wy):MG w b P k q wy:=⟨⟨grown_ext h.1.1 e,h.1.2.ext e⟩,h.2.1.ext e,h.2.2.1.ext e,h.2.2.2⟩
theorem MG.drew {w wx:World} {b P k q:Nat} (h:MG w b P k q wx):MG w b P k q wx.drew:=⟨h.1.drew,h.2.1.ext (Ext.drewN _ 1),h.2.2.1.ext (Ext.drewN _ 1),h.2.2.2⟩
theorem MG.up {w wx:World} {b P k k' q:Nat} (h:MG w b P k q wx) (hk:k≤k'):MG w b P k' q wx:=⟨⟨h.1.1,h.1.2.mono (by omega)⟩,h.2⟩
theorem MG.re {w wx:World} {b P k q P':Nat} (h:MG w b P k q wx) (hP:P+k≤P'):MG w b P' 0 q wx:=⟨h.1.reset (by omega) 1,h.2⟩
theorem MG.set {w wx:World} {b P k q:Nat} (h:MG w b P k q wx) (i:Nat) (v:Int) (h1 : -10000≤v) (h2:v≤10000):MG w b P k q (wx.setCell ⟨q,i,none⟩ (.int .i64 v)) :=
 ⟨h.1.set (Nat.le_of_lt h.2.2.2.2) (Nat.lt_trans h.2.2.2.1 h.2.2.2.2),h.2.1.set i v h1 h2,h.2.2.1.set_other (by have:=h.2.2.2;omega),h.2.2.2⟩
theorem MG.spl {w wx wy:World} {b P k q off:Nat} {zs ys:List Int} (h:MG w b P k q wx) (g:wx.grownBy wy (some q)) (p:IB wy q 32 (spl zs off ys)) (hl:zs.length=71) (hz:bdI 10000 zs) (hy:bdI 10000 ys) (ho:off+ys.length≤71):MG w b P k q wy :=
 ⟨h.1.grq g (Nat.le_of_lt h.2.2.2.2) (Nat.lt_trans h.2.2.2.1 h.2.2.2.2),IQ.splq p hl hz hy ho,h.2.2.1.gr g (by have:=h.2.2.2;simp;omega),h.2.2.2⟩
theorem MG.cell {w wx:World} {b P k q:Nat} (h:MG w b P k q wx) {i:Nat} (hi:i<71):∃ v:Int,wx.cell? ⟨q,i,none⟩=some (.int .i64 v)∧wx.frozen? ⟨q,i,none⟩=false ∧ -10000≤v∧v≤10000:=h.2.1.cell hi
end Go.Proofs.YtbnhaegidfbgbaaGreatDoor
