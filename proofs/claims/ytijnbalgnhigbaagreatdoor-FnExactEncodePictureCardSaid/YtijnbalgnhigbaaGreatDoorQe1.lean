/- Part 1 of the proof. -/
import Derived.Test.YtijnbalgnhigbaaGreatDoorRows
import Derived.WalkKit
import Derived.WalkSpells
import Derived.WalkLawsBesides
import Derived.Lib.Hide
import Derived.BigQuiet
import Derived.Deep.QuietTactic
import Derived.Deep.LoopGhost
import Derived.Deep.RegionHeld3
import Derived.Deep.RegionWith
import Derived.Laws.Bits64
import Derived.ChangeKeysEq
import Derived.Laws.Tables
import Derived.Laws.StructEq
import Derived.RegionTactic
import Derived.Deep.Cut
import Derived.RangeFuncNested
import Derived.RangeFuncBound
import Derived.RangeFuncCalls
import Derived.RangeFuncLeaves
import Derived.Shelf.Abstract
import Derived.Shelf.RegionOpen
import Derived.OwnWalkIn
import Derived.TacticsInMore
import Derived.LoopNIn
import Derived.LoopIn
import Derived.OrdersIn
set_option linter.defProp false
set_option linter.unusedVariables false
set_option linter.unusedSimpArgs false
set_option maxRecDepth 100000
set_option maxHeartbeats 4000000
namespace Go.Proofs.YtijnbalgnhigbaaGreatDoor
open Go.RowKit
theorem Aa {p:Prop}(h:p):Hid p:=Lib.hid h
def Rm:=@Tryz.underlying47
def Ro:=@Tryz.underlying50
def Rp:=@Tryz.underlying46
def Rq:=@Tryz.underlying67
def Rr:=@Tryz.underlying45
def Rs:=@Tryz.underlying48
def Rt:=@Tryz.underlying3
def Ru:=@Tryz.underlying88
def Rv:=@Tryz.underlying22
def Rw:=@Tryz.underlying28
def Ry:=@Tryz.underlying54
def Rz:=@Tryz.underlying26
def RA:=@Tryz.underlying30
def nth (zs:List Int)(i:Nat):Int:=zs.getD i 0
def nthB (zs:List Bool)(i:Nat):Bool:=zs.getD i false
theorem Cc (zs:List Int)(i:Nat)(h:i<zs.length):nth zs i=zs[i]:=by simp[nth,h]
def Sl (w:World)(a:Option Addr)(n:Nat)(xs:List Value):Prop :=
 xs.length=n∧∀ i,i<n→∃ b off,a=some ⟨b,off,none⟩∧w.cell? ⟨b,off+i,none⟩=some (xs.getD i undef)
abbrev Ext (w w' : World) : Prop := Below w.heap.size w w'
theorem Ext.trans {a b c:World}(h:Ext a b)(k:Ext b c):Ext a c:=Below.trans h (Below.mono k h.size)
theorem Ext.drewN (w:World)(n:Nat):Ext w (w.drewN n):=⟨rfl,rfl,rfl,Nat.le_refl _,fun _ _=>rfl⟩
theorem Ext.trans_drewN {a b:World}(h:Ext a b)(n:Nat):Ext a (b.drewN n):=Ext.trans h (Ext.drewN b n)
theorem Ext.grown {a w w':World}{row:Option Nat}(h:Ext a w)(hg:w.grownBy w' row)(hr:∀ k,row=some k→a.heap.size≤k):Ext a w' :=
 Below.grown h hg h.size hr
theorem Ext.alloc (w:World)(o:Obj):Ext w (w.alloc o):=Below.alloc (Below.refl _ _) (Nat.le_refl _) _
theorem AI {w w':World}{a:Addr}{v:Value}(e:Ext w w')(h:w.cell? a=some v):w'.cell? a=some v:=by
 rw[Below.cell e (World.block_lt_of_cell? w _ h)];exact h
theorem Ext.blk {w w':World}{b:Nat}{o:Obj}(e:Ext w w')(h:w.heap[b]?=some o):w'.heap[b]?=some o:=by
 rw[e.block b (lt_of_block h)];exact h
theorem Cy {w:World}{b:Nat}{o:Obj}(h:w.heap[b]?=some o)(x:Obj):(w.alloc x).heap[b]?=some o:=by
 rw[Below.heap_alloc _ _ _ (lt_of_block h)];exact h
theorem Aj (w:World)(o:Obj):(w.alloc o).heap[w.heap.size]?=some o:=heap_alloc_new w o
theorem Oh {w:World}{b:Nat}{o:Obj}(h:w.heap[b]?=some o)(n:Nat):(w.drewN n).heap[b]?=some o:=h
theorem Fu {w:World}{b:Nat}{x y z x' y' z':Value}{T:TypeId}(h:w.heap[b]?=some (.cells #[x,y,z] T (0,0))):(((w.setCell ⟨b,0,none⟩ x').setCell ⟨b,1,none⟩ y').setCell ⟨b,2,none⟩ z').heap[b]?=some (.cells #[x',y',z'] T (0,0)):=by
 have h1:=heap_setCell_same w b 0 _ _ x' h;have h2:=heap_setCell_same _ b 1 _ _ y' h1;have h3:=heap_setCell_same _ b 2 _ _ z' h2
 simpa using h3
theorem Ai {w:World}{b c i:Nat}{v:Value}{o:Obj}(h:w.heap[b]?=some o)(hne:b≠c):(w.setCell ⟨c,i,none⟩ v).heap[b]?=some o:=by
 rw[Below.heap_setCell _ _ _ _ hne];exact h
theorem bx1 {w:World}{b:Nat}{x:Value}{T:TypeId}(h:w.heap[b]?=some (.cells #[x] T (0,0))):b<w.heap.size∧w.cell? ⟨b,0,none⟩=some x∧w.frozen? ⟨b,0,none⟩=false :=
 ⟨lt_of_block h,by simp[World.cell?,h],by simp[World.frozen?,h]⟩
theorem bx2 {w:World}{b:Nat}{x y:Value}{T:TypeId}(h:w.heap[b]?=some (.cells #[x,y] T (0,0))):b<w.heap.size∧w.cell? ⟨b,0,none⟩=some x∧w.cell? ⟨b,1,none⟩=some y∧w.frozen? ⟨b,0,none⟩=false∧w.frozen? ⟨b,1,none⟩=false :=
 ⟨lt_of_block h,by simp[World.cell?,h],by simp[World.cell?,h],by simp[World.frozen?,h],by simp[World.frozen?,h]⟩
theorem bx3 {w:World}{b:Nat}{x y z:Value}{T:TypeId}(h:w.heap[b]?=some (.cells #[x,y,z] T (0,0))):b<w.heap.size∧w.cell? ⟨b,0,none⟩=some x∧w.cell? ⟨b,1,none⟩=some y∧w.cell? ⟨b,2,none⟩=some z∧w.frozen? ⟨b,0,none⟩=false∧w.frozen? ⟨b,1,none⟩=false∧w.frozen? ⟨b,2,none⟩=false :=
 ⟨lt_of_block h,by simp[World.cell?,h],by simp[World.cell?,h],by simp[World.cell?,h],by simp[World.frozen?,h],by simp[World.frozen?,h],by simp[World.frozen?,h]⟩
theorem Sl.len {w:World}{a:Option Addr}{n:Nat}{xs:List Value}(h:Sl w a n xs):xs.length=n:=h.1
theorem Sl.ext {w w':World}{a:Option Addr}{n:Nat}{xs:List Value}(h:Sl w a n xs)(e:Ext w w'):Sl w' a n xs:=by
 refine⟨h.1,fun i hi => ?_⟩;obtain⟨b,off,ha,hc⟩:=h.2 i hi;exact⟨b,off,ha,by rw[Below.cell e (World.block_lt_of_cell? w _ hc)];exact hc⟩
theorem Sl.drewN {w:World}{a:Option Addr}{n:Nat}{xs:List Value}(h:Sl w a n xs)(m:Nat):Sl (w.drewN m) a n xs:=h
theorem Sl.grown {w w':World}{a:Option Addr}{n:Nat}{xs:List Value}{row:Option Nat}(h:Sl w a n xs)(hg:w.grownBy w' row)(hr:∀ x,a=some x→some x.block≠row):Sl w' a n xs:=by
 refine⟨h.1,fun i hi => ?_⟩;obtain⟨b,off,ha,hc⟩:=h.2 i hi;exact⟨b,off,ha,hg.cell hc (hr ⟨b,off,none⟩ ha)⟩
theorem Sl.nil (w:World)(a:Option Addr):Sl w a 0 []:=⟨rfl,fun i hi=>by omega⟩
theorem Sl.int {k:IntKind}{w:World}{a:Option Addr}{n:Nat}{zs:List Int}(h:Sl w a n (zs.map (Value.int k))){i:Nat}(hi:i<n):
 ∃ b off,a=some ⟨b,off,none⟩∧w.cell? ⟨b,off+i,none⟩=some (.int k (nth zs i)):=by
 obtain⟨b,off,ha,hc⟩:=h.2 i hi;have hl:i<zs.length:=by have:=h.1;simp at this;omega
 refine⟨b,off,ha,?_⟩;rw[hc];simp[nth,hl]
theorem Sl.bool {w:World}{a:Option Addr}{n:Nat}{zs:List Bool}(h:Sl w a n (zs.map Value.bool)){i:Nat}(hi:i<n):
 ∃ b off,a=some ⟨b,off,none⟩∧w.cell? ⟨b,off+i,none⟩=some (.bool (nthB zs i)):=by
 obtain⟨b,off,ha,hc⟩:=h.2 i hi;have hl:i<zs.length:=by have:=h.1;simp at this;omega
 refine⟨b,off,ha,?_⟩;rw[hc];simp[nthB,hl]
theorem Sl.int_len {k:IntKind}{w:World}{a:Option Addr}{n:Nat}{zs:List Int}(h:Sl w a n (zs.map (Value.int k))):zs.length=n:=by
 have:=h.1;simpa using this
theorem Sl.of_owns {w:World}{base e n:Nat}{a:Option Addr}{cap:Nat}{xs:List Value}(h:w.ownsRow base e 1 (.slice a n cap) n xs):Sl w a n xs:=by
 refine⟨by have:=h.1;omega,fun i hi => ?_⟩;rcases h.2 with⟨_,h0⟩|⟨g,c,cur,hv,_⟩
 ·omega
 ·simp only[Value.slice.injEq]at hv;obtain⟨rfl,_,rfl⟩:=hv;refine⟨g,0,rfl,?_⟩;have hl:i<xs.length:=by have:=h.1;omega
  rw[Nat.zero_add,h.cellAt i (by omega)];simp[hl]
theorem Hw {xs ys:List Int}(hl:xs.length=ys.length)(h:∀ i,i<xs.length→nth xs i=nth ys i):xs=ys:=by
 apply List.ext_getElem hl;intro i h1 h2;have:=h i h1;rw[Cc _ _ h1,Cc _ _ h2]at this;exact this
theorem Kj (zs:List Int)(k:Nat)(h:k<zs.length):zs.take (k+1)=zs.take k ++ [nth zs k]:=by
 rw[List.take_succ_eq_append_getElem h,Cc _ _ h]
theorem Ay {a b:Bool}(h:a=b):Ending.returned (.bool a) = .returned (.bool b):=by rw[h]
theorem BY {k:IntKind}{a b:Int}(h:a=b):Ending.returned (.int k a) = .returned (.int k b):=by rw[h]
def mix (xs ys:List Value)(k:Nat):List Value:=xs.take k++ys.drop k
theorem Ig (xs ys:List Value):mix xs ys 0=ys:=by simp[mix]
theorem Jc (xs ys:List Value)(k:Nat)(h1:xs.length=k)(h2:ys.length=k):mix xs ys k=xs:=by
 unfold mix;rw[List.take_of_length_le (by omega),List.drop_of_length_le (by omega),List.append_nil]
theorem Jd (xs ys:List Value)(k:Nat)(h:xs.length=ys.length)(hk:k<xs.length)(u:Value)(hu:xs.getD k undef=u):(mix xs ys k).set k u=mix xs ys (k+1):=by
 subst hu;have hl:(xs.take k).length=k:=by simp;omega
 have hk':k<ys.length:=by omega
 unfold mix;rw[List.drop_eq_getElem_cons hk',List.set_append_right _ _ (by omega),hl,Nat.sub_self,List.set_cons_zero,List.take_succ_eq_append_getElem hk,List.append_assoc];simp[hk]
theorem getD_map_int (k:IntKind)(zs:List Int)(i:Nat)(h:i<zs.length):(zs.map (Value.int k)).getD i undef= .int k (nth zs i):=by simp[nth,h]
theorem Al {w:World}{base e size:Nat}{v:Value}{n:Nat}{xs:List Value}(h:w.ownsRow base e size v n xs):∃ a cap,v= .slice a n cap:=by
 rcases h.2 with⟨rfl,rfl⟩|⟨g,c,cur,rfl,_⟩
 ·exact⟨none,0,rfl⟩
 ·exact⟨_,_,rfl⟩
theorem Ii {w:World}{base e g n cap:Nat}{xs:List Value}(h:w.ownsRow base e 1 (.slice (some ⟨g,0,none⟩) n cap) n xs){j:Nat}(hj:j<n):∃ u,w.cell? ⟨g,j,none⟩=some u∧xs[j]?=some u:=by
 have hl:j<xs.length:=by have:=h.1;omega
 exact⟨xs[j],by rw[h.cellAt j (by omega)];simp[hl],by simp[hl]⟩
theorem AH {w:World}{base base' e size:Nat}{v:Value}{n:Nat}{xs:List Value}(h:w.ownsRow base e size v n xs)(hb:base'≤base):w.ownsRow base' e size v n xs:=by
 obtain⟨h1,h2⟩:=h;refine⟨h1,?_⟩;rcases h2 with h2|⟨g,cap,cur,hv,hg,r⟩
 ·exact .inl h2
 ·exact .inr ⟨g,cap,cur,hv,by omega,r⟩
theorem Ae {w w':World}{base e size:Nat}{v:Value}{n:Nat}{xs:List Value}(h:w.ownsRow base e size v n xs)(x:Ext w w'):w'.ownsRow base e size v n xs:=by
 obtain⟨h1,h2⟩:=h;refine⟨h1,?_⟩;rcases h2 with h2|⟨g,cap,cur,hv,hg,r1,r2⟩
 ·exact .inl h2
 ·exact .inr ⟨g,cap,cur,hv,hg,x.blk r1,r2⟩
theorem grownBy_trans {a b c:World}{row:Option Nat}(h:a.grownBy b row)(k:b.grownBy c row):a.grownBy c row :=
 ⟨k.os.trans h.os,k.tape.trans h.tape,k.output.trans h.output,Nat.le_trans h.size k.size,fun i hi hne=>(k.block i (Nat.lt_of_lt_of_le hi h.size) hne).trans (h.block i hi hne)⟩
theorem Bt {w:World}{base e size:Nat}{v:Value}{n:Nat}{xs:List Value}(h:w.ownsRow base e size v n xs):∀ k,v.ownBlock=some k→base≤k:=fun k hk=>(h.lt k hk).1
theorem Md {w:World}{base e size n cap:Nat}{a:Option Addr}{xs:List Value}(h:w.ownsRow base e size (.slice a n cap) n xs):n≤cap∧cap≤maxLen:=by
 rcases h.2 with⟨h1,h2⟩|⟨g,c,cur,hv,_,_,h1,h2,_⟩
 ·simp at h1;obtain⟨-,rfl,rfl⟩:=h1;exact⟨Nat.le_refl _,by simp⟩
 ·simp at hv;obtain⟨-,rfl⟩:=hv;exact⟨h1,h2⟩
theorem KG {P:Program}(w:World){ops:Array Oper}{rest:List Oper}{o:Oper}{a:Act}{Q:Exit→Act→World→Prop}
 (hg:o.guard=none) (l c:Operand) (t:TypeId) (hop:o.op=Op.makeSlice t l c)
 (e:TypeId) (z:Value) (bytes:Nat) (h1:P.underlying t=some (.slice e)) (h2:(P.info? e).map (fun i=>(i.zero,i.size,i.bytes))=some (some z,1,bytes)) (hz1:z.cells = #[z])
 (L:Int) (n:Nat) (hl:a.eval l= .int .i64 L) (hc:a.eval c= .int .i64 L) (hL:L=(n:Int)) (b2:n*bytes≤281474976710656) (b3:n<2^62)
 (hK:∀ w',w'.ownsRow w.heap.size e 1 (.slice (some ⟨w.heap.size,0,none⟩) n n) n (List.replicate n z)→w.grownBy w' none→wpList P ops Q rest (a.put o.dst (.slice (some ⟨w.heap.size,0,none⟩) n n)) w') :
 wpList P ops Q (o::rest) a w:=by
 obtain⟨i0,hi,hz0,hz1',hz2⟩:=info_parts h2;refine wpList_make_full w hg l c t hop w.heap.size e i0 z 1 h1 hi hz0 hz1' .i64 .i64 L L n hl hc hL hL ?_ ?_ (Nat.le_refl _) ?_
 ·rw[hz2,Nat.mul_comm];exact b2
 ·unfold maxLen;omega
 ·intro w' h3 h4;refine hK w' ?_ h4;rw[Nat.mul_one,hz1,toList_madeCells_one]at h3;exact h3
theorem Nt {P:Program}(w:World){ops:Array Oper}{rest:List Oper}{o:Oper}{a:Act}{Q:Exit→Act→World→Prop}
 (hg:o.guard=none) (l c:Operand) (t:TypeId) (hop:o.op=Op.makeSlice t l c)
 (e:TypeId) (z:Value) (bytes:Nat) (h1:P.underlying t=some (.slice e)) (h2:(P.info? e).map (fun i=>(i.zero,i.size,i.bytes))=some (some z,1,bytes))
 (L:Int) (n:Nat) (hl:a.eval l= .int .i64 0) (hc:a.eval c= .int .i64 L) (hL:L=(n:Int)) (b2:n*bytes≤281474976710656) (b3:n<2^62)
 (hK:∀ w' v,w'.ownsRow w.heap.size e 1 v 0 []→w.grownBy w' none→wpList P ops Q rest (a.put o.dst v) w') :
 wpList P ops Q (o::rest) a w:=by
 obtain⟨i0,hi,hz0,hz1',hz2⟩:=info_parts h2;refine wpList_make_own w hg l c t hop w.heap.size e i0 z 1 h1 hi hz0 hz1' .i64 .i64 L n hl hc hL ?_ ?_ (Nat.le_refl _) ?_
 ·rw[hz2,Nat.mul_comm];exact b2
 ·unfold maxLen;omega
 ·intro w' h3 h4;exact hK w' _ h3 h4
theorem CH {P:Program}(wr:World){ops:Array Oper}{rest:List Oper}{o:Oper}{a:Act}{Q:Exit→Act→World→Prop}{base e:Nat}{v:Value}{n:Nat}{xs:List Value}
 (hown:wr.ownsRow base e 1 v n xs) (hbase:base≤wr.heap.size) (u:Value)
 (hg:o.guard=none) (s x:Operand) (t:TypeId) (ho:o.op= .call { callee := .builtin .append,args := #[s,x],argTypes := #[t,t] })
 (z:Value) (bytes:Nat) (h1:P.underlying t=some (.slice e)) (h2:(P.info? e).map (fun i=>(i.zero,i.size,i.bytes))=some (some z,1,bytes)) (hz1:z.cells.size=1)
 (hs:a.eval s=v) (hx:a.eval x= .slice (some ⟨wr.heap.size,0,none⟩) 1 1) (hu1:u.oneCell'=true)
 (hb:(n+1)*bytes≤140737488355328) (hn:n<2^62)
 (h:∀ v' w',w'.ownsRow base e 1 v' (n+1) (xs ++ [u])→wr.grownBy w' v.ownBlock→v' ≠ .slice none 0 0→wpList P ops Q rest (a.put o.dst v') w'):wpList P ops Q (o::rest) a (wr.alloc (.cells #[u] e)):=by
 obtain⟨i0,hi,hz0,hz1',hz2⟩:=info_parts h2;refine wpList_append_own _ hg s x t ho base e i0 z 1 bytes h1 hi hz0 hz1' hz2 hz1 (by decide) v n xs hs (hown.alloc _) ⟨wr.heap.size,0,none⟩ 1 1 [u] hx rfl ?_ ?_ ?_ hb ?_ ?_
 ·intro j q hq
  match j,hq with
  | 0,hq =>
   simp at hq;subst hq;simp[Addr.add,World.cell?_alloc_at]
 ·intro q hq;simp at hq;subst hq;exact hu1
 ·unfold maxLen;omega
 ·simp;omega
 ·intro v' w' a1 a2 a3;exact h v' w' a1 (grownBy_trans (World.grownBy_alloc _ _ _) a2) (fun hv=>by have:=a3.1 hv;omega)
end Go.Proofs.YtijnbalgnhigbaaGreatDoor
namespace Go.Proofs.YtijnbalgnhigbaaGreatDoor

def ab (x y:Int):Int:=max x (-x)+max y (-y)
def leV (c:Int→Int→Int)(x y u v:Int):Prop:=c x y<c u v∨(c x y=c u v∧(ab x y<ab u v∨(ab x y=ab u v∧(y<v∨(y=v∧x≤u)))))
def boxV (x y:Int):Prop := -4≤x∧x≤4 ∧ -4≤y∧y≤4
def IsBest (c:Int→Int→Int)(s:Int×Int):Prop:=boxV s.1 s.2∧∀ u v,boxV u v→leV c s.1 s.2 u v
theorem leV.anti {c:Int→Int→Int}{x y u v:Int}(h:leV c x y u v)(k:leV c u v x y):x=u∧y=v:=by
 unfold leV at *;omega
theorem leV.trans {c:Int→Int→Int}{x y u v s t:Int}(h:leV c x y u v)(k:leV c u v s t):leV c x y s t:=by
 unfold leV at *;omega
theorem leV.refl (c:Int→Int→Int)(x y:Int):leV c x y x y:=by
 unfold leV;omega
theorem IsBest.uniq {c:Int→Int→Int}{s t:Int×Int}(h:IsBest c s)(k:IsBest c t):s=t:=by
 have:=(h.2 _ _ k.1).anti (k.2 _ _ h.1);exact Prod.ext this.1 this.2
def oneV (sum y:Int):List (Int×Int):=if sum-max y (-y)>4 then []else if sum-max y (-y)>0 then [(-(sum-max y (-y)),y),(sum-max y (-y),y)]else [(-(sum-max y (-y)),y)]
def rowV (s:Nat):Nat→List (Int×Int)
 | 0 => []
 | j+1=>rowV s j++oneV s (-(min (s:Int) 4)+j)
def vecS : Nat→List (Int×Int)
 | 0 => []
 | s+1=>vecS s++rowV s (2*min s 4+1)
def vecL : List (Int×Int):=vecS 9
def ltV (a b:Int×Int):Bool:=decide (ab a.1 a.2<ab b.1 b.2∨(ab a.1 a.2=ab b.1 b.2∧(a.2<b.2∨(a.2=b.2∧a.1<b.1))))
def srt : List (Int×Int)→Bool
 | []=>true
 | a::l=>l.all (ltV a) && srt l
theorem PU : srt vecL=true:=by decide +kernel
theorem PS : (List.range 9).all (fun i=>(List.range 9).all fun j=>vecL.contains (((i:Nat):Int)-4,((j:Nat):Int)-4))=true:=by decide +kernel
theorem PQ : vecL.all (fun v=>decide (-4≤v.1∧v.1≤4 ∧ -4≤v.2∧v.2≤4))=true:=by decide +kernel
theorem PT {x y:Int}(h:boxV x y):(x,y)∈vecL:=by
 have h1:=List.all_eq_true.1 PS (x+4).toNat (by unfold boxV at h;simp;omega);have h2:=List.all_eq_true.1 h1 (y+4).toNat (by unfold boxV at h;simp;omega);unfold boxV at h;rw[show(((x+4).toNat:Nat):Int)-4=x by omega,show(((y+4).toNat:Nat):Int)-4=y by omega]at h2
 simpa using h2
def nxI (c:Int→Int→Int)(s:(Int×Int)×Int)(v:Int×Int):(Int×Int)×Int:=if s.2<0∨c v.1 v.2<s.2 then(v,c v.1 v.2)else s
def stI (c:Int→Int→Int)(l:List (Int×Int)):(Int×Int)×Int:=l.foldl (nxI c) ((0,0),-1)
theorem PH (c:Int→Int→Int)(l:List (Int×Int))(v:Int×Int):stI c (l ++ [v])=nxI c (stI c l) v:=by simp[stI]
theorem Or (c:Int→Int→Int)(h:∀ x y,0≤c x y)(l:List (Int×Int))(s:(Int×Int)×Int)(hs:s.2=0):l.foldl (nxI c) s=s:=by
 induction l with
 | nil=>rfl
 | cons v l ih =>
  have:nxI c s v=s:=by
   unfold nxI;rw[if_neg (by have:=h v.1 v.2;omega)]
  rw[List.foldl_cons,this,ih]
theorem PI (c:Int→Int→Int)(h:∀ x y,0≤c x y){l m:List (Int×Int)}(hp:l <+: m)(hs:(stI c l).2=0):stI c m=stI c l:=by
 obtain⟨t,rfl⟩:=hp;unfold stI;rw[List.foldl_append];exact Or c h t _ hs
theorem Oq (c:Int→Int→Int)(h:∀ x y,0≤c x y)(l:List (Int×Int))(b:Int×Int)(hb:l.all (ltV b)=true)(hs:srt l=true):
 let r:=(l.foldl (nxI c) (b,c b.1 b.2)).1
 (r=b∨r∈l)∧leV c r.1 r.2 b.1 b.2∧∀ v∈l,leV c r.1 r.2 v.1 v.2:=by
 induction l generalizing b with
 | nil=>exact⟨.inl rfl,leV.refl _ _ _,by simp⟩
 | cons v l ih =>
  simp only[srt,Bool.and_eq_true,List.all_cons]at hs hb;have hbv:=of_decide_eq_true hb.1;rw[List.foldl_cons]
  by_cases hc:c v.1 v.2<c b.1 b.2
  ·have e:nxI c (b,c b.1 b.2) v=(v,c v.1 v.2):=by unfold nxI;exact if_pos (.inr hc)
   rw[e];obtain⟨h1,h2,h3⟩:=ih v hs.1 hs.2;refine⟨.inr (h1.elim (fun e=>List.mem_cons.2 (.inl e)) (List.mem_cons_of_mem _)),h2.trans (.inl hc),fun u hu => ?_⟩;rcases List.mem_cons.1 hu with rfl|hu
   ·exact h2
   ·exact h3 u hu
  ·have hn:=h b.1 b.2;have e:nxI c (b,c b.1 b.2) v=(b,c b.1 b.2):=by unfold nxI;exact if_neg (by simp only;omega)
   rw[e];obtain⟨h1,h2,h3⟩:=ih b hb.2 hs.2;refine⟨h1.imp id (List.mem_cons_of_mem _),h2,fun u hu => ?_⟩;rcases List.mem_cons.1 hu with rfl|hu
   ·refine h2.trans ?_;unfold leV;omega
   ·exact h3 u hu
theorem Mo (c:Int→Int→Int)(h:∀ x y,0≤c x y):IsBest c (stI c vecL).1:=by
 obtain⟨v,l,hl⟩:∃ v l,vecL=v::l:=⟨_,_,rfl⟩;have hs:=PU;have hx:=PQ;have hm := @PT;rw[hl]at hs hx hm⊢;simp only[srt,Bool.and_eq_true]at hs;have e:stI c (v::l)=l.foldl (nxI c) (v,c v.1 v.2):=by
  unfold stI;rw[List.foldl_cons]
  congr 1
 rw[e];obtain⟨h1,h2,h3⟩:=Oq c h l v hs.1 hs.2;refine⟨?_,fun x y hxy => ?_⟩
 ·have:∀ r,(r=v∨r∈l)→boxV r.1 r.2:=by
   intro r hr;have:=List.all_eq_true.1 hx r (by rcases hr with rfl|hr <;> simp[*]);exact of_decide_eq_true (p := -4≤r.1∧r.1≤4 ∧ -4≤r.2∧r.2≤4) this
  exact this _ h1
 ·rcases List.mem_cons.1 (hm hxy)with e|hu
  ·have e1:=congrArg Prod.fst e;have e2:=congrArg Prod.snd e;simp only at e1 e2;rw[e1,e2];exact h2
  ·exact h3 _ hu
def nxS (c:Int→Int→Int)(s:(Int×Int)×Int)(v:Int×Int):(Int×Int)×Int:=if c v.1 v.2<s.2∨(c v.1 v.2=s.2∧ab v.1 v.2<ab s.1.1 s.1.2)then(v,c v.1 v.2)else s
def vat (k:Nat):Int×Int:=(((k%9:Nat):Int)-4,((k/9:Nat):Int)-4)
def stS (c:Int→Int→Int):Nat→(Int×Int)×Int
 | 0=>((0,0),c 0 0)
 | k+1=>nxS c (stS c k) (vat k)
theorem Lo (c:Int→Int→Int)(k:Nat)(hk:k≤81):
 (stS c k).2=c (stS c k).1.1 (stS c k).1.2∧boxV (stS c k).1.1 (stS c k).1.2∧((stS c k).1=(0,0)∨∃ m,m<k∧(stS c k).1=vat m)∧leV c (stS c k).1.1 (stS c k).1.2 0 0∧∀ m,m<k→leV c (stS c k).1.1 (stS c k).1.2 (vat m).1 (vat m).2:=by
 induction k with
 | zero=>exact⟨rfl,by unfold boxV;simp[stS],.inl rfl,leV.refl _ _ _,fun m hm=>by omega⟩
 | succ k ih =>
  obtain⟨h1,hb,h2,h3,h4⟩:=ih (by omega);have hbx:boxV (vat k).1 (vat k).2:=by
   have:k/9<9:=by omega
   unfold boxV vat;simp;omega
  unfold stS;unfold nxS;generalize stS c k=s at *;obtain⟨⟨bx,by'⟩,ls⟩:=s;simp only at h1 hb h2 h3 h4⊢;subst h1;obtain⟨v,hv⟩:∃ v,v=vat k:=⟨_,rfl⟩;rw[←hv]at hbx⊢
  by_cases hc:c v.1 v.2<c bx by'∨(c v.1 v.2=c bx by'∧ab v.1 v.2<ab bx by')
  ·rw[if_pos hc];have hl:leV c v.1 v.2 bx by':=by unfold leV;omega
   refine⟨rfl,hbx,.inr ⟨k,by omega,hv⟩,hl.trans h3,fun m hm => ?_⟩
   by_cases e:m=k
   ·subst e;rw[←hv];exact leV.refl _ _ _
   ·exact hl.trans (h4 m (by omega))
  ·rw[if_neg hc];refine⟨rfl,hb,h2.imp id (fun⟨m,h,e⟩=>⟨m,by omega,e⟩),h3,fun m hm => ?_⟩
   by_cases e:m=k
   ·subst e;rw[←hv];show leV c bx by' v.1 v.2
    rcases h2 with h2|⟨n,hn,h2⟩
    ·obtain⟨rfl,rfl⟩:=Prod.mk.inj h2;have h0:ab 0 0=0:=by decide
     have h5:0<ab v.1 v.2∨(v.1=0∧v.2=0):=by unfold ab;omega
     rcases h5 with h5|⟨e1,e2⟩
     ·unfold leV;omega
     ·rw[e1,e2];exact leV.refl _ _ _
    ·have e1:=congrArg Prod.fst h2;have e2:=congrArg Prod.snd h2;have e3:=congrArg Prod.fst hv;have e4:=congrArg Prod.snd hv;simp only[vat]at e1 e2 e3 e4;have:by'<v.2∨(by'=v.2∧bx≤v.1):=by omega
     unfold leV;omega
   ·exact h4 m (by omega)
theorem PK (c:Int→Int→Int):IsBest c (stS c 81).1:=by
 obtain⟨h1,hb,h2,h3,h4⟩:=Lo c 81 (Nat.le_refl _);refine⟨hb,fun u v hv => ?_⟩;unfold boxV at hv;have:=h4 (9*(v+4).toNat+(u+4).toNat) (by omega);have e:vat (9*(v+4).toNat+(u+4).toNat)=(u,v):=by
  unfold vat;refine Prod.ext ?_ ?_ <;> simp <;> omega
 rw[e]at this;exact this
theorem Of (c:Int→Int→Int)(h:∀ x y,0≤c x y):(stS c 81).1=(stI c vecL).1:=(PK c).uniq (Mo c h)
end Go.Proofs.YtijnbalgnhigbaaGreatDoor
namespace Go.Proofs.YtijnbalgnhigbaaGreatDoor
open Go.RowKit
theorem Cp : (Tryz.prog.info? 3).map (fun i=>(i.zero,i.size,i.bytes))=some (some (.int .i64 0),1,8):=by kernel_rfl
theorem Nq (a:Option Addr)(c n:Nat)(xs:List Int)(w:World)(hn:n<2^45)
 (r:Sl w a n (xs.map (Value.int .i64))) :
 Calls Tryz.prog 18 #[.slice a n c] w fun e w'=>∃ v,e= .returned v∧w'.ownsRow w.heap.size 3 1 v n (xs.map (Value.int .i64))∧Ext w w':=by
 go_enter Tryz.func18,Tryz.ntmps18
 go_wp2_with (at_make;refine KG _ rfl _ _ 22 rfl 3 (.int .i64 0) 8 Rv Cp rfl _ n rfl rfl rfl (by omega) (by omega) ?_;intro w1 hown hgrow)
 have E1:Ext w w1:=(Ext.grown (Below.refl _ _) hgrow (by simp));have H0:=Ig (xs.map (Value.int .i64)) (List.replicate n (.int .i64 0));rw[←H0]at hown;clear H0 hgrow;go_loopw [4] (fun i wr=>∃ k:Nat,k≤n∧i= .int .i64 k∧Ext w wr∧wr.ownsRow w.heap.size 3 1 (.slice (some ⟨w.heap.size,0,none⟩) n n) n (mix (xs.map (Value.int .i64)) (List.replicate n (.int .i64 0)) k)) (fun i _=>n-(intOf i).toNat)
 case atStart=>exact⟨0,by omega,rfl,E1,hown⟩
 case round =>
  obtain⟨k,hk,rfl,E2,hown2⟩:=hrel;clear hown E1
  by_cases hlt:k<n
  ·obtain⟨b1,o1,rfl,g1⟩:=(r.ext E2).int hlt;obtain⟨u,g2,-⟩:=Ii hown2 hlt;have g3:=hown2.frozenAt k;go_wp2;go_roundw
   case rel =>
    obtain⟨o2,gr⟩:=hown2.stored k ((Value.int .i64) (nth xs k));rw[Jd _ _ k (by simp[r.int_len]) (by simp[r.int_len,hlt]) _ (getD_map_int _ _ _ (by rw[r.int_len];exact hlt))]at o2;exact⟨k+1,by omega,rfl,Ext.grown E2 gr (by simp),o2⟩
   case measure=>simp[intOf];omega
  ·obtain rfl:k=n:=by omega
   rw[Jc _ _ k (by simp[r.int_len]) (by simp)]at hown2;go_wp2;go_ret
   exact⟨_,rfl,hown2,E2⟩
theorem Oj (a1 a2:Option Addr)(c1 c2 n:Nat)(xs ys:List Int)(w:World)(hn:n<2^47)
 (r1:Sl w a1 n (xs.map (Value.int .i64))) (r2:Sl w a2 n (ys.map (Value.int .i64))) :
 Calls Tryz.prog 28 #[.slice a1 n c1,.slice a2 n c2] w fun e w'=>e= .returned (.bool (decide (xs=ys)))∧∃ m,w'=w.drewN m:=by
 go_enter Tryz.func28,Tryz.ntmps28
 go_wp2;go_loopw [5] (fun i wr=>∃ k:Nat,k≤n∧i= .int .i64 k∧(∃ m,wr=w.drewN m)∧∀ j,j<k→nth xs j=nth ys j) (fun i _=>n-(intOf i).toNat)
 case atStart=>exact⟨0,by omega,rfl,⟨0,rfl⟩,by intro j hj;omega⟩
 case round =>
  obtain⟨k,hk,rfl,⟨m,rfl⟩,heq⟩:=hrel;have Heq:=Aa heq;clear heq
  by_cases hlt:k<n
  ·obtain⟨b1,o1,rfl,g1⟩:=r1.int hlt;obtain⟨b2,o2,rfl,g2⟩:=r2.int hlt;go_wp2;go_quiet (fail)
   go_wp2
   ·have hne:nth xs k≠nth ys k:=bne_iff_ne.1 (by assumption);go_ret
    exact⟨Ay (by simp;intro h;exact hne (by rw[h])),m+nq,by simp⟩
   ·have he:nth xs k=nth ys k:=by simpa using (by assumption:(nth xs k != nth ys k)=false)
    go_roundw
    case rel=>exact⟨k+1,by omega,rfl,⟨_,rfl⟩,fun j hj=>by
     rcases Nat.lt_succ_iff_lt_or_eq.1 hj with h|rfl
     ·exact Heq.out j h
     ·exact he⟩
    case measure=>simp[intOf];omega
  ·obtain rfl:k=n:=by omega
   go_wp2;go_ret
   exact⟨Ay (by simp;exact Hw (by rw[r1.int_len,r2.int_len]) (fun i hi=>Heq.out i (by rw[r1.int_len]at hi;exact hi))),_,rfl⟩
theorem Ol (a1 a2:Option Addr)(c1 c2 n n2:Nat)(w:World)(_hn:n<2^47)(_hn2:n2<2^47)(hne:((n:Int) != n2)=true):
 Calls Tryz.prog 28 #[.slice a1 n c1,.slice a2 n2 c2] w fun e w'=>e= .returned (.bool false)∧w=w':=by
 go_enter Tryz.func28,Tryz.ntmps28
 go_wp2;go_ret
 exact⟨rfl,rfl⟩
theorem MB (a1 a2:Option Addr)(c1 c2 n n2:Nat)(xs ys:List Int)(w:World)(hn:n<2^47)(hn2:n2<2^47)
 (r1:Sl w a1 n (xs.map (Value.int .i64))) (r2:Sl w a2 n2 (ys.map (Value.int .i64))) :
 Calls Tryz.prog 28 #[.slice a1 n c1,.slice a2 n2 c2] w fun e w'=>e= .returned (.bool (decide (xs=ys)))∧∃ m,w'=w.drewN m:=by
 by_cases h:n=n2
 ·subst h;exact Oj a1 a2 c1 c2 n xs ys w hn r1 r2
 ·refine(Ol a1 a2 c1 c2 n n2 w hn hn2 (by simp;omega)).mono fun e w' he => ?_
  obtain⟨rfl,rfl⟩:=he;refine⟨Ay ?_,0,rfl⟩
  symm
  simp
  rintro rfl
  exact h (by rw[←r1.int_len,←r2.int_len])
theorem DD : (Tryz.prog.info? 5).map (fun i=>(i.zero,i.size,i.bytes))=some (some (.int .u8 0),1,1):=by kernel_rfl
theorem Mz (a1 a2:Option Addr)(c1 c2 n:Nat)(xs ys:List Int)(w:World)(hn:n<2^47)
 (r1:Sl w a1 n (xs.map (Value.int .u8))) (r2:Sl w a2 n (ys.map (Value.int .u8))) :
 Calls Tryz.prog 65 #[.slice a1 n c1,.slice a2 n c2] w fun e w'=>e= .returned (.bool (decide (xs=ys)))∧∃ m,w'=w.drewN m:=by
 go_enter Tryz.func65,Tryz.ntmps65
 go_wp2;go_loopw [5] (fun i wr=>∃ k:Nat,k≤n∧i= .int .i64 k∧(∃ m,wr=w.drewN m)∧∀ j,j<k→nth xs j=nth ys j) (fun i _=>n-(intOf i).toNat)
 case atStart=>exact⟨0,by omega,rfl,⟨0,rfl⟩,by intro j hj;omega⟩
 case round =>
  obtain⟨k,hk,rfl,⟨m,rfl⟩,heq⟩:=hrel;have Heq:=Aa heq;clear heq
  by_cases hlt:k<n
  ·obtain⟨b1,o1,rfl,g1⟩:=r1.int hlt;obtain⟨b2,o2,rfl,g2⟩:=r2.int hlt;go_wp2;go_quiet (fail)
   go_wp2
   ·have hne:nth xs k≠nth ys k:=bne_iff_ne.1 (by assumption);go_ret
    exact⟨Ay (by simp;intro h;exact hne (by rw[h])),m+nq,by simp⟩
   ·have he:nth xs k=nth ys k:=by simpa using (by assumption:(nth xs k != nth ys k)=false)
    go_roundw
    case rel=>exact⟨k+1,by omega,rfl,⟨_,rfl⟩,fun j hj=>by
     rcases Nat.lt_succ_iff_lt_or_eq.1 hj with h|rfl
     ·exact Heq.out j h
     ·exact he⟩
    case measure=>simp[intOf];omega
  ·obtain rfl:k=n:=by omega
   go_wp2;go_ret
   exact⟨Ay (by simp;exact Hw (by rw[r1.int_len,r2.int_len]) (fun i hi=>Heq.out i (by rw[r1.int_len]at hi;exact hi))),_,rfl⟩
theorem MA (a1 a2:Option Addr)(c1 c2 n n2:Nat)(w:World)(_hn:n<2^47)(_hn2:n2<2^47)(hne:((n:Int) != n2)=true):
 Calls Tryz.prog 65 #[.slice a1 n c1,.slice a2 n2 c2] w fun e w'=>e= .returned (.bool false)∧w=w':=by
 go_enter Tryz.func65,Tryz.ntmps65
 go_wp2;go_ret
 exact⟨rfl,rfl⟩
theorem LC (a1 a2:Option Addr)(c1 c2 n n2:Nat)(xs ys:List Int)(w:World)(hn:n<2^47)(hn2:n2<2^47)
 (r1:Sl w a1 n (xs.map (Value.int .u8))) (r2:Sl w a2 n2 (ys.map (Value.int .u8))) :
 Calls Tryz.prog 65 #[.slice a1 n c1,.slice a2 n2 c2] w fun e w'=>e= .returned (.bool (decide (xs=ys)))∧∃ m,w'=w.drewN m:=by
 by_cases h:n=n2
 ·subst h;exact Mz a1 a2 c1 c2 n xs ys w hn r1 r2
 ·refine(MA a1 a2 c1 c2 n n2 w hn hn2 (by simp;omega)).mono fun e w' he => ?_
  obtain⟨rfl,rfl⟩:=he;refine⟨Ay ?_,0,rfl⟩
  symm
  simp
  rintro rfl
  exact h (by rw[←r1.int_len,←r2.int_len])
def marks (k:Int)(n:Nat):List Int:=(List.range n).map fun(i:Nat)=>k+(i:Int)
theorem Gk (k:Int)(n:Nat):(marks k n).length=n:=by simp[marks]
theorem OH (k:Int)(n i:Nat)(h:i<n):nth (marks k n) i=k+i:=by simp[nth,marks,h]
theorem La (v:Value)(n:Nat)(xs:List Value)(k:Int)(base:Nat)(w:World)(hn:n<2^47)(hk0:0≤k)(hk:k<2^60)
 (own:w.ownsRow base 3 1 v n xs) :
 Calls Tryz.prog 29 #[v,.int .i64 k] w fun e w'=>e= .returned (.int .i64 (k+n))∧w'.ownsRow base 3 1 v n ((marks k n).map (Value.int .i64))∧w.grownBy w' v.ownBlock:=by
 have hxl:xs.length=n:=by have:=own.1;omega
 rcases id own.2 with⟨rfl,rfl⟩|⟨g,cap,cur,rfl,-⟩
 ·go_enter Tryz.func29,Tryz.ntmps29
  go_wp2;go_loopw [1,5] (fun q i wr=>i= .int .i64 0∧q= .int .i64 k∧w=wr) (fun _ _ _=>0)
  case atStart=>exact⟨rfl,rfl,rfl⟩
  case round =>
   obtain⟨rfl,rfl,rfl⟩:=hrel;go_wp2;go_ret
   exact⟨by simp,World.ownsRow_nil _ _ _ _,World.grownBy.refl _ _⟩
 ·have H0:=Ig ((marks k n).map (Value.int .i64)) xs;rw[←H0]at own;clear H0;go_enter Tryz.func29,Tryz.ntmps29
  go_wp2;go_loopw [1,5] (fun q i wr=>∃ j:Nat,j≤n∧i= .int .i64 j∧q= .int .i64 (k+j)∧w.grownBy wr (some g)∧wr.ownsRow base 3 1 (.slice (some ⟨g,0,none⟩) n cap) n (mix ((marks k n).map (Value.int .i64)) xs j)) (fun _ i _=>n-(intOf i).toNat)
  case atStart=>exact⟨0,by omega,rfl,by simp,World.grownBy.refl _ _,own⟩
  case round =>
   obtain⟨j,hj,rfl,rfl,E2,hown2⟩:=hrel;clear own
   by_cases hlt:j<n
   ·obtain⟨u,g2,-⟩:=Ii hown2 hlt;have g3:=hown2.frozenAt j;have Hx:=Aa hxl;clear hxl;go_wp2;go_roundw
    case rel =>
     obtain⟨o2,gr⟩:=hown2.stored j (.int .i64 (k+j));rw[Jd _ _ j (by simp[Gk,Hx.out]) (by simp[Gk,hlt]) _ (by rw[getD_map_int _ _ _ (by rw[Gk];exact hlt),OH _ _ _ hlt])]at o2;exact⟨j+1,by omega,rfl,by go_num,⟨gr.os.trans E2.os,gr.tape.trans E2.tape,gr.output.trans E2.output,Nat.le_trans E2.size gr.size,fun b hb hne=>(gr.block b (Nat.lt_of_lt_of_le hb E2.size) hne).trans (E2.block b hb hne)⟩,o2⟩
    case measure=>simp[intOf];omega
   ·obtain rfl:j=n:=by omega
    rw[Jc _ _ j (by simp[Gk]) hxl]at hown2;clear hxl;go_wp2;go_ret
    exact⟨rfl,hown2,E2⟩
theorem Az (n lo hi:Int)(w:World)(h1:lo≤n)(h2:n≤hi):
 Calls Tryz.prog 15 #[.int .i64 n,.int .i64 lo,.int .i64 hi] w fun e w'=>e= .returned (.bool true)∧w=w':=by
 go_enter Tryz.func15,Tryz.ntmps15
 go_wp2;go_ret
 exact⟨by simp,rfl⟩
theorem BU (n lo hi:Int)(w:World)(h1:n<lo∨hi<n):
 Calls Tryz.prog 15 #[.int .i64 n,.int .i64 lo,.int .i64 hi] w fun e w'=>e= .returned (.bool false)∧w=w':=by
 by_cases h:lo≤n
 ·have h2 : ¬ n≤hi:=by omega
  go_enter Tryz.func15,Tryz.ntmps15
  go_wp2;go_ret
  exact⟨by simp,rfl⟩
 ·go_enter Tryz.func15,Tryz.ntmps15
  go_wp2;go_ret
  exact⟨rfl,rfl⟩
def AZ (n lo hi:Int):Int:=max lo (min hi n)
theorem Cl {n lo hi:Int}(h:lo≤hi):lo≤AZ n lo hi∧AZ n lo hi≤hi:=by unfold AZ;omega
theorem LA {n lo hi:Int}(h1:lo≤n)(h2:n≤hi):AZ n lo hi=n:=by unfold AZ;omega
def absI (n:Int):Int:=if n<0 then -n else n
theorem J4 {n d:Int}(h:n<0)(hd:1≤d):n≤n.tdiv d∧n.tdiv d≤0∧(n.tmod d<0→n.tdiv d-1=n/d)∧(¬ n.tmod d<0→n.tdiv d=n/d):=by
 obtain⟨m,rfl⟩:∃ m:Int,n = -m:=⟨-n,by omega⟩;have e1:(-m).tdiv d = -(m/d):=by rw[Int.neg_tdiv,Int.tdiv_eq_ediv_of_nonneg (by omega)]
 have e2:(-m).tmod d = -(m%d):=by rw[Int.neg_tmod,Int.tmod_eq_emod_of_nonneg (by omega)]
 have hq:m/d≤m:=Int.ediv_le_self _ (by omega);have hq0:0≤m/d:=Int.ediv_nonneg (by omega) (by omega);have hr0:=Int.emod_nonneg m (show d≠0 by omega);have hr1:=Int.emod_lt_of_pos m (show 0<d by omega);have hdm:=Int.mul_ediv_add_emod m d;rw[e1,e2];refine⟨by omega,by omega,fun h1 => ?_,fun h1 => ?_⟩
 ·symm
  refine(Int.ediv_eq_iff_of_pos (by omega)).2 ?_;have:d*(-(m/d)-1) = -(d*(m/d))-d:=by rw[Int.mul_sub,Int.mul_neg,Int.mul_one]
  constructor
  ·rw[Int.mul_comm];omega
  ·rw[Int.mul_comm];omega
 ·symm
  have hr:m%d=0:=by omega
  rw[hr]at hdm;refine(Int.ediv_eq_iff_of_pos (by omega)).2 ?_
  constructor
  ·rw[Int.mul_comm,Int.mul_neg];omega
  ·rw[Int.mul_comm,Int.mul_neg];omega
theorem DF (n lo hi:Int)(w:World):Calls Tryz.prog 117 #[.int .i64 n,.int .i64 lo,.int .i64 hi] w fun e w'=>e= .returned (.int .i64 (AZ n lo hi))∧w=w':=by
 go_enter Tryz.func117,Tryz.ntmps117
 go_wp2;all_goals
  go_ret
  exact⟨BY (by unfold AZ;omega),rfl⟩
theorem Eg (n lo hi:Int)(w:World)(h:lo≤hi):Calls Tryz.prog 95 #[.int .i64 n,.int .i64 lo,.int .i64 hi] w fun e w'=>e= .returned (.int .i64 (AZ n lo hi))∧w=w':=by
 go_enter Tryz.func95,Tryz.ntmps95
 go_wp2;all_goals
  go_ret
  exact⟨BY (by unfold AZ;omega),rfl⟩
theorem BK (n d:Int)(w:World)(h1 : -1099511627776≤n)(h2:n≤1099511627776)(hd:1≤d)(hd2:d≤1048576):Calls Tryz.prog 143 #[.int .i64 n,.int .i64 d] w fun e w'=>e= .returned (.int .i64 (n/d))∧w=w':=by
 by_cases h0:0≤n
 ·have hd0:decide (n%d<0)=false:=by
   have:=Int.emod_nonneg n (show d≠0 by omega);simp;omega
  go_enter Tryz.func143,Tryz.ntmps143
  go_wp2;go_ret
  exact⟨rfl,rfl⟩
 ·obtain⟨t1,t2,t3,t4⟩:=J4 (by omega:n<0) hd;have T3:=Aa t3;have T4:=Aa t4;clear t3 t4
  by_cases hm:n.tmod d<0
  ·have hd0:decide (n.tmod d<0)=true:=by simpa using hm
   go_enter Tryz.func143,Tryz.ntmps143
   go_wp2;go_ret
   exact⟨BY (T3.out hm),rfl⟩
  ·have hd0:decide (n.tmod d<0)=false:=by simpa using hm
   go_enter Tryz.func143,Tryz.ntmps143
   go_wp2;go_ret
   exact⟨BY (T4.out hm),rfl⟩
def sumZ (f:Nat→Int):Nat→Int
 | 0=>0
 | n+1=>sumZ f n+f n
theorem Mq {f:Nat→Int}{B:Int}{n:Nat}(h:∀ i,i<n → -B≤f i∧f i≤B): -(n*B)≤sumZ f n∧sumZ f n≤n*B:=by
 induction n with
 | zero=>simp[sumZ]
 | succ n ih =>
  have h1:=ih (fun i hi=>h i (by omega));have h2:=h n (by omega);have e:((n+1:Nat):Int)*B=n*B+B:=by rw[Int.natCast_add,Int.add_mul];omega
  simp only[sumZ];rw[e];omega
def sgn (u y:Nat):Int:=nth [1,1,1,1,1,1,-1,-1,1,-1,-1,1,1,-1,1,-1] (4*u+y)
theorem Jk {u y:Nat}(hu:u<4)(hy:y<4):sgn u y=1∨sgn u y = -1:=by
 have:∀ u,u<4→∀ y,y<4→sgn u y=1∨sgn u y = -1:=by decide
 exact this u hu y hy
def hadT (b:List Int)(u v t:Nat):Int:=sgn u (t/4)*sgn v (t%4)*nth b t
def had (b:List Int):List Int:=(List.range 16).map fun k=>sumZ (hadT b (k/4) (k%4)) 16
theorem BD (b:List Int):(had b).length=16:=by simp[had]
theorem NP (b:List Int)(k:Nat)(h:k<16):nth (had b) k=sumZ (hadT b (k/4) (k%4)) 16:=by
 simp[nth,had,h]
theorem LE {b:List Int}{B:Int}{u v t:Nat}(hb : -B≤nth b t∧nth b t≤B)(hu:u<4)(hv:v<4)(ht:t<16): -B≤hadT b u v t∧hadT b u v t≤B:=by
 unfold hadT;rcases Jk hu (show t/4<4 by omega)with h|h <;> rcases Jk hv (show t%4<4 by omega)with h2|h2 <;> rw[h,h2] <;> omega
theorem NB {b:List Int}{B:Int}(hb:∀ t,t<16 → -B≤nth b t∧nth b t≤B){k:Nat}(hk:k<16): -(16*B)≤nth (had b) k∧nth (had b) k≤16*B:=by
 rw[NP _ _ hk];have:=Mq (f:=hadT b (k/4) (k%4)) (B:=B) (n:=16) (fun i hi=>LE (hb i hi) (by omega) (by omega) hi)
 simpa using this
def bfS (zs:List Int)(i st:Nat):List Int :=
 (((zs.set i (nth zs i+nth zs (i+st)+nth zs (i+2*st)+nth zs (i+3*st))).set (i+st) (nth zs i+nth zs (i+st)-nth zs (i+2*st)-nth zs (i+3*st))).set (i+2*st) (nth zs i-nth zs (i+st)-nth zs (i+2*st)+nth zs (i+3*st))).set (i+3*st) (nth zs i-nth zs (i+st)+nth zs (i+2*st)-nth zs (i+3*st))
def bfR (zs:List Int):Nat→List Int
 | 0=>zs
 | k+1=>bfS (bfR zs k) (4*k) 1
def bfC (zs:List Int):Nat→List Int
 | 0=>zs
 | k+1=>bfS (bfC zs k) k 4
theorem QR {zs:List Int}(h:zs.length=16):∃ a0 a1 a2 a3 a4 a5 a6 a7 a8 a9 a10 a11 a12 a13 a14 a15:Int,zs = [a0,a1,a2,a3,a4,a5,a6,a7,a8,a9,a10,a11,a12,a13,a14,a15]:=by
 match zs,h with
 | [a0,a1,a2,a3,a4,a5,a6,a7,a8,a9,a10,a11,a12,a13,a14,a15],_=>exact⟨a0,a1,a2,a3,a4,a5,a6,a7,a8,a9,a10,a11,a12,a13,a14,a15,rfl⟩
theorem P8 (a0 a1 a2 a3 a4 a5 a6 a7 a8 a9 a10 a11 a12 a13 a14 a15:Int):had [a0,a1,a2,a3,a4,a5,a6,a7,a8,a9,a10,a11,a12,a13,a14,a15] =
 [a0+a1+a2+a3+a4+a5+a6+a7+a8+a9+a10+a11+a12+a13+a14+a15,
  a0+a1-a2-a3+a4+a5-a6-a7+a8+a9-a10-a11+a12+a13-a14-a15,
  a0-a1-a2+a3+a4-a5-a6+a7+a8-a9-a10+a11+a12-a13-a14+a15,
  a0-a1+a2-a3+a4-a5+a6-a7+a8-a9+a10-a11+a12-a13+a14-a15,
  a0+a1+a2+a3+a4+a5+a6+a7-a8-a9-a10-a11-a12-a13-a14-a15,
  a0+a1-a2-a3+a4+a5-a6-a7-a8-a9+a10+a11-a12-a13+a14+a15,
  a0-a1-a2+a3+a4-a5-a6+a7-a8+a9+a10-a11-a12+a13+a14-a15,
  a0-a1+a2-a3+a4-a5+a6-a7-a8+a9-a10+a11-a12+a13-a14+a15,
  a0+a1+a2+a3-a4-a5-a6-a7-a8-a9-a10-a11+a12+a13+a14+a15,
  a0+a1-a2-a3-a4-a5+a6+a7-a8-a9+a10+a11+a12+a13-a14-a15,
  a0-a1-a2+a3-a4+a5+a6-a7-a8+a9+a10-a11+a12-a13-a14+a15,
  a0-a1+a2-a3-a4+a5-a6+a7-a8+a9-a10+a11+a12-a13+a14-a15,
  a0+a1+a2+a3-a4-a5-a6-a7+a8+a9+a10+a11-a12-a13-a14-a15,
  a0+a1-a2-a3-a4-a5+a6+a7+a8+a9-a10-a11-a12-a13+a14+a15,
  a0-a1-a2+a3-a4+a5+a6-a7+a8-a9-a10+a11-a12+a13+a14-a15,
  a0-a1+a2-a3-a4+a5-a6+a7+a8-a9+a10-a11-a12+a13-a14+a15]:=by
 simp only[had,List.range,List.range.loop,List.map,sumZ,hadT,sgn,Nat.reduceDiv,Nat.reduceMod,Nat.reduceMul,Nat.reduceAdd,nth,List.getD_cons_succ,List.getD_cons_zero,List.cons.injEq,and_true];refine⟨?_,?_,?_,?_,?_,?_,?_,?_,?_,?_,?_,?_,?_,?_,?_,?_⟩ <;> omega
theorem QF {zs:List Int}(h:zs.length=16):bfC (bfR zs 4) 4=had zs:=by
 obtain⟨a0,a1,a2,a3,a4,a5,a6,a7,a8,a9,a10,a11,a12,a13,a14,a15,rfl⟩:=QR h;rw[P8];simp only[bfC,bfR,bfS,Nat.reduceMul,Nat.reduceAdd,nth,List.getD_cons_succ,List.getD_cons_zero,List.set_cons_succ,List.set_cons_zero,List.cons.injEq,and_true];refine⟨?_,?_,?_,?_,?_,?_,?_,?_,?_,?_,?_,?_,?_,?_,?_,?_⟩ <;> omega
def ihad (b:List Int):List Int:=(had b).map fun n=>(n+8)/16
theorem BI {w w':World}{base e size n b:Nat}{v:Value}{xs:List Value}(h:w.ownsRow base e size v n xs)(g:w.grownBy w' (some b))(hb:b<base):w'.ownsRow base e size v n xs:=by
 refine h.kept g ?_;cases hv:v.ownBlock with
 | none=>exact .inl rfl
 | some k=>right;have:=(h.lt k hv).1;simp;omega
theorem AU {w:World}{base e size n q:Nat}{v:Value}{xs:List Value}{arr:Array Value}{T:TypeId}(h:w.ownsRow base e size v n xs)(hq:w.heap[q]?=some (.cells arr T (0,0)))(hne:e≠T):v.ownBlock=none∨v.ownBlock≠some q:=by
 rcases h.2 with⟨rfl,-⟩|⟨g,cap,cur,rfl,-,p1,-⟩
 ·exact .inl rfl
 ·right
  intro he;simp[Value.ownBlock]at he;subst he;rw[p1]at hq;simp at hq;exact hne hq.2
theorem Ar {w w':World}{b:Nat}{o:Obj}{row:Option Nat}(h:w.heap[b]?=some o)(g:w.grownBy w' row)(hne:row≠some b):w'.heap[b]?=some o:=by
 rw[g.block b (lt_of_block h) (fun e=>hne e.symm)];exact h
theorem D8 (a:Nat)(ha:a<9223372036854775808):(BitVec.ofInt 64 (a:Int)).toNat=a:=by
 rw[BitVec.ofInt_natCast,BitVec.toNat_ofNat];exact Nat.mod_eq_of_lt (by omega)
theorem BH {w w1 w2:World}{row:Option Nat}(h:w.grownBy w1 row)(e:Ext w1 w2):w.grownBy w2 row :=
 ⟨e.os.trans h.os,e.tape.trans h.tape,e.output.trans h.output,Nat.le_trans h.size e.size,fun k hk hr=>(e.block k (Nat.lt_of_lt_of_le hk h.size)).trans (h.block k hk hr)⟩
theorem Om {w w1 w2:World}{row:Option Nat}(h:Ext w w1)(e:w1.grownBy w2 row):w.grownBy w2 row :=
 ⟨e.os.trans h.os,e.tape.trans h.tape,e.output.trans h.output,Nat.le_trans h.size e.size,fun k hk hr=>(e.block k (Nat.lt_of_lt_of_le hk h.size) hr).trans (h.block k hk)⟩
theorem BV (w:World)(row:Option Nat):w.grownBy w row:=⟨rfl,rfl,rfl,Nat.le_refl _,fun _ _ _=>rfl⟩
structure Pic where
 w:Int
 h:Int
 px:List Int
def smp (zs:List Int):Prop:=∀ z∈zs,0≤z∧z≤255
instance decSmp (zs : List Int) : Decidable (smp zs) := by unfold smp; infer_instance
def side (n:Int):Prop:=8≤n∧n≤32∧n%8=0
instance decSide (n : Int) : Decidable (side n) := by unfold side; infer_instance
def Pic.valid (p:Pic):Prop:=side p.w∧side p.h∧(p.px.length:Int)=p.w*p.h∧smp p.px
instance decPicValid (p : Pic) : Decidable p.valid := by unfold Pic.valid; infer_instance
def pic0 : Pic:=⟨0,0,[]⟩
theorem AD {zs:List Int}(h:smp zs){i:Nat}(hi:i<zs.length):0≤nth zs i∧nth zs i≤255:=by
 rw[Cc _ _ hi];exact h _ (List.getElem_mem hi)
theorem Cg {zs:List Int}(h:∀ i,i<zs.length→0≤nth zs i∧nth zs i≤255):smp zs:=by
 intro z hz;obtain⟨i,hi,rfl⟩:=List.getElem_of_mem hz;rw[←Cc _ _ hi];exact h i hi
theorem IX {a b:Int}(h1:side a)(h2:side b):64≤a*b∧a*b≤1024:=by
 obtain⟨a1,a2,-⟩:=h1;obtain⟨b1,b2,-⟩:=h2
 constructor
 ·have:=Int.mul_le_mul a1 b1 (by omega) (by omega);omega
 ·have:=Int.mul_le_mul a2 b2 (by omega) (by omega);omega
theorem Pic.len_le {p:Pic}(h:p.valid):64≤p.px.length∧p.px.length≤1024:=by
 have:=IX h.1 h.2.1;have:=h.2.2.1;omega
theorem Cs {w:World}{a:Option Addr}{n:Nat}{zs:List Int}(h:Sl w a n (zs.map (Value.int .i64)))(y:Addr)(hy:a=some y)(h0:0<n):y.block<w.heap.size:=by
 obtain⟨b,o,e,c⟩:=h.int h0;rw[hy]at e;simp only[Option.some.injEq]at e;subst e;exact World.block_lt_of_cell? w _ c
theorem Np (a:Option Addr)(c n:Nat)(left:Int)(w:World)(hn:n≤9223372036854775807)(h0:0≤left)(h1:left≤1048576):
 Calls Tryz.prog 13 #[.slice a n c,.int .i64 left] w fun e w'=>e= .returned (.int .i64 (if left-n<0 then -1 else left-n))∧w=w':=by
 go_enter Tryz.func13,Tryz.ntmps13
 by_cases h:left-n<0
 ·rw[if_pos h];go_wp2;go_ret
  exact⟨rfl,rfl⟩
 ·rw[if_neg h];have hd:decide (left-(n:Int)<0)=false:=by simpa using h
  go_wp2;go_ret
  exact⟨rfl,rfl⟩
theorem GI (x y:Int)(a:Option Addr)(c n:Nat)(left:Int)(w:World)(hn:n≤9223372036854775807)(h0:0≤left)(h1:left≤1048576):
 Calls Tryz.prog 4 #[.agg #[.int .i64 x,.int .i64 y,.slice a n c],.int .i64 left] w fun e w'=>e= .returned (.int .i64 (if left-n<0 then -1 else left-n))∧Ext w w':=by
 go_enter Tryz.func4,Tryz.ntmps4
 go_wp2_with fail
 refine(Np a c n left _ hn h0 h1).mono ?_
 rintro e w1 ⟨rfl,rfl⟩
 by_cases h:left-n<0
 ·rw[if_pos h];go_wp2;go_ret
  refine⟨rfl,?_⟩
  (repeat (first|with_reducible exact Below.refl _ _|assumption|with_reducible refine below_drewN ?_ _|with_reducible refine Below.drew ?_|with_reducible refine Below.setCell ?_ (by simp <;> omega) _|with_reducible refine Ext.trans ?_ (Ext.alloc _ _)))
 ·rw[if_neg h];have hd:decide (left-(n:Int)<0)=false:=by simpa using h
  go_wp2;go_ret
  refine⟨rfl,?_⟩
  (repeat (first|with_reducible exact Below.refl _ _|assumption|with_reducible refine below_drewN ?_ _|with_reducible refine Below.drew ?_|with_reducible refine Below.setCell ?_ (by simp <;> omega) _|with_reducible refine Ext.trans ?_ (Ext.alloc _ _)))
theorem Dn : (Tryz.prog.info? 30).map (·.size)=some 3:=by kernel_rfl
theorem Bm (x y:Int)(a:Option Addr)(n c:Nat)(xs:List Int)(w:World)(hn:n<2^45)(r:Sl w a n (xs.map (Value.int .i64))):
 Calls Tryz.prog 6 #[.agg #[.int .i64 x,.int .i64 y,.slice a n c]] w fun e w'=>∃ a' c',e= .returned (.agg #[.int .i64 x,.int .i64 y,.slice a' n c'])∧w'.ownsRow w.heap.size 3 1 (.slice a' n c') n (xs.map (Value.int .i64))∧Ext w w':=by
 go_enter Tryz.func6,Tryz.ntmps6
 have p1:=Cy (Aj (w.alloc (.cells #[.int .i64 x,.int .i64 y,.slice a n c] 24)) (.cells #[.int .i64 0,.int .i64 0,.slice none 0 0] 30)) (.cells #[.int .i64 x,.int .i64 y,.slice none 0 0] 30);have p2:=Aj ((w.alloc (.cells #[.int .i64 x,.int .i64 y,.slice a n c] 24)).alloc (.cells #[.int .i64 0,.int .i64 0,.slice none 0 0] 30)) (.cells #[.int .i64 x,.int .i64 y,.slice none 0 0] 30);simp only[World.size_alloc]at p1 p2;go_wp2_with fail
 refine(Nq a c n xs _ hn (r.ext (by(repeat (first|with_reducible exact Below.refl _ _|assumption|with_reducible refine below_drewN ?_ _|with_reducible refine Below.drew ?_|with_reducible refine Below.setCell ?_ (by simp <;> omega) _|with_reducible refine Ext.trans ?_ (Ext.alloc _ _)))))).mono ?_
 rintro e w1 ⟨v,rfl,own1,e1⟩
 obtain⟨a1,c1,rfl⟩:=Al own1;have E1:Ext w w1:=by refine Ext.trans ?_ e1;(repeat (first|with_reducible exact Below.refl _ _|assumption|with_reducible refine below_drewN ?_ _|with_reducible refine Below.drew ?_|with_reducible refine Below.setCell ?_ (by simp <;> omega) _|with_reducible refine Ext.trans ?_ (Ext.alloc _ _)))
 have q1:=e1.blk p1;have q2:=e1.blk p2;simp only[World.size_alloc]at own1;clear p1 p2 e1;obtain⟨m0,m1,m2,m3,f0,f1,f2⟩:=bx3 q1;obtain⟨n0,n1,n2,n3,g0,g1,g2⟩:=bx3 q2;have Q1:=Aa q1;clear q1 q2;go_wp2;refine bodyPost_ret (v := .agg #[.int .i64 x,.int .i64 y,.slice a1 n c1]) (results_cell_row rfl _ _ (w.heap.size+1) 30 #[.int .i64 x,.int .i64 y,.slice a1 n c1] (0,0) _ rfl (Fu (Ai Q1.out (by omega))) RA rfl Dn) rfl ⟨_,_,rfl,?_,?_⟩
 ·refine AH (base:=w.heap.size+1+1+1) ?_ (by omega)
  (repeat refine ownsRow_setCell_below ?_ (by simp <;> omega) _)
  exact own1
 ·(repeat (with_reducible refine Below.setCell ?_ (by simp <;> omega) _))
  exact E1
theorem LD (a1 a2:Option Addr)(c1 c2 n:Nat)(xs:List Int)(w:World)(hn:n<2^47)(r1:Sl w a1 n (xs.map (Value.int .i64)))(r2:Sl w a2 n (xs.map (Value.int .i64))):
 Calls Tryz.prog 28 #[.slice a1 n c1,.slice a2 n c2] w fun e w'=>e= .returned (.bool true)∧∃ m,w'=w.drewN m:=by
 refine(MB a1 a2 c1 c2 n n xs xs w hn hn r1 r2).mono ?_
 rintro e w' ⟨rfl,h⟩
 exact⟨by rw[decide_eq_true rfl],h⟩
theorem Fy (x y:Int)(a b:Option Addr)(c d n:Nat)(xs:List Int)(w:World)(hn:n<2^45)(r1:Sl w a n (xs.map (Value.int .i64)))(r2:Sl w b n (xs.map (Value.int .i64))):
 Calls Tryz.prog 9 #[.agg #[.int .i64 x,.int .i64 y,.slice a n c],.agg #[.int .i64 x,.int .i64 y,.slice b n d]] w fun e w'=>e= .returned (.bool true)∧Ext w w':=by
 go_enter Tryz.func9,Tryz.ntmps9
 go_wp2_with fail
 refine(LD a b c d n xs _ (by omega) (r1.ext (by(repeat (first|with_reducible exact Below.refl _ _|assumption|with_reducible refine below_drewN ?_ _|with_reducible refine Below.drew ?_|with_reducible refine Below.setCell ?_ (by simp <;> omega) _|with_reducible refine Ext.trans ?_ (Ext.alloc _ _))))) (r2.ext (by(repeat (first|with_reducible exact Below.refl _ _|assumption|with_reducible refine below_drewN ?_ _|with_reducible refine Below.drew ?_|with_reducible refine Below.setCell ?_ (by simp <;> omega) _|with_reducible refine Ext.trans ?_ (Ext.alloc _ _)))))).mono ?_
 rintro e w1 ⟨rfl,m,rfl⟩
 go_wp2;go_ret
 refine⟨rfl,?_⟩
 (repeat (first|with_reducible exact Below.refl _ _|assumption|with_reducible refine below_drewN ?_ _|with_reducible refine Below.drew ?_|with_reducible refine Below.setCell ?_ (by simp <;> omega) _|with_reducible refine Ext.trans ?_ (Ext.alloc _ _)))
theorem Fg (x y:Int)(a:Option Addr)(n c:Nat)(xs:List Value)(k:Int)(base:Nat)(w:World)(hn:n<2^47)(hk0:0≤k)(hk:k<2^60)
 (own:w.ownsRow base 3 1 (.slice a n c) n xs) :
 Calls Tryz.prog 10 #[.agg #[.int .i64 x,.int .i64 y,.slice a n c],.int .i64 k] w fun e w'=>e= .returned (.int .i64 (k+n))∧w'.ownsRow base 3 1 (.slice a n c) n ((marks k n).map (Value.int .i64))∧w.grownBy w' (Value.slice a n c).ownBlock:=by
 go_enter Tryz.func10,Tryz.ntmps10
 go_wp2_with fail
 refine(La _ n _ k base _ hn hk0 hk (Ae own (by(repeat (first|with_reducible exact Below.refl _ _|assumption|with_reducible refine below_drewN ?_ _|with_reducible refine Below.drew ?_|with_reducible refine Below.setCell ?_ (by simp <;> omega) _|with_reducible refine Ext.trans ?_ (Ext.alloc _ _)))))).mono ?_
 rintro e w1 ⟨rfl,own1,g1⟩
 go_wp2;go_ret
 exact⟨rfl,own1,Om (Ext.alloc w _) g1⟩
def ic (zs:List Int):Array Value:=(zs.map (Value.int .i64)).toArray
theorem AJ (zs:List Int):(ic zs).size=zs.length:=by simp[ic]
theorem Gh (zs:List Int):(ic zs).toList=zs.map (Value.int .i64):=by simp[ic]
theorem KX (zs:List Int)(i:Nat)(h:i<zs.length):(ic zs)[i]?=some (.int .i64 (nth zs i)):=by simp[ic,nth,h]
def sub (zs:List Int)(off n:Nat):List Int:=(zs.drop off).take n
theorem Bv (zs:List Int)(off n:Nat)(h:off+n≤zs.length):(sub zs off n).length=n:=by simp[sub];omega
theorem Ak (zs:List Int)(n:Nat)(h:zs.length=n):sub zs 0 n=zs:=by subst h;simp[sub]
theorem D4 (zs:List Int)(off n i:Nat)(h:i<n):nth (sub zs off n) i=nth zs (off+i):=by
 simp[nth,sub,List.getD,List.getElem?_take,h,List.getElem?_drop]
theorem Od (zs:List Int)(i:Nat)(h:i<zs.length):sub zs i 1 = [nth zs i]:=by
 refine List.ext_getElem (by simp[sub];omega) fun j h1 h2 => ?_
 have:j=0:=by simp at h2;omega
 subst this;simp[sub,nth,h]
theorem GO (zs:List Int)(off n:Nat):(ic zs).extract off (off+n)=ic (sub zs off n):=by
 apply Array.toList_inj.1;rw[Gh];simp[ic,sub,List.extract,List.map_take,List.map_drop]
def spl (zs:List Int)(off:Nat)(ys:List Int):List Int:=zs.take off++ys++zs.drop (off+ys.length)
theorem Gr {zs ys:List Int}{off:Nat}(h:off+ys.length≤zs.length):(spl zs off ys).length=zs.length:=by simp[spl];omega
theorem Ap {zs ys:List Int}(h:ys.length=zs.length):spl zs 0 ys=ys:=by simp[spl,h]
theorem Lm (zs:List Int)(off:Nat):spl zs off []=zs:=by simp[spl]
theorem JX {zs ys:List Int}{off:Nat}{y:Int}(h:off<zs.length):spl (zs.set off y) (off+1) ys=spl zs off (y::ys):=by
 unfold spl;rw[List.take_set,List.drop_set_of_lt (by omega),List.take_succ_eq_append_getElem h,List.set_append_right _ _ (by simp;omega)];have e:off-(List.take off zs).length=0:=by simp;omega
 rw[e];simp[Nat.add_assoc,Nat.add_comm 1]
theorem EV (zs:List Int)(i:Nat)(v:Int)(h:i<zs.length):nth (zs.set i v) i=v:=by simp[nth,h]
theorem GW (zs:List Int)(i j:Nat)(v:Int)(h:i≠j):nth (zs.set i v) j=nth zs j:=by simp[nth,List.getD,h]
def IB (w:World)(b T:Nat)(zs:List Int):Prop:=w.heap[b]?=some (.cells (ic zs) T (0,0))
theorem IB.lt {w:World}{b T:Nat}{zs:List Int}(h:IB w b T zs):b<w.heap.size:=lt_of_block h
theorem IB.cell {w:World}{b T:Nat}{zs:List Int}(h:IB w b T zs){i:Nat}(hi:i<zs.length):w.cell? ⟨b,i,none⟩=some (.int .i64 (nth zs i)):=by
 have:w.heap[b]?=some (.cells (ic zs) T (0,0)):=h;simp only[World.cell?,this]
 simpa using KX zs i hi
theorem IB.frozen {w:World}{b T:Nat}{zs:List Int}(h:IB w b T zs)(i:Nat):w.frozen? ⟨b,i,none⟩=false:=by
 have:w.heap[b]?=some (.cells (ic zs) T (0,0)):=h;simp[World.frozen?,this]
theorem IB.ext {w w':World}{b T:Nat}{zs:List Int}(h:IB w b T zs)(e:Ext w w'):IB w' b T zs:=e.blk h
theorem IB.alloc {w:World}{b T:Nat}{zs:List Int}(h:IB w b T zs)(o:Obj):IB (w.alloc o) b T zs:=Cy h o
theorem IB.new (w:World)(T:Nat)(zs:List Int):IB (w.alloc (.cells (ic zs) T)) w.heap.size T zs:=Aj w _
theorem IB.gr {w w':World}{b T:Nat}{zs:List Int}{row:Option Nat}(h:IB w b T zs)(g:w.grownBy w' row)(hne:row≠some b):IB w' b T zs:=Ar h g hne
theorem IB.drewN {w:World}{b T:Nat}{zs:List Int}(h:IB w b T zs)(n:Nat):IB (w.drewN n) b T zs:=h
theorem IB.set {w:World}{b T:Nat}{zs:List Int}(h:IB w b T zs)(i:Nat)(v:Int):IB (w.setCell ⟨b,i,none⟩ (.int .i64 v)) b T (zs.set i v):=by
 have h1:=heap_setCell_same w b i (ic zs) T (.int .i64 v) h;have h2:(ic zs).setIfInBounds i (.int .i64 v)=ic (zs.set i v):=by
  apply Array.toList_inj.1;rw[Gh,Array.toList_setIfInBounds,Gh,List.map_set]
 rw[h2]at h1;exact h1
theorem IB.set_other {w:World}{b c i T:Nat}{v:Value}{zs:List Int}(h:IB w b T zs)(hne:b≠c):IB (w.setCell ⟨c,i,none⟩ v) b T zs:=Ai h hne
theorem Ax (w:World)(B i:Nat)(v:Value):w.grownBy (w.setCell ⟨B,i,none⟩ v) (some B):=⟨rfl,rfl,rfl,by simp,fun k _ hk=>heap_setCell_other w ⟨B,i,none⟩ k v (fun e=>hk (by simp[e]))⟩
section
variable {P : Program}
theorem AG {ops:Array Oper}{rest:List Oper}{o:Oper}{a:Act}{Q:Exit→Act→World→Prop}{w:World}(hw:Region.wanted o (yielded ops a.tmps)=true)
 (h:∀ K:Act→World→Prop,(∀ a w,wpList P ops Q rest a w→K a w)→o.wp P a w K Q):wpList P ops Q (o::rest) a w :=
 wpList_step fun K hK=>by rw[if_pos hw];exact h K hK
theorem H9 {ty:TypeId}{d:TypeDesc}(w:World)(hu:P.underlying ty=some d)(hd:(match d with | .struct _ | .array _ _=>true|_=>false)=true):(isAgg ty).run P w= .ok true w:=by
 unfold isAgg;rw[Sem.run_bind,run_underlying hu w];cases d <;> simp_all
theorem JR (w:World){b T:Nat}{zs:List Int}(h:IB w b T zs)(ty:TypeId)(off n:Nat)(d:TypeDesc)(hu:P.underlying ty=some d)(hd:(match d with | .struct _ | .array _ _=>true|_=>false)=true)(hi:(P.info? ty).map (·.size)=some n)(hb:off+n≤zs.length):
 (loadVar ty ⟨b,off,none⟩).run P w= .ok (.agg (ic (sub zs off n))) w:=by
 have hl:(loadCells ⟨b,off,none⟩ ((sub zs off n).map (Value.int .i64)).length).run P w= .ok ((sub zs off n).map (Value.int .i64)).toArray w :=
  run_loadCells_list (P:=P) w ⟨b,off,none⟩ _ (fun j v hv=>by
   have hj:j<n:=by
    have:=(List.getElem?_eq_some_iff.1 hv).1;simp[sub]at this;omega
   have hadd:(⟨b,off,none⟩:Addr).add j=⟨b,off+j,none⟩:=by rw[Addr.add_lit]
   rw[hadd,h.cell (by omega)];have e:((sub zs off n).map (Value.int .i64))[j]?=some (.int .i64 (nth (sub zs off n) j)):=by
    have:j<(sub zs off n).length:=by rw[Bv _ _ _ hb];exact hj
    simp[nth,this]
   rw[e,D4 _ _ _ _ hj]at hv;exact hv)
 cases hq:P.info? ty with
 | none=>simp[hq]at hi
 | some i =>
  have hs:i.size=n:=by simpa [hq] using hi
  rw[List.length_map,Bv _ _ _ hb]at hl;simp[loadVar,Sem.run_bind,H9 w hu hd,sizeOf,typeInfo,hq,hs,hl,ic]
theorem Ab {ops:Array Oper}{rest:List Oper}{o:Oper}{a:Act}{w:World}{Q:Exit→Act→World→Prop}(ty:TypeId)(x:Operand)(ho:o.op= .load ty x)(hgd:Region.wanted o (yielded ops a.tmps)=true)
 {b T:Nat} {zs:List Int} (h:IB w b T zs) (off n:Nat) (hx:a.eval x= .pointer (some ⟨b,off,none⟩)) (d:TypeDesc)
 (hu:P.underlying ty=some d) (hd:(match d with | .struct _ | .array _ _=>true|_=>false)=true) (hi:(P.info? ty).map (·.size)=some n) (hb:off+n≤zs.length) (cs:Array Value) (hc:ic (sub zs off n)=cs)
 (hK:wpList P ops Q rest (a.put o.dst (.agg cs)) w):wpList P ops Q (o::rest) a w:=by
 subst hc;refine AG hgd fun _ hK' => ?_
 unfold Oper.wp execOp;simp only[ho,hx,Instr.loadAt,Instr.sureAddr,Sem.run_bind,Sem.run_pure,Result.andThen_ok,JR w h ty off n d hu hd hi hb];exact hK' _ _ hK
theorem D6 {b T off:Nat}: ∀(ys:List Int) (i:Nat) (zs:List Int) (w:World),IB w b T zs→off+i+ys.length≤zs.length →
 ∃ w',(storeCells ⟨b,off,none⟩ (ys.map (Value.int .i64)) i).run P w= .ok () w'∧IB w' b T (spl zs (off+i) ys)∧w.grownBy w' (some b)
 | [],i,zs,w,h,hl=>⟨w,by simp[storeCells],by rw[Lm];exact h,World.grownBy.refl _ _⟩
 | y::ys,i,zs,w,h,hl=>by
  have hlt:off+i<zs.length:=by simp at hl;omega
  have hadd:(⟨b,off,none⟩:Addr).add i=⟨b,off+i,none⟩:=by rw[Addr.add_lit]
  have hst:(store ((⟨b,off,none⟩:Addr).add i) (.int .i64 y)).run P w= .ok () (w.setCell ⟨b,off+i,none⟩ (.int .i64 y)):=by
   rw[hadd,run_store P w _ (.int .i64 y) _ rfl,h.cell hlt];simp[h.frozen]
  obtain⟨w',h1,h2,h3⟩:=D6 (off:=off) ys (i+1) (zs.set (off+i) y) _ (h.set (off+i) y) (by simp at hl⊢;omega);refine⟨w',?_,?_,grownBy_trans (Ax _ _ _ _) h3⟩
  ·simp only[List.map_cons,storeCells,Sem.run_bind,hst,Result.andThen_ok,h1]
  ·rw[←JX hlt];exact h2
theorem Af {ops:Array Oper}{rest:List Oper}{o:Oper}{a:Act}{w:World}{Q:Exit→Act→World→Prop}(ty:TypeId)(x y:Operand)(ho:o.op= .store ty x y)(hgd:Region.wanted o (yielded ops a.tmps)=true)
 {b T:Nat} {zs:List Int} (h:IB w b T zs) (off n:Nat) (hx:a.eval x= .pointer (some ⟨b,off,none⟩)) (cs:Array Value) (hy:a.eval y= .agg cs) (ys:List Int) (hc:cs=ic ys)
 (hi:(P.info? ty).map (·.size)=some n) (hn:ys.length=n) (hb:off+n≤zs.length)
 (hK:∀ w',IB w' b T (spl zs off ys)→w.grownBy w' (some b)→wpList P ops Q rest (a.put o.dst undef) w'):wpList P ops Q (o::rest) a w:=by
 subst hc hn;refine AG hgd fun _ hK' => ?_
 obtain⟨w',h1,h2,h3⟩:=D6 (P:=P) (off:=off) ys 0 zs w h (by omega);have hs:(storeVar ty ⟨b,off,none⟩ (.agg (ic ys))).run P w= .ok () w':=by
  cases hq:P.info? ty with
  | none=>simp[hq]at hi
  | some i =>
   have hs:i.size=ys.length:=by simpa [hq] using hi
   simp[storeVar,sizeOf,typeInfo,hq,Value.cells,hs,AJ,Gh,h1]
 unfold Oper.wp execOp;simp only[ho,hx,hy,Instr.storeAt,Instr.sureAddr,Sem.run_bind,Sem.run_pure,Result.andThen_ok,hs];exact hK' _ _ (hK w' h2 h3)
theorem AF {ops:Array Oper}{rest:List Oper}{o:Oper}{a:Act}{w:World}{Q:Exit→Act→World→Prop}(t:TypeId)(x ix:Operand)(ho:o.op= .index t x ix)(hgd:Region.wanted o (yielded ops a.tmps)=true)
 (zs:List Int) (hx:a.eval x= .agg (ic zs)) (k len:Nat) (z:Int) (hix:a.eval ix= .int .i64 z) (hz:z=(k:Int)) (e:TypeId) (hu:P.underlying t=some (.array len e)) (he:P.underlying e=some (.int .i64)) (hi:(P.info? e).map (·.size)=some 1) (hk:k<len) (hl:zs.length=len)
 (hK:wpList P ops Q rest (a.put o.dst (.int .i64 (nth zs k))) w):wpList P ops Q (o::rest) a w:=by
 subst hz;refine AG hgd fun _ hK' => ?_
 have hag:(isAgg e).run P w= .ok false w:=by
  unfold isAgg;rw[Sem.run_bind,run_underlying he w];simp
 have hrun:(Instr.index t (.agg (ic zs)) (.int .i64 (k:Int))).run P w= .ok (.int .i64 (nth zs k)) w:=by
  cases hq:P.info? e with
  | none=>simp[hq]at hi
  | some i =>
   have hs:i.size=1:=by simpa [hq] using hi
   have h1:=KX zs k (by omega);simp[Instr.index,asIntOf,run_underlying hu,hk,sizeOf,typeInfo,hq,hs,part,Sem.run_bind,hag,h1]
 unfold Oper.wp execOp;simp only[ho,hx,hix,hrun,Sem.run_bind,Result.andThen_ok];exact hK' _ _ hK
theorem Bg {ops:Array Oper}{rest:List Oper}{o:Oper}{a:Act}{w:World}{Q:Exit→Act→World→Prop}(t:TypeId)(x ix:Operand)(ho:o.op= .index t x ix)(hgd:Region.wanted o (yielded ops a.tmps)=true)
 (zs:List Int) (hx:a.eval x= .agg (ic zs)) (k len m:Nat) (z:Int) (hix:a.eval ix= .int .i64 z) (hz:z=(k:Int)) (e:TypeId) (d:TypeDesc) (hu:P.underlying t=some (.array len e)) (he:P.underlying e=some d) (hd:(match d with | .struct _ | .array _ _=>true|_=>false)=true) (hi:(P.info? e).map (·.size)=some m) (hk:k<len)
 (hK:wpList P ops Q rest (a.put o.dst (.agg (ic (sub zs (k*m) m)))) w):wpList P ops Q (o::rest) a w:=by
 subst hz;refine AG hgd fun _ hK' => ?_
 have hag:=H9 w he hd;have hrun:(Instr.index t (.agg (ic zs)) (.int .i64 (k:Int))).run P w= .ok (.agg (ic (sub zs (k*m) m))) w:=by
  cases hq:P.info? e with
  | none=>simp[hq]at hi
  | some i =>
   have hs:i.size=m:=by simpa [hq] using hi
   have h1:=GO zs (k*m) m;simp[Instr.index,asIntOf,run_underlying hu,hk,sizeOf,typeInfo,hq,hs,part,Sem.run_bind,hag,h1]
 unfold Oper.wp execOp;simp only[ho,hx,hix,hrun,Sem.run_bind,Result.andThen_ok];exact hK' _ _ hK
end
end Go.Proofs.YtijnbalgnhigbaaGreatDoor
namespace Go.Proofs.YtijnbalgnhigbaaGreatDoor
open Go.RowKit
def inB (B:Int)(zs:List Int):Bool:=zs.all fun z=>decide (-B≤z) && decide (z≤B)
theorem DY {B:Int}{zs:List Int}(h:∀ j,j<zs.length → -B≤nth zs j∧nth zs j≤B):inB B zs=true:=by
 unfold inB;rw[List.all_eq_true];intro z hz;obtain⟨j,hj,rfl⟩:=List.getElem_of_mem hz;have:=h j hj;rw[Cc zs j hj]at this;simp[this]
theorem K7 {B:Int}{zs:List Int}{j:Nat}(hj:j<zs.length)(h:nth zs j < -B∨B<nth zs j):inB B zs=false:=by
 unfold inB;rw[List.all_eq_false];refine⟨zs[j],List.getElem_mem hj,?_⟩;rw[Cc zs j hj]at h;simp;omega
theorem inB_iff {B:Int}{zs:List Int}: inB B zs=true↔∀ j,j<zs.length → -B≤nth zs j∧nth zs j≤B:=by
 constructor
 ·intro h j hj;refine Classical.byContradiction fun hn => ?_
  rw[K7 hj (by omega)]at h;cases h
 ·exact DY
theorem Ag : (Tryz.prog.info? 47).map (·.size)=some 16:=by kernel_rfl
theorem AC : (Tryz.prog.info? 3).map (·.size)=some 1:=by kernel_rfl
theorem A4 (zs:List Int)(B:Int)(w:World)(hl:zs.length=16)(hB:0≤B)(hB2:B≤1099511627776):
 Calls Tryz.prog 92 #[.agg (ic zs),.int .i64 B] w fun e w'=>e= .returned (.bool (inB B zs))∧Ext w w':=by
 have H:=IB.new w 47 zs;have hsa:=Ak zs 16 hl;have Hl:=Aa hl;clear hl;go_enter Tryz.func92,Tryz.ntmps92
 go_wp2_with (refine Ab 47 _ rfl rfl H 0 16 rfl _ Rm rfl Ag (by rw[Hl.out];omega) _ (by rw[hsa]) ?_)
 go_loopw [8] (fun i wr=>∃ k:Nat,k≤16∧i= .int .i64 k∧Ext w wr∧Hid (∀ j,j<k → -B≤nth zs j∧nth zs j≤B)) (fun i _=>16-(intOf i).toNat)
 case atStart=>exact⟨0,by omega,rfl,Ext.alloc _ _,Aa (fun j hj=>by omega)⟩
 case round =>
  obtain⟨k,hk,rfl,E2,hall⟩:=hrel;clear H hsa
  by_cases hlt:k<16
  ·by_cases h1:nth zs k < -B
   ·have hno:=Aa (K7 (B:=B) (by rw[Hl.out];exact hlt) (.inl h1));go_wp2_with (refine AF _ _ _ rfl rfl zs rfl k 16 _ rfl rfl _ Rm Rt AC hlt Hl.out ?_)
    go_ret
    exact⟨(Ay hno.out).symm,E2⟩
   ·have hd1:decide (nth zs k < -B)=false:=by simpa using h1
    by_cases h2:B<nth zs k
    ·have hno:=Aa (K7 (B:=B) (by rw[Hl.out];exact hlt) (.inr h2));go_wp2_with (refine AF _ _ _ rfl rfl zs rfl k 16 _ rfl rfl _ Rm Rt AC hlt Hl.out ?_)
     go_ret
     exact⟨(Ay hno.out).symm,E2⟩
    ·have hd2:decide (B<nth zs k)=false:=by simpa using h2
     have hall2:=Aa (show ∀ j,j<k+1 → -B≤nth zs j∧nth zs j≤B from fun j hj=>by
      by_cases hjk:j=k
      ·subst hjk;omega
      ·exact hall.out j (by omega))
     go_wp2_with (refine AF _ _ _ rfl rfl zs rfl k 16 _ rfl rfl _ Rm Rt AC hlt Hl.out ?_)
     go_roundw
     case rel=>exact⟨k+1,by omega,by go_num,E2,hall2⟩
     case measure=>simp[intOf];omega
  ·obtain rfl:k=16:=by omega
   have hy:=Aa (DY (B:=B) (zs:=zs) (by rw[Hl.out];exact hall.out));go_wp2;go_ret
   exact⟨(Ay hy.out).symm,E2⟩
section
variable {P : Program}
def EqE (P:Program)(e:TypeId)(c:Nat)(d:Nat):Prop:=∀(w:World) (xs ys:List Int) (off:Nat),off+c≤xs.length→off+c≤ys.length →
 ∃ a b,(part e (ic xs) off).run P w= .ok a w∧(part e (ic ys) off).run P w= .ok b w∧(Op.equalIn d e a b).run P w= .ok (decide (sub xs off c=sub ys off c)) w
theorem EqE.int {e:TypeId}(he:P.underlying e=some (.int .i64))(d:Nat):EqE P e 1 (d+1):=by
 intro w xs ys off h1 h2;have hag:(isAgg e).run P w= .ok false w:=by
  unfold isAgg;rw[Sem.run_bind,run_underlying he w];simp
 refine⟨.int .i64 (nth xs off),.int .i64 (nth ys off),?_,?_,?_⟩
 ·simp[part,Sem.run_bind,hag,KX xs off (by omega)]
 ·simp[part,Sem.run_bind,hag,KX ys off (by omega)]
 ·rw[run_equalIn_int w d e .i64 .i64 _ _ he,Od xs off (by omega),Od ys off (by omega)]
  congr 1
  by_cases h:nth xs off=nth ys off
  ·simp[h]
  ·simp[h]
theorem Fx {e:TypeId}{c d:Nat}(hE:EqE P e c d)(w:World)(xs ys:List Int):∀(is:List Nat),(∀ i∈is,i*c+c≤xs.length∧i*c+c≤ys.length) →
 (Op.eqItems d e c (ic xs) (ic ys) is).run P w= .ok (decide (∀ i∈is,sub xs (i*c) c=sub ys (i*c) c)) w
 | [],_=>by simp[Op.eqItems]
 | i::is,h=>by
  obtain⟨a,b,h1,h2,h3⟩:=hE w xs ys (i*c) (h i (by simp)).1 (h i (by simp)).2;have ih:=Fx hE w xs ys is (fun j hj=>h j (by simp[hj]));simp only[Op.eqItems,Sem.run_bind,h1,h2,h3,Result.andThen_ok]
  by_cases hs:sub xs (i*c) c=sub ys (i*c) c
  ·simp only[hs,decide_true,Bool.not_true,Bool.false_eq_true,if_false,ih]
   congr 1
   simp[hs]
  ·simp only[hs,decide_false,Bool.not_false,if_true,Sem.run_pure]
   congr 1
   simp[hs]
theorem Qu (zs:List Int)(o n p m:Nat)(h:p+m≤n):sub (sub zs o n) p m=sub zs (o+p) m:=by
 unfold sub;rw[List.drop_take,List.drop_drop,List.take_take]
 congr 1
 omega
theorem Oc {xs ys:List Int}{o n c:Nat}(h1:o+n*c≤xs.length)(h2:o+n*c≤ys.length):(∀ i∈List.range n,sub (sub xs o (n*c)) (i*c) c=sub (sub ys o (n*c)) (i*c) c)↔sub xs o (n*c)=sub ys o (n*c):=by
 constructor
 ·intro h;refine Hw (by rw[Bv _ _ _ h1,Bv _ _ _ h2]) fun j hj => ?_
  rw[Bv _ _ _ h1]at hj;have hc:0<c:=by
   rcases Nat.eq_zero_or_pos c with h0|h0
   ·subst h0;simp at hj
   ·exact h0
  have hd:j/c<n:=Nat.div_lt_of_lt_mul (by rw[Nat.mul_comm];exact hj);have hm:j%c<c:=Nat.mod_lt _ hc;have e:=h (j/c) (by simpa using hd);have e1:j/c*c+j%c=j:=by rw[Nat.mul_comm];exact Nat.div_add_mod j c
  have e2:nth (sub (sub xs o (n*c)) (j/c*c) c) (j%c)=nth (sub (sub ys o (n*c)) (j/c*c) c) (j%c):=by rw[e]
  rw[D4 _ _ _ _ hm,D4 _ _ _ _ hm,e1]at e2;exact e2
 ·intro h i _;rw[h]
theorem EqE.arr {t e:TypeId}{n c d:Nat}(ht:P.underlying t=some (.array n e))(hi:(P.info? e).map (·.size)=some c)(hti:(P.info? t).map (·.size)=some (n*c))(hE:EqE P e c d):EqE P t (n*c) (d+1):=by
 intro w xs ys off h1 h2;cases hq:P.info? e with
 | none=>simp[hq]at hi
 | some ii =>
  have hs:ii.size=c:=by simpa [hq] using hi
  have hce:P.cellsOf e=c:=by simp[Program.cellsOf,hq,hs]
  have hag:=H9 (P:=P) w ht rfl;cases hqt:P.info? t with
  | none=>simp[hqt]at hti
  | some jj =>
   have hst:jj.size=n*c:=by simpa [hqt] using hti
   refine⟨.agg (ic (sub xs off (n*c))),.agg (ic (sub ys off (n*c))),?_,?_,?_⟩
   ·simp[part,Sem.run_bind,hag,sizeOf,typeInfo,hqt,hst,GO]
   ·simp[part,Sem.run_bind,hag,sizeOf,typeInfo,hqt,hst,GO]
   ·rw[run_equalIn_array w d _ _ ht hq,hce,Fx hE w _ _ (List.range n) (fun i hi'=>by
     rw[Bv _ _ _ h1,Bv _ _ _ h2];have hin:i<n:=by simpa using hi'
     have:(i+1)*c≤n*c:=Nat.mul_le_mul_right _ hin;rw[Nat.succ_mul]at this;exact⟨this,this⟩)]
    congr 1
    exact decide_eq_decide.2 (Oc h1 h2)
theorem Il {t:TypeId}{n c:Nat}{e:TypeId}(ht:P.underlying t=some (.array n e))(hi:(P.info? e).map (·.size)=some c)(hE:EqE P e c 9999)(w:World)(xs ys:List Int)(h1:xs.length=n*c)(h2:ys.length=n*c):
 (Op.equalIn 10000 t (.agg (ic xs)) (.agg (ic ys))).run P w= .ok (decide (xs=ys)) w:=by
 cases hq:P.info? e with
 | none=>simp[hq]at hi
 | some ii =>
  have hs:ii.size=c:=by simpa [hq] using hi
  have hce:P.cellsOf e=c:=by simp[Program.cellsOf,hq,hs]
  rw[run_equalIn_array w 9999 _ _ ht hq,hce,Fx hE w _ _ (List.range n) (fun i hi'=>by
   rw[h1,h2];have hin:i<n:=by simpa using hi'
   have:(i+1)*c≤n*c:=Nat.mul_le_mul_right _ hin;rw[Nat.succ_mul]at this;exact⟨this,this⟩)]
  congr 1
  have e:=Oc (xs:=xs) (ys:=ys) (o:=0) (n:=n) (c:=c) (by omega) (by omega);rw[Ak xs _ h1,Ak ys _ h2]at e;exact decide_eq_decide.2 e
theorem BL {ops:Array Oper}{rest:List Oper}{o:Oper}{a:Act}{w:World}{Q:Exit→Act→World→Prop}(t:TypeId)(x y:Operand)(t2:TypeId)(ho:o.op= .binOp .eql t x y t2)(hgd:Region.wanted o (yielded ops a.tmps)=true)
 (cs ds:Array Value) (hx:a.eval x= .agg cs) (hy:a.eval y= .agg ds) (xs ys:List Int) (hcs:cs=ic xs) (hds:ds=ic ys) {n c:Nat} {e:TypeId} (ht:P.underlying t=some (.array n e)) (hi:(P.info? e).map (·.size)=some c) (hE:EqE P e c 9999) (h1:xs.length=n*c) (h2:ys.length=n*c)
 (hm:P.eqGuardType P.depth t=false) (r:Bool) (hr:decide (xs=ys)=r) (hK:wpList P ops Q rest (a.put o.dst (.bool r)) w):wpList P ops Q (o::rest) a w:=by
 subst hcs hds hr;refine AG hgd fun _ hK' => ?_
 unfold Oper.wp execOp;simp[ho,hx,hy,Sem.run_bind,run_eqGuard_agg w .eql t x y _ _ hm,run_eql_struct w t,Il ht hi hE w xs ys h1 h2,Result.andThen];exact hK' _ _ hK
theorem C6 {ops:Array Oper}{rest:List Oper}{o:Oper}{a:Act}{w:World}{Q:Exit→Act→World→Prop}(t:TypeId)(x y:Operand)(t2:TypeId)(ho:o.op= .binOp .neq t x y t2)(hgd:Region.wanted o (yielded ops a.tmps)=true)
 (cs ds:Array Value) (hx:a.eval x= .agg cs) (hy:a.eval y= .agg ds) (xs ys:List Int) (hcs:cs=ic xs) (hds:ds=ic ys) {n c:Nat} {e:TypeId} (ht:P.underlying t=some (.array n e)) (hi:(P.info? e).map (·.size)=some c) (hE:EqE P e c 9999) (h1:xs.length=n*c) (h2:ys.length=n*c)
 (hm:P.eqGuardType P.depth t=false) (r:Bool) (hr:decide (xs=ys)=r) (hK:wpList P ops Q rest (a.put o.dst (.bool (!r))) w):wpList P ops Q (o::rest) a w:=by
 subst hcs hds hr;refine AG hgd fun _ hK' => ?_
 unfold Oper.wp execOp;simp[ho,hx,hy,Sem.run_bind,run_eqGuard_agg w .neq t x y _ _ hm,run_neq_struct w t,Il ht hi hE w xs ys h1 h2,Result.andThen];exact hK' _ _ (by simpa using hK)
theorem AP {ops:Array Oper}{rest:List Oper}{o:Oper}{a:Act}{w:World}{Q:Exit→Act→World→Prop}(t:TypeId)(ho:o.op= .build t #[])(hgd:Region.wanted o (yielded ops a.tmps)=true)
 {n c:Nat} {e:TypeId} (ht:P.underlying t=some (.array n e)) (hi:(P.info? e).map (·.size)=some c) (N:Nat) (hz:(P.info? t).map (·.zero)=some (some (.agg (ic (List.replicate N 0)))))
 (hK:wpList P ops Q rest (a.put o.dst (.agg (ic (List.replicate N 0)))) w):wpList P ops Q (o::rest) a w:=by
 refine AG hgd fun _ hK' => ?_
 cases hq:P.info? e with
 | none=>simp[hq]at hi
 | some ii =>
  cases hqt:P.info? t with
  | none=>simp[hqt]at hz
  | some jj =>
   have hzz:jj.zero=some (.agg (ic (List.replicate N 0))):=by simpa [hqt] using hz
   unfold Oper.wp execOp;simp[ho,Instr.build,zeroValue,typeInfo,hqt,hzz,run_underlying ht,sizeOf,hq,Instr.fill,Value.cells,Sem.run_bind,Result.andThen];exact hK' _ _ hK
def zl (n:Nat):List Int:=List.replicate n 0
theorem AB (n:Nat):(zl n).length=n:=by simp[zl]
theorem Au {ops:Array Oper}{rest:List Oper}{o:Oper}{a:Act}{w:World}{Q:Exit→Act→World→Prop}(t:TypeId)(ho:o.op= .alloc t)(hgd:Region.wanted o (yielded ops a.tmps)=true)
 (N:Nat) (hz:(P.info? t).map (·.zero)=some (some (.agg (ic (zl N)))))
 (hK:wpList P ops Q rest (a.put o.dst (.pointer (some ⟨w.heap.size,0,none⟩))) (w.alloc (.cells (ic (zl N)) t))):wpList P ops Q (o::rest) a w:=by
 refine AG hgd fun _ hK' => ?_
 cases hqt:P.info? t with
 | none=>simp[hqt]at hz
 | some jj =>
  have hzz:jj.zero=some (.agg (ic (zl N))):=by simpa [hqt] using hz
  unfold Oper.wp execOp;simp[ho,Instr.alloc,zeroValue,typeInfo,hqt,hzz,Value.cells,newVar,newRow,Sem.run_bind,Result.andThen];exact hK' _ _ hK
end
end Go.Proofs.YtijnbalgnhigbaaGreatDoor
namespace Go.Proofs.YtijnbalgnhigbaaGreatDoor
open Go.RowKit
structure Mac where
 kind:Int
 x:Int
 y:Int
 modes:List Int
 lv:List Int
structure Mac.ok (m : Mac) : Prop where
 modes:m.modes.length=4
 lv:m.lv.length=64
def Mac.zs (m:Mac):List Int:=m.kind::m.x::m.y::(m.modes++m.lv)
def mac0 : Mac:=⟨0,0,0,List.replicate 4 0,List.replicate 64 0⟩
theorem Ie : mac0.ok:=⟨rfl,rfl⟩
theorem Mac.zs_len {m:Mac}(h:m.ok):m.zs.length=71:=by simp[Mac.zs,h.modes,h.lv]
theorem Mac.zs_kind (m:Mac):nth m.zs 0=m.kind:=rfl
theorem Mac.zs_x (m:Mac):nth m.zs 1=m.x:=rfl
theorem Mac.zs_y (m:Mac):nth m.zs 2=m.y:=rfl
theorem Mac.zs_mv {m:Mac}: ic (sub m.zs 1 2) = #[.int .i64 m.x,.int .i64 m.y]:=rfl
theorem Mac.zs_modes {m:Mac}(h:m.ok):sub m.zs 3 4=m.modes:=by
 simp only[Mac.zs,sub,List.drop_succ_cons,List.drop_zero];rw[List.take_append_of_le_length (by rw[h.modes];exact Nat.le_refl _),List.take_of_length_le (by rw[h.modes];exact Nat.le_refl _)]
theorem Mac.zs_lv {m:Mac}(h:m.ok):sub m.zs 7 64=m.lv:=by
 simp only[Mac.zs,sub,List.drop_succ_cons];rw[List.drop_append_of_le_length (by rw[h.modes];exact Nat.le_refl _),List.drop_of_length_le (by rw[h.modes];exact Nat.le_refl _),List.nil_append,List.take_of_length_le (by rw[h.lv];exact Nat.le_refl _)]
theorem Mac.zs_blk {m:Mac}(h:m.ok)(k:Nat)(hk:k<4):sub m.zs (7+k*16) 16=sub m.lv (k*16) 16:=by
 rw[←Mac.zs_lv h,Qu _ _ _ _ _ (by omega)]
theorem Mac.nth_mode {m:Mac}(h:m.ok)(k:Nat)(hk:k<4):nth m.zs (3+k)=nth m.modes k:=by
 rw[←Mac.zs_modes h,D4 _ _ _ _ hk]
def Bn : List Int:=List.replicate 4 0
def CI : List Int:=List.replicate 64 0
def Mac.valid (m:Mac):Prop:=(0≤m.kind∧m.kind≤2)∧(-16≤m.x∧m.x≤16 ∧ -16≤m.y∧m.y≤16)∧(m.kind≠1→m.x=0∧m.y=0)∧(m.kind≠2→m.modes=Bn)∧(m.kind=2→∀ j,j<4→0≤nth m.modes j∧nth m.modes j≤4)∧(m.kind=0→m.lv=CI)∧inB 4080 m.lv=true
noncomputable instance (m : Mac) : Decidable m.valid := Classical.propDecidable _
theorem CB {B:Int}{zs:List Int}(h:zs.length=64):inB B zs=true↔∀ k,k<4→inB B (sub zs (k*16) 16)=true:=by
 constructor
 ·intro hb k hk;refine DY fun j hj => ?_
  rw[Bv _ _ _ (by omega)]at hj;rw[D4 _ _ _ _ hj];exact inB_iff.1 hb _ (by omega)
 ·intro hb;refine DY fun j hj => ?_
  have h1:=inB_iff.1 (hb (j/16) (by omega)) (j%16) (by rw[Bv _ _ _ (by omega)];omega);rw[D4 _ _ _ _ (by omega),show j/16*16+j%16=j by omega]at h1;exact h1
theorem OI {j:Nat}(h:j<4):nth Bn j=0:=by
 match j,h with
 | 0,_=>rfl
 | 1,_=>rfl
 | 2,_=>rfl
 | 3,_=>rfl
section
variable {P : Program}
theorem C9 {ops:Array Oper}{rest:List Oper}{o:Oper}{a:Act}{w:World}{Q:Exit→Act→World→Prop}(t:TypeId)(x y:Operand)(t2:TypeId)(ho:o.op= .binOp .eql t x y t2)(hgd:Region.wanted o (yielded ops a.tmps)=true)
 (cs ds:Array Value) (hx:a.eval x= .agg cs) (hy:a.eval y= .agg ds) (r:Bool) (hrun:∀ w,(Op.equalIn 10000 t (.agg cs) (.agg ds)).run P w= .ok r w) (hm:P.eqGuardType P.depth t=false)
 (hK:wpList P ops Q rest (a.put o.dst (.bool r)) w):wpList P ops Q (o::rest) a w:=by
 refine AG hgd fun _ hK' => ?_
 unfold Oper.wp execOp;simp[ho,hx,hy,Sem.run_bind,run_eqGuard_agg w .eql t x y _ _ hm,run_eql_struct w t,hrun,Result.andThen];exact hK' _ _ hK
theorem Ch {ops:Array Oper}{rest:List Oper}{o:Oper}{a:Act}{w:World}{Q:Exit→Act→World→Prop}(t:TypeId)(x y:Operand)(t2:TypeId)(ho:o.op= .binOp .neq t x y t2)(hgd:Region.wanted o (yielded ops a.tmps)=true)
 (cs ds:Array Value) (hx:a.eval x= .agg cs) (hy:a.eval y= .agg ds) (r:Bool) (hrun:∀ w,(Op.equalIn 10000 t (.agg cs) (.agg ds)).run P w= .ok r w) (hm:P.eqGuardType P.depth t=false)
 (hK:wpList P ops Q rest (a.put o.dst (.bool (!r))) w):wpList P ops Q (o::rest) a w:=by
 refine AG hgd fun _ hK' => ?_
 unfold Oper.wp execOp;simp[ho,hx,hy,Sem.run_bind,run_eqGuard_agg w .neq t x y _ _ hm,run_neq_struct w t,hrun,Result.andThen];exact hK' _ _ (by simpa using hK)
end
def vv (x y:Int):Prop := -16≤x∧x≤16 ∧ -16≤y∧y≤16
theorem Fa (x y:Int)(r:Bool)(hr:decide (x=0∧y=0)=r)(w:World):(Op.equalIn 10000 45 (.agg #[.int .i64 x,.int .i64 y]) (.agg #[.int .i64 0,.int .i64 0])).run Tryz.prog w= .ok r w:=by
 have hf:Tryz.prog.underlying 45=some (.struct (Tryz.prog.fieldsOf 45)):=by kernel_rfl
 have hp:Tryz.prog.stoodInHeld 45=false:=by kernel_rfl
 subst hr;rw[run_equalIn_struct w 9999 _ _ _ hf hp];have hag:(isAgg 3).run Tryz.prog w= .ok false w:=by
  unfold isAgg;rw[Sem.run_bind,run_underlying Rt w];simp
 have p1:∀(u v:Int),(part 3 #[.int .i64 u,.int .i64 v] 0).run Tryz.prog w= .ok (.int .i64 u) w:=fun u v=>by simp[part,Sem.run_bind,hag]
 have p2:∀(u v:Int),(part 3 #[.int .i64 u,.int .i64 v] 1).run Tryz.prog w= .ok (.int .i64 v) w:=fun u v=>by simp[part,Sem.run_bind,hag]
 have q:∀(u v:Int),(Op.equalIn 9999 3 (.int .i64 u) (.int .i64 v)).run Tryz.prog w= .ok (u == v) w:=fun u v=>run_equalIn_int w 9998 _ _ _ _ _ Rt
 simp only[Program.fieldsOf,Rr,Op.eqFields,Sem.run_bind,p1,p2,q,Result.andThen_ok]
 by_cases hx:x=0
 ·subst hx
  by_cases hy:y=0
  ·subst hy;simp[p1,p2,q,Result.andThen]
  ·simp[p1,p2,q,Result.andThen,hy]
 ·simp[p1,p2,q,Result.andThen,hx]
theorem A8 : Tryz.prog.eqGuardType Tryz.prog.depth 45=false:=by kernel_rfl
theorem Cn : Tryz.prog.eqGuardType Tryz.prog.depth 46=false:=by kernel_rfl
theorem DX : Tryz.prog.eqGuardType Tryz.prog.depth 48=false:=by kernel_rfl
theorem BZ : (Tryz.prog.info? 46).map (·.size)=some 4:=by kernel_rfl
theorem Be : (Tryz.prog.info? 48).map (·.size)=some 64:=by kernel_rfl
theorem Av : (Tryz.prog.info? 45).map (·.size)=some 2:=by kernel_rfl
theorem Ah : (Tryz.prog.info? 50).map (·.size)=some 71:=by kernel_rfl
theorem Dq : (Tryz.prog.info? 46).map (·.zero)=some (some (.agg (ic (List.replicate 4 0)))):=by kernel_rfl
theorem DW : (Tryz.prog.info? 48).map (·.zero)=some (some (.agg (ic (List.replicate 64 0)))):=by kernel_rfl
theorem Dh : EqE Tryz.prog 3 1 9999:=EqE.int Rt 9998
theorem I7 : EqE Tryz.prog 47 16 9999:=EqE.arr (n:=16) Rm AC Ag (EqE.int Rt 9997)
theorem AL (x y:Int)(w:World)(h:vv x y):
 Calls Tryz.prog 98 #[.agg #[.int .i64 x,.int .i64 y]] w fun e w'=>e= .returned (.bool true)∧Ext w w':=by
 obtain⟨h1,h2,h3,h4⟩:=h;go_enter Tryz.func98,Tryz.ntmps98
 go_wp2;go_ret
 exact⟨by first|rfl|(simp;done)|(simp;omega),Ext.alloc _ _⟩
theorem B5 (x y:Int)(w:World)(h : ¬ vv x y):
 Calls Tryz.prog 98 #[.agg #[.int .i64 x,.int .i64 y]] w fun e w'=>e= .returned (.bool false)∧Ext w w':=by
 unfold vv at h
 by_cases h1 : -16≤x
 ·by_cases h2:x≤16
  ·by_cases h3 : -16≤y
   ·have h4 : ¬ y≤16:=fun h4=>h ⟨h1,h2,h3,h4⟩
    clear h;go_enter Tryz.func98,Tryz.ntmps98
    go_wp2;go_ret
    exact⟨by first|rfl|(simp;done)|(simp;omega),Ext.alloc _ _⟩
   ·clear h;go_enter Tryz.func98,Tryz.ntmps98
    go_wp2;go_ret
    exact⟨by first|rfl|(simp;done)|(simp;omega),Ext.alloc _ _⟩
  ·clear h;go_enter Tryz.func98,Tryz.ntmps98
   go_wp2;go_ret
   exact⟨by first|rfl|(simp;done)|(simp;omega),Ext.alloc _ _⟩
 ·clear h;go_enter Tryz.func98,Tryz.ntmps98
  go_wp2;go_ret
  exact⟨by first|rfl|(simp;done)|(simp;omega),Ext.alloc _ _⟩
end Go.Proofs.YtijnbalgnhigbaaGreatDoor
namespace Go.Proofs.YtijnbalgnhigbaaGreatDoor
open Go.RowKit
theorem kkp {A:Sort _}{B:A→Sort _}{C:∀ a,B a→Sort _}{D:∀ a b,C a b→Sort _}{E:∀ a b c,D a b c→Sort _}{F:∀ a b c d,E a b c d→Sort _}{p:∀ a b c d e,F a b c d e→Prop}: ∀ a b c d e f,p a b c d e f→p a b c d e f:=fun _ _ _ _ _ _ h=>h
theorem ddq {A:Sort _}{a b:A}(h:a=b):a=b:=h
def Stab (E:World→World→Prop)(V:Nat→Value→(Nat→Value)→World→Prop):Prop :=
 ∀(i:Nat) (own:Value) (ys:Nat→Value) (wa wb:World),E wa wb→V i own ys wa→V i own ys wb
def Stbn (n i:Nat)(anc:List (List Nat))(V:Nat→Value→(Nat→Value)→World→Prop)(wx wy:World):Prop :=
 ∀(ii:Nat),ii<n→ii≠i→(anc.getD ii []).contains i=false→∀(own:Value) (ys:Nat→Value),V ii own ys wx→V ii own ys wy
def Ad : Nat→List Value→List (Nat×Nat)→(Nat→Value)→List Value
 | _,[],_,_ => []
 | _,v::l,[],_=>v::l
 | p,v::l,(d,i)::ds,xs=>if p=d then xs i::Ad (p+1) l ds xs else v::Ad (p+1) l ((d,i)::ds) xs
def upd (xs:Nat→Value)(j:Nat)(v:Value):Nat→Value:=fun i=>if i=j then v else xs i
def Ci : Nat→List (Nat×Nat)→Bool
 | _,[]=>true
 | p,(d,_)::ds=>decide (p≤d) && Ci (d+1) ds
theorem Eu {p:Nat}: ∀ {ds:List (Nat×Nat)},Ci p ds=true→∀ x∈ds,p≤x.1
 | [],_,x,hx=>by cases hx
 | (d,i)::ds,ha,x,hx=>by
  simp[Ci]at ha;rcases List.mem_cons.1 hx with rfl|hx
  ·exact ha.1
  ·have:=Eu ha.2 x hx;omega
theorem CY (xs:Nat→Value):∀(l:List Value) (p:Nat) (ds:List (Nat×Nat)),Ci p ds=true →
 (∀ x∈ds,x.1<p+l.length→xs x.2=l.getD (x.1-p) undef)→Ad p l ds xs=l
 | [],p,ds,_,_=>by simp[Ad]
 | v::l,p,[],_,_=>by simp[Ad]
 | v::l,p,(d,i)::ds,ha,h=>by
  simp[Ci]at ha;simp only[Ad]
  by_cases hp:p=d
  ·subst hp;rw[if_pos rfl];have h1:=h (p,i) (by simp) (by simp);simp at h1;rw[h1,CY xs l (p+1) ds ha.2 (fun x hx hlt=>by
    have h2:=h x (by simp[hx]) (by simp;omega);have h3:=Eu ha.2 x hx;rw[h2,show x.1-p=(x.1-(p+1))+1 by omega];simp)]
  ·rw[if_neg hp,CY xs l (p+1) ((d,i)::ds) (by simp[Ci];exact⟨by omega,ha.2⟩) (fun x hx hlt=>by
    have h2:=h x hx (by simp;omega);have h3:p+1≤x.1:=by
     rcases List.mem_cons.1 hx with rfl|hx
     ·show p+1≤d;omega
     ·have:=Eu ha.2 x hx;omega
    rw[h2,show x.1-p=(x.1-(p+1))+1 by omega];simp)]
theorem CG (xs:Nat→Value)(v:Value):∀(l:List Value) (p:Nat) (ds:List (Nat×Nat)) (d j:Nat),Ci p ds=true→(ds.map (·.2)).Nodup→(d,j)∈ds →
 (Ad p l ds xs).set (d-p) v=Ad p l ds (upd xs j v)
 | [],p,ds,d,j,_,_,_=>by simp[Ad]
 | u::l,p,[],d,j,_,_,hm=>by cases hm
 | u::l,p,(e,i)::ds,d,j,ha,hn,hm=>by
  have ha':=ha;simp[Ci]at ha;simp only[List.map_cons,List.nodup_cons]at hn;have rest:∀(q:Nat) (l:List Value) (ds:List (Nat×Nat)),j∉ds.map (·.2)→Ad q l ds (upd xs j v)=Ad q l ds xs:=by
   intro q l
   induction l generalizing q with
   | nil=>intro ds _;simp[Ad]
   | cons u l ih =>
    intro ds hj;cases ds with
    | nil=>simp[Ad]
    | cons e ds =>
     obtain⟨e1,e2⟩:=e;simp only[Ad];simp at hj;have:upd xs j v e2=xs e2:=by unfold upd;rw[if_neg (fun h=>hj.1 h.symm)]
     rw[this,ih (q+1) ds (by simpa using hj.2),ih (q+1) ((e1,e2)::ds) (by simpa using hj)]
  simp only[Ad];rcases List.mem_cons.1 hm with he|hm2
  ·simp only[Prod.mk.injEq]at he;obtain⟨rfl,rfl⟩:=he
   by_cases hp:p=d
   ·subst hp;rw[if_pos rfl,if_pos rfl,Nat.sub_self,List.set_cons_zero,rest _ _ _ hn.1];simp[upd]
   ·rw[if_neg hp,if_neg hp,show d-p=(d-(p+1))+1 by omega,List.set_cons_succ,
     CG xs v l (p+1) ((d,j)::ds) d j (by simp[Ci];exact⟨by omega,ha.2⟩) (by simp[hn.2];simpa using hn.1) (by simp)]
  ·have hge:=Eu ha.2 _ hm2;have hji:j≠i:=fun h=>hn.1 (h▸List.mem_map.2 ⟨(d,j),hm2,rfl⟩)
   by_cases hp:p=e
   ·subst hp;simp only at hge;rw[if_pos rfl,if_pos rfl,show d-p=(d-(p+1))+1 by omega,List.set_cons_succ,CG xs v l (p+1) ds d j ha.2 hn.2 hm2];have:upd xs j v i=xs i:=by unfold upd;rw[if_neg (Ne.symm hji)]
    rw[this]
   ·simp only at hge;rw[if_neg hp,if_neg hp,show d-p=(d-(p+1))+1 by omega,List.set_cons_succ,
     CG xs v l (p+1) ((e,i)::ds) d j (by simp[Ci];exact⟨by omega,ha.2⟩) (by simp[hn.2];simpa using hn.1) (by simp[hm2])]
def OpGoal (P:Program)(ops:Array Oper)(o:Oper)(act:Act)(w:World)(Post:Value→World→Prop):Prop :=
 ∀(Qo:Exit→Act→World→Prop) (K:Value→World→Prop),Hid (∀ v w',Post v w'→K v w')→(∀ v w',K v w'→Qo .normal (act.put o.dst v) w')→wpList P ops Qo [o] act w
theorem OpGoal.plain {P:Program}{ops:Array Oper}{o:Oper}{act:Act}{w:World}{Post:Value→World→Prop}(h:OpGoal P ops o act w Post)(Qo:Exit→Act→World→Prop)(hQ:∀ v w',Post v w'→Qo .normal (act.put o.dst v) w'):wpList P ops Qo [o] act w :=
 h Qo Post (fun _ _ hp=>hp) hQ
theorem Qy {P:Program}{o:Oper}{a:Act}{w:World}{K K':Act→World→Prop}{Q:Exit→Act→World→Prop}(h:o.wp P a w K (Exit.then K' Q)):o.wp P a w K Q:=by
 unfold Oper.wp at *;generalize (execOp a.eval o).run P w=r at *;cases r with
 | ok n w'=>cases n <;> exact h
 | halt x w'=>cases x <;> exact h
theorem Fe {P:Program}{ops:Array Oper}{Q:Exit→Act→World→Prop}{i:Nat}{o:Oper}{a:Act}{w:World}{K:Act→World→Prop}{Post:Value→World→Prop}(hi:ops[i]?=some o)
 (h:OpGoal P ops o a w Post) (hK:∀ v w',Post v w'→K (a.put o.dst v) w'):wpOp P ops Q i K a w:=by
 have h1:=h.plain (Exit.then K Q) (fun v w' hp=>hK v w' hp);unfold wpOp;simp only[hi];unfold wpList at h1
 by_cases hw:Region.wanted o (yielded ops a.tmps)=true
 ·rw[if_pos hw]at h1⊢;rcases h1 with h1|⟨h2,h3⟩
  ·exact .inl (Qy h1)
  ·exact .inr ⟨h2,h3⟩
 ·rw[if_neg hw]at h1⊢;exact h1
def dsOk (ol:List Oper)(ds:List (Nat×Nat))(n:Nat):Bool :=
 Ci 0 ds && ds.all (fun x=>decide (x.1<n) && ((ol[x.2]?).bind (·.dst) == some x.1)) && (ds.map (·.2)).Nodup &&
 (List.range ol.length).all (fun i=>match (ol[i]?).bind (·.dst)with|some d=>ds.contains (d,i)|none=>true)
def direct (o:Oper):List Nat:=(o.after.toList.filter (Region.binds .any)).map (·.on)
def IG (ol:List Oper)(anc:List (List Nat)):Bool :=
 anc.length == ol.length && (List.range ol.length).all fun i=>match ol[i]? with
  | none=>true
  | some o=>(direct o).all (fun j=>decide (j<i)) && (anc.getD i []).all fun j=>(direct o).contains j || (direct o).any fun d=>(anc.getD d []).contains j
structure ObOk (P : Program) (ol : List Oper) (l : List Value) (df : List Deferred) (ds : List (Nat × Nat)) (anc : List (List Nat)) (V : Nat → (Nat → Value) → World → Prop) (G : Nat → World → Prop) (j : Nat) (o : Oper) : Prop where
 run:∀ k xs w,k<ol.length→G k w→(∀ i,(anc.getD j []).contains i=true→V i xs w)→(∀ i d,(anc.getD i []).contains j=true→(ol.toArray[i]?).bind (·.dst)=some d→xs i=l.getD d undef) →
  OpGoal P ol.toArray o ⟨(Ad 0 l ds xs).toArray,df⟩ w (fun v w'=>V j (upd xs j v) w'∧G (k+1) w'∧∀ i,i<ol.length→i≠j→(anc.getD i []).contains j=false→V i xs w→V i (upd xs j v) w')
theorem Ko {P:Program}{id:Nat}{ol:List Oper}{Q:Exit→Act→World→Prop}{l:List Value}{df:List Deferred}{w0:World}
 (hm:P.follows .mixedOrders=true) (ds:List (Nat×Nat)) (anc:List (List Nat)) (V:Nat→(Nat→Value)→World→Prop) (G:Nat→World→Prop)
 (hds:dsOk ol ds l.length=true) (hanc:IG ol anc=true) (h0:G 0 w0.drew)
 (hop:∀ j o,ol[j]?=some o→ObOk P ol l df ds anc V G j o)
 (hend:∀ xs w',(∀ i,i<ol.length→V i xs w')→G ol.length w'→Q .normal ⟨(Ad 0 l ds xs).toArray,df⟩ w') :
 (Code.region id ol.toArray true).wp P Q ⟨l.toArray,df⟩ w0:=by
 simp only[dsOk,Bool.and_eq_true,List.all_eq_true,decide_eq_true_eq,beq_iff_eq,List.mem_range]at hds;obtain⟨⟨⟨ha,hd1⟩,hnd⟩,hd2⟩:=hds;simp only[IG,Bool.and_eq_true,List.all_eq_true,beq_iff_eq,List.mem_range]at hanc;obtain⟨hal,hanc⟩:=hanc
 -- the states that are met
 have key:∀(fuel:Nat) (listed:Array Bool) (xs:Nat→Value) (w:World),listed.size=ol.length→listed.toList.count true+fuel=ol.length →
  (∀ i,listed.getD i false=true→∀ j,(anc.getD i []).contains j=true→listed.getD j false=true) →
  (∀ i,i<ol.length→listed.getD i false=true→V i xs w)→G (listed.toList.count true) w →
  (∀ i d,listed.getD i false=false→(ol.toArray[i]?).bind (·.dst)=some d→xs i=l.getD d undef) →
  wpAny P .any ol.toArray Q fuel listed ⟨(Ad 0 l ds xs).toArray,df⟩ w:=by
  intro fuel;have full:∀(listed:Array Bool),listed.size=ol.length→listed.toList.count true=ol.length→∀ i,i<ol.length→listed.getD i false=true:=by
   intro listed hs hc i hi;have h1:∀ b∈listed.toList,true=b:=List.count_eq_length.1 (by rw[hc];simp[hs]);have h2:=h1 listed[i] (by simp);simp[Array.getD,hs,hi,←h2]
  have none_ready:∀(listed:Array Bool),listed.size=ol.length→listed.toList.count true<ol.length→Region.ready .any ol.toArray listed ≠ []:=by
   intro listed hs hc hr
   -- the least that is not listed
   have hex:∃ i,i<ol.length∧listed.getD i false=false:=by
    refine Classical.byContradiction fun hno => ?_
    have:listed.toList.count true=ol.length:=by
     rw[←hs,←Array.length_toList,List.count_eq_length];intro b hb;obtain⟨i,hi,rfl⟩:=List.getElem_of_mem hb;simp at hi;refine Classical.byContradiction fun hne=>hno ⟨i,by omega,?_⟩
     simp[Array.getD,hi]
     simpa using hne
    omega
   obtain⟨i,⟨hi,hli⟩,hmin⟩:=exists_least hex;have:i∈Region.ready .any ol.toArray listed:=by
    rw[mem_ready];refine⟨?_,ol[i],by simp[hi],fun e he hb => ?_⟩
    ·simp[Array.getD,hs,hi]at hli⊢;exact hli
    ·have h1:=(hanc i hi);simp only[List.getElem?_eq_getElem hi,Bool.and_eq_true,List.all_eq_true,decide_eq_true_eq]at h1;have h2:=h1.1 e.on (List.mem_map.2 ⟨e,List.mem_filter.2 ⟨by simpa using he,hb⟩,rfl⟩);cases hle:listed.getD e.on false with
     | true=>rfl
     | false=>have:=hmin e.on ⟨by omega,hle⟩;omega
   rw[hr]at this;cases this
  induction fuel with
  | zero =>
   intro listed xs w hs hc hcl hV hG _;have hf:=full listed hs (by omega);refine⟨?_,?_⟩
   ·refine List.eq_nil_iff_forall_not_mem.2 fun i hi => ?_
    obtain⟨h1,o,h2,-⟩:=mem_ready.1 hi;have hlt:i<ol.length:=by
     have:=(Array.getElem?_eq_some_iff.1 h2).1
     simpa using this
    have:=hf i hlt;simp[Array.getD,hs,hlt]at this h1;rw[this]at h1;cases h1
   ·refine hend xs w (fun i hi=>hV i hi (hf i hi)) ?_;rw[show ol.length=listed.toList.count true by omega];exact hG
  | succ fuel ih =>
   intro listed xs w hs hc hcl hV hG hI;refine⟨fun hr=>absurd hr (none_ready listed hs (by omega)),fun i hi => ?_⟩;obtain⟨h1,o,h2,h3⟩:=mem_ready.1 hi;have hlt:i<ol.length:=by
    have:=(Array.getElem?_eq_some_iff.1 h2).1
    simpa using this
   have h2':ol[i]?=some o:=by simpa using h2
   have hun:listed.getD i false=false:=by simp[Array.getD,hs,hlt]at h1⊢;exact h1
   have hA:=hanc i hlt;rw[h2']at hA;simp only[Bool.and_eq_true,List.all_eq_true,decide_eq_true_eq,Bool.or_eq_true,List.any_eq_true]at hA;have dirL:∀ d∈direct o,listed.getD d false=true:=by
    intro d hd;obtain⟨e,he,rfl⟩:=List.mem_map.1 hd;obtain⟨he1,he2⟩:=List.mem_filter.1 he;exact h3 e (by simpa using he1) he2
   have ancL:∀ j,(anc.getD i []).contains j=true→listed.getD j false=true:=by
    intro j hj;rcases hA.2 j (by simpa using hj)with h|⟨d,hd,h⟩
    ·exact dirL j (by simpa using h)
    ·exact hcl d (dirL d hd) j h
   have ltL:∀ j,listed.getD j false=true→j<ol.length:=by
    intro j hj;refine Classical.byContradiction fun hge => ?_
    simp[Array.getD,show ¬ j<listed.size by omega]at hj
   have goal:=(hop i o h2').run (listed.toList.count true) xs w (by omega) hG (fun j hj=>hV j (ltL j (ancL j hj)) (ancL j hj)) (fun j d hj hd=>hI j d (by
    cases hc2:listed.getD j false with
    | false=>rfl
    | true=>have:=hcl j hc2 i hj;rw[hun]at this;cases this) hd)
   refine Fe h2 goal fun v w' hp => ?_
   obtain⟨hp1,hp2,hp3⟩:=hp;have hcount:(listed.setIfInBounds i true).toList.count true=listed.toList.count true+1:=by
    rw[Array.toList_setIfInBounds,List.count_set (by simp;omega)];have:listed.toList[i]'(by simp;omega)=false:=by
     simp[Array.getD,hs,hlt]at hun
     simpa using hun
    simp[this]
   have hput:(⟨(Ad 0 l ds xs).toArray,df⟩:Act).put o.dst v=⟨(Ad 0 l ds (upd xs i v)).toArray,df⟩:=by
    cases hd:o.dst with
    | none =>
     have hni:i∉ds.map (·.2):=by
      intro hmem;obtain⟨x,hx,rfl⟩:=List.mem_map.1 hmem;have:=(hd1 x hx).2;rw[h2']at this;simp[hd]at this
     have rest:∀(q:Nat) (l:List Value) (ds:List (Nat×Nat)),i∉ds.map (·.2)→Ad q l ds (upd xs i v)=Ad q l ds xs:=by
      intro q l
      induction l generalizing q with
      | nil=>intro ds _;simp[Ad]
      | cons u l ih2 =>
       intro ds hj;cases ds with
       | nil=>simp[Ad]
       | cons e ds =>
        obtain⟨e1,e2⟩:=e;simp only[Ad];simp at hj;have:upd xs i v e2=xs e2:=by unfold upd;rw[if_neg (fun h=>hj.1 h.symm)]
        rw[this,ih2 (q+1) ds (by simpa using hj.2),ih2 (q+1) ((e1,e2)::ds) (by simpa using hj)]
     rw[rest _ _ _ hni];rfl
    | some d =>
     have hmem:(d,i)∈ds:=by
      have:=hd2 i hlt;rw[h2']at this
      simpa [hd] using this
     have h5:=CG xs v l 0 ds d i ha (by simpa using hnd) hmem;simp only[Nat.sub_zero]at h5;rw[←h5];simp[Act.put]
   rw[hput];refine ih _ _ _ (by simpa using hs) (by rw[hcount];omega) ?_ ?_ (by rw[hcount];exact hp2) (fun q d hq hd => ?_)
   rotate_right
   ·by_cases hqi:q=i
    ·subst hqi;rw[Array.getD_eq_getD_getElem?,Array.getElem?_setIfInBounds,if_pos rfl,if_pos (by omega)]at hq;simp at hq
    ·rw[getD_set_ne false (Ne.symm hqi)]at hq;rw[show upd xs i v q=xs q by simp[upd,hqi]];exact hI q d hq hd
   ·intro q hq j hj
    by_cases hqi:q=i
    ·subst hqi;exact getD_set_true (ancL j hj)
    ·rw[getD_set_ne false (Ne.symm hqi)]at hq;exact getD_set_true (hcl q hq j hj)
   ·intro q hq hl
    by_cases hqi:q=i
    ·subst hqi;exact hp1
    ·rw[getD_set_ne false (Ne.symm hqi)]at hl;refine hp3 q hq hqi ?_ (hV q hq hl);cases hc2:(anc.getD q []).contains i with
     | false=>rfl
     | true=>have:=hcl q hl i hc2;rw[hun]at this;cases this
 refine wp_region_any hm ?_;have init:=key ol.length (Array.replicate ol.length false) (fun i=>(((ol[i]?).bind (·.dst)).map (fun d=>l.getD d undef)).getD undef) w0.drew (by simp) (by simp[List.count_replicate]) (fun i hi=>by simp[Array.getD]at hi) (fun i _ hi=>by simp[Array.getD]at hi) (by simpa [List.count_replicate] using h0) (fun i d _ hd=>by
  have hd':(ol[i]?).bind (·.dst)=some d:=by simpa using hd
  simp[hd'])
 have hsame:=CY (fun i=>(((ol[i]?).bind (·.dst)).map (fun d=>l.getD d undef)).getD undef) l 0 ds ha (fun x hx _=>by
  have:=(hd1 x hx).2;rw[this];simp)
 rw[hsame]at init
 simpa using init
def mask (anc:List (List Nat))(i:Nat)(xs:Nat→Value):Nat→Value:=fun q=>if(anc.getD i []).contains q then xs q else undef
theorem Ej {anc:List (List Nat)}{i j:Nat}{xs:Nat→Value}{v:Value}(h:(anc.getD i []).contains j=false):mask anc i (upd xs j v)=mask anc i xs:=by
 funext q
 unfold mask upd
 by_cases hq:q=j
 ·subst hq;rw[if_neg (by rw[h];simp),if_neg (by rw[h];simp)]
 ·simp[hq]
def Ob (P:Program)(n:Nat)(ops:Array Oper)(l:List Value)(df:List Deferred)(ds:List (Nat×Nat))(anc:List (List Nat))(W:Nat→Value→(Nat→Value)→World→Prop)(G:Nat→World→Prop)(j:Nat)(o:Oper):Prop :=
 ∀ k xs w,k<n→G k w→(∀ i,(anc.getD j []).contains i=true→W i (xs i) (mask anc i xs) w)→(∀ i d,(anc.getD i []).contains j=true→(ops[i]?).bind (·.dst)=some d→xs i=l.getD d undef) →
  OpGoal P ops o ⟨(Ad 0 l ds xs).toArray,df⟩ w (fun v w'=>W j v (mask anc j xs) w'∧G (k+1) w'∧∀ i,i<n→i≠j→(anc.getD i []).contains j=false→∀ own ys,W i own ys w→W i own ys w')
def Obs (P:Program)(n:Nat)(ops:Array Oper)(l:List Value)(df:List Deferred)(ds:List (Nat×Nat))(anc:List (List Nat))(W:Nat→Value→(Nat→Value)→World→Prop)(G:Nat→World→Prop):Nat→List Oper→Prop
 | _,[]=>True
 | j,o::os=>Ob P n ops l df ds anc W G j o∧Obs P n ops l df ds anc W G (j+1) os
theorem Obs.get {P:Program}{n:Nat}{ops:Array Oper}{l:List Value}{df:List Deferred}{ds:List (Nat×Nat)}{anc:List (List Nat)}{W:Nat→Value→(Nat→Value)→World→Prop}{G:Nat→World→Prop}:
 ∀ {os:List Oper} {p:Nat},Obs P n ops l df ds anc W G p os→∀ j o,os[j]?=some o→Ob P n ops l df ds anc W G (p+j) o
 | [],_,_,j,o,h=>by simp at h
 | u::os,p,h,j,o,hj=>by
  cases j with
  | zero=>simp at hj;subst hj;exact h.1
  | succ j =>
   simp at hj;have:=h.2.get j o hj
   rwa [show p+1+j=p+(j+1) by omega]at this
theorem An {P:Program}{id:Nat}{ol:List Oper}{Q:Exit→Act→World→Prop}{l:List Value}{df:List Deferred}{w0:World}
 (hm:P.follows .mixedOrders=true) (ds:List (Nat×Nat)) (anc:List (List Nat)) (W:Nat→Value→(Nat→Value)→World→Prop) (G:Nat→World→Prop)
 (hds:dsOk ol ds l.length=true) (hanc:IG ol anc=true) (hself:(List.range ol.length).all (fun i => !(anc.getD i []).contains i)=true) (h0:G 0 w0.drew)
 (hop:Obs P ol.length ol.toArray l df ds anc W G 0 ol)
 (hend:∀ xs w',(∀ i,i<ol.length→W i (xs i) (mask anc i xs) w')→G ol.length w'→Q .normal ⟨(Ad 0 l ds xs).toArray,df⟩ w') :
 (Code.region id ol.toArray true).wp P Q ⟨l.toArray,df⟩ w0:=by
 refine Ko hm ds anc (fun i xs w=>W i (xs i) (mask anc i xs) w) G hds hanc h0 (fun j o hj=>⟨fun k xs w hk hG hD hI => ?_⟩) hend;have h1:=hop.get j o hj;rw[Nat.zero_add]at h1;have hjl:j<ol.length:=(List.getElem?_eq_some_iff.1 hj).1;have hs:(anc.getD j []).contains j=false:=by
  simp only[List.all_eq_true,List.mem_range]at hself
  simpa using hself j hjl
 have h2:=h1 k xs w hk hG hD hI;intro Qo K hK hQo;refine h2 Qo K (fun v w' ⟨p1,p2,p3⟩=>hK v w' ⟨?_,p2,fun i hi hne hc hV => ?_⟩) hQo
 ·rw[Ej hs,show upd xs j v j=v by simp[upd]];exact p1
 ·rw[Ej hc,show upd xs j v i=xs i by simp[upd,hne]];exact p3 i hi hne hc _ _ hV
def Ir (n:Nat):List (List Nat):=(List.range n).map List.range
theorem Et {n i:Nat}(h:i<n):(Ir n).getD i []=List.range i:=by simp[Ir,h]
theorem CQ {P:Program}{id:Nat}{ol:List Oper}{Q:Exit→Act→World→Prop}{l:List Value}{df:List Deferred}{w0:World}
 (ds:List (Nat×Nat)) (anc:List (List Nat)) (W:Nat→Value→(Nat→Value)→World→Prop) (G:Nat→World→Prop)
 (hds:dsOk ol ds l.length=true) (hanc:anc=Ir ol.length) (h0:G 0 w0)
 (hop:Obs P ol.length ol.toArray l df ds anc W G 0 ol)
 (hend:∀ xs w',(∀ i,i<ol.length→W i (xs i) (mask anc i xs) w')→G ol.length w'→Q .normal ⟨(Ad 0 l ds xs).toArray,df⟩ w') :
 (Code.region id ol.toArray false).wp P Q ⟨l.toArray,df⟩ w0:=by
 subst hanc;simp only[dsOk,Bool.and_eq_true,List.all_eq_true,decide_eq_true_eq,beq_iff_eq,List.mem_range]at hds;obtain⟨⟨⟨ha,hd1⟩,hnd⟩,hd2⟩:=hds;have key:∀(m j:Nat) (xs:Nat→Value) (w:World),j+m=ol.length→G j w→(∀ i,i<j→W i (xs i) (mask (Ir ol.length) i xs) w)→(∀ i d,j≤i→(ol.toArray[i]?).bind (·.dst)=some d→xs i=l.getD d undef) →
  wpOps P ol.toArray Q (List.range' j m) ⟨(Ad 0 l ds xs).toArray,df⟩ w:=by
  intro m
  induction m with
  | zero =>
   intro j xs w hj hG hV _;obtain rfl:j=ol.length:=by omega
   simp only[List.range',wpOps];exact hend xs w hV hG
  | succ m ih =>
   intro j xs w hj hG hV hI;have hlt:j<ol.length:=by omega
   have h2':ol[j]?=some ol[j]:=by simp[hlt]
   have h1:=hop.get j ol[j] h2';rw[Nat.zero_add]at h1;have goal:=h1 j xs w hlt hG (fun i hi=>hV i (by rw[Et hlt]at hi;simpa using hi)) (fun i d hi hd=>hI i d (by
    have hil:i<ol.length:=by
     cases ho:ol[i]? with
     | none=>simp[ho]at hd
     | some o=>exact(List.getElem?_eq_some_iff.1 ho).1
    rw[Et hil]at hi;simp at hi;omega) hd)
   rw[List.range'_succ,wpOps_cons];refine Fe (by simp[hlt]) goal fun v w' hp => ?_
   obtain⟨hp1,hp2,hp3⟩:=hp;have hself:((Ir ol.length).getD j []).contains j=false:=by rw[Et hlt];simp
   have hput:(⟨(Ad 0 l ds xs).toArray,df⟩:Act).put ol[j].dst v=⟨(Ad 0 l ds (upd xs j v)).toArray,df⟩:=by
    cases hd:ol[j].dst with
    | none =>
     have hni:j∉ds.map (·.2):=by
      intro hmem;obtain⟨x,hx,rfl⟩:=List.mem_map.1 hmem;have:=(hd1 x hx).2;rw[h2']at this;simp[hd]at this
     have rest:∀(q:Nat) (l:List Value) (ds:List (Nat×Nat)),j∉ds.map (·.2)→Ad q l ds (upd xs j v)=Ad q l ds xs:=by
      intro q l
      induction l generalizing q with
      | nil=>intro ds _;simp[Ad]
      | cons u l ih2 =>
       intro ds hj;cases ds with
       | nil=>simp[Ad]
       | cons e ds =>
        obtain⟨e1,e2⟩:=e;simp only[Ad];simp at hj;have:upd xs j v e2=xs e2:=by unfold upd;rw[if_neg (fun h=>hj.1 h.symm)]
        rw[this,ih2 (q+1) ds (by simpa using hj.2),ih2 (q+1) ((e1,e2)::ds) (by simpa using hj)]
     rw[rest _ _ _ hni];rfl
    | some d =>
     have hmem:(d,j)∈ds:=by
      have:=hd2 j hlt;rw[h2']at this
      simpa [hd] using this
     have h5:=CG xs v l 0 ds d j ha (by simpa using hnd) hmem;simp only[Nat.sub_zero]at h5;rw[←h5];simp[Act.put]
   rw[hput];refine ih (j+1) _ _ (by omega) hp2 (fun i hi => ?_) (fun i d hi hd=>by rw[show upd xs j v i=xs i by simp[upd,show i≠j by omega]];exact hI i d (by omega) hd)
   by_cases hij:i=j
   ·subst hij;rw[Ej hself,show upd xs i v i=v by simp[upd]];exact hp1
   ·have hc:((Ir ol.length).getD i []).contains j=false:=by
     rw[Et (by omega)];simp;omega
    rw[Ej hc,show upd xs j v i=xs i by simp[upd,hij]];exact hp3 i (by omega) hij hc _ _ (hV i (by omega))
 refine wp_region ?_;have init:=key ol.length 0 (fun i=>(((ol[i]?).bind (·.dst)).map (fun d=>l.getD d undef)).getD undef) w0 (by simp) h0 (fun i hi=>by omega) (fun i d _ hd=>by
  have hd':(ol[i]?).bind (·.dst)=some d:=by simpa using hd
  simp[hd'])
 have hsame:=CY (fun i=>(((ol[i]?).bind (·.dst)).map (fun d=>l.getD d undef)).getD undef) l 0 ds ha (fun x hx _=>by
  have:=(hd1 x hx).2;rw[this];simp)
 rw[hsame]at init;rw[List.range_eq_range']
 simpa using init
def stepL : List Int := [1,2,4,8,12,16,24,32,48,64,96,128,192,256,384,512]
def stp (q:Nat):Int:=nth stepL q
theorem Do {q:Nat}(h:q<16):1≤stp q∧stp q≤512:=by
 have:∀ q,q<16→1≤stp q∧stp q≤512:=by decide
 exact this q h
def rnd (c s:Int):Int:=(2*c+s)/(2*s)
def qz (c:Int)(q:Nat):Int:=if c<0 then -rnd (-c) (stp q)else rnd c (stp q)
def dq (l:Int)(q:Nat):Int:=AZ (l*stp q) (-4080) 4080
theorem Gq {c s:Int}(h0:0≤c)(hs:1≤s):0≤rnd c s∧rnd c s≤c:=by
 unfold rnd
 constructor
 ·exact Int.ediv_nonneg (by omega) (by omega)
 ·have h2:2*c+s<(c+1)*(2*s):=by
   have h3:0≤c*(2*s-2):=Int.mul_nonneg h0 (by omega);have h4:(c+1)*(2*s)=c*(2*s-2)+2*c+2*s:=by
    rw[Int.add_mul,Int.mul_sub];omega
   omega
  have:=Int.ediv_lt_of_lt_mul (by omega) h2;omega
theorem QI (l:Int)(q:Nat): -4080≤dq l q∧dq l q≤4080:=Cl (by omega)
theorem QW {c:Int}{q:Nat}(h1 : -4080≤c)(h2:c≤4080)(hq:q<16): -4080≤qz c q∧qz c q≤4080:=by
 have hs:=Do hq;unfold qz
 split
 ·have:=Gq (c := -c) (s:=stp q) (by omega) hs.1;omega
 ·have:=Gq (c:=c) (s:=stp q) (by omega) hs.1;omega
theorem Oi {w:World}{b:Nat}{arr:Array Value}{T:TypeId}{i:Nat}{v:Value}(h:w.heap[b]?=some (.cells arr T (0,0)))(hi:arr[i]?=some v):w.cell? ⟨b,i,none⟩=some v:=by
 simp[World.cell?,h,hi]
theorem NO {l s:Int}(h1 : -4080≤l)(h2:l≤4080)(s1:1≤s)(s2:s≤512): -2088960≤l*s∧l*s≤2088960:=by
 have a1:l*s≤4080*s:=Int.mul_le_mul_of_nonneg_right h2 (by omega);have a2 : -4080*s≤l*s:=Int.mul_le_mul_of_nonneg_right h1 (by omega);omega
theorem Cu (q:Nat)(w:World)(hq:q<16):
 Calls Tryz.prog 121 #[.int .i64 q] w fun e w'=>e= .returned (.int .i64 (stp q))∧Ext w w':=by
 have E1:=Ext.alloc w (.cells (stepL.map (Value.int .i64)).toArray 3);have hc:(w.alloc (.cells (stepL.map (Value.int .i64)).toArray 3)).cell? ⟨w.heap.size,q,none⟩=some (.int .i64 (stp q)):=by
  refine Oi (Aj w _) ?_;have:∀ q,q<16→(stepL.map (Value.int .i64)).toArray[q]?=some (.int .i64 (stp q)):=by
   intro q hq;have hl:q<stepL.length:=hq;simp[stp,nth,hl]
  exact this q hq
 have e:(stepL.map (Value.int .i64)).toArray = #[.int .i64 1,.int .i64 2,.int .i64 4,.int .i64 8,.int .i64 12,.int .i64 16,.int .i64 24,.int .i64 32,.int .i64 48,.int .i64 64,.int .i64 96,.int .i64 128,.int .i64 192,.int .i64 256,.int .i64 384,.int .i64 512]:=rfl;rw[e]at hc E1;go_enter Tryz.func121,Tryz.ntmps121
 go_wp2_with fail
 refine(Az _ _ _ _ (by omega) (by omega)).mono ?_
 rintro e w1 ⟨rfl,rfl⟩
 go_wp2;go_ret
 exact⟨rfl,E1⟩
theorem MW (c:Int)(q:Nat)(w:World)(h1 : -4080≤c)(h2:c≤4080)(hq:q<16):
 Calls Tryz.prog 120 #[.int .i64 c,.int .i64 q] w fun e w'=>e= .returned (.int .i64 (qz c q))∧Ext w w':=by
 have hs:=Do hq;go_enter Tryz.func120,Tryz.ntmps120
 go_wp2_with fail
 refine(Cu q _ hq).mono ?_
 rintro e w1 ⟨rfl,E1⟩
 have hz:qz c q=if c<0 then -rnd (-c) (stp q)else rnd c (stp q):=rfl;have Hz:=Aa hz;clear hz;generalize stp q=s at *
 by_cases hc:c<0
 ·have hr:rnd (-c) s=(-c*2+s)/(2*s):=by unfold rnd;congr 1;omega
  have Hr:=Aa hr;have hr2:=Gq (c := -c) (s:=s) (by omega) hs.1;rw[hr]at hr2;clear hr;go_wp2;go_ret
  exact⟨by rw[Hz.out,if_pos hc,Hr.out];rfl,E1⟩
 ·have hr:rnd c s=(c*2+s)/(2*s):=by unfold rnd;congr 1;omega
  have Hr:=Aa hr;have hr2:=Gq (c:=c) (s:=s) (by omega) hs.1;rw[hr]at hr2;clear hr;go_wp2;go_ret
  exact⟨by rw[Hz.out,if_neg (by omega),Hr.out];rfl,E1⟩
def TabQ (w:World):Prop:=∀ j,j<16→w.cell? ⟨0,j,none⟩=some (.int .i64 (stp j))
theorem TabQ.ext {w w':World}(h:TabQ w)(e:Ext w w'):TabQ w':=fun j hj=>AI e (h j hj)
theorem Bw (q:Int)(w:World)(h1:0≤q)(h2:q≤15):
 Calls Tryz.prog 20 #[.int .i64 q] w fun e w'=>e= .returned (.bool true)∧w=w':=by
 go_enter Tryz.func20,Tryz.ntmps20
 go_wp2;go_ret
 exact⟨by first|rfl|(simp;done)|(simp;omega),rfl⟩
theorem Di (c:Int)(w:World)(h1 : -1099511627776≤c)(h2:c≤1099511627776):
 Calls Tryz.prog 134 #[.int .i64 c] w fun e w'=>e= .returned (.int .i64 (if c<0 then -c else c))∧w=w':=by
 go_enter Tryz.func134,Tryz.ntmps134
 by_cases hc:c<0
 ·rw[if_pos hc];go_wp2;go_ret
  first|exact⟨rfl,rfl⟩|exact⟨by simp;omega,rfl⟩
 ·rw[if_neg hc];go_wp2;go_ret
  first|exact⟨rfl,rfl⟩|exact⟨by simp;omega,rfl⟩
theorem D5 (c s:Int)(w:World)(h1:0≤c)(h2:c≤1000000)(h3:1≤s)(h4:s≤1000000):
 Calls Tryz.prog 135 #[.int .i64 c,.int .i64 s] w fun e w'=>e= .returned (.int .i64 (rnd c s))∧w=w':=by
 have hr:rnd c s=(2*c+s)/(2*s):=rfl;have Hr:=Aa hr;have hr2:=Gq h1 h3;rw[hr]at hr2;clear hr;go_enter Tryz.func135,Tryz.ntmps135
 go_wp2;go_ret
 exact⟨by rw[Hr.out];rfl,rfl⟩
theorem Iv (c:Int)(q:Nat)(w:World)(hT:TabQ w)(h1 : -4080≤c)(h2:c≤4080)(hq:q<16):
 Calls Tryz.prog 94 #[.int .i64 c,.int .i64 q] w fun e w'=>e= .returned (.int .i64 (qz c q))∧∃ n,w'=w.drewN n:=by
 have hs:=Do hq;have ht:=hT q hq;have hz:qz c q=if c<0 then -rnd (-c) (stp q)else rnd c (stp q):=rfl;have Hz:=Aa hz;clear hz;have HT:=Aa ht;generalize stp q=s at *;go_enter Tryz.func94,Tryz.ntmps94
 go_wp2_with fail
 refine(Bw _ _ (by omega) (by omega)).mono ?_
 rintro e w1 ⟨rfl,rfl⟩
 obtain⟨ac,hac⟩:∃ ac,ac=(if c<0 then -c else c):=⟨_,rfl⟩;have hac1:0≤ac∧ac≤4080:=by rw[hac];split <;> omega
 have HA:=Aa hac;clear hac ht;have hr1:=Gq (c:=ac) (s:=s) hac1.1 hs.1;have Hr1:=Aa hr1;clear hr1;go_wp2_with fail
 refine An (by kernel_rfl) [(5,6),(17,0),(18,1),(19,2),(20,3),(21,4),(22,5)] [[],[0],[],[2],[2,3],[0,1,2,3,4],[0,1,2,3,4,5]] (fun i own ys wx=>match i with|0=>own= .int .i64 c|1=>own= .int .i64 ac|2=>own= .int .i64 q|3=>own= .pointer (some ⟨0,q,none⟩)|4=>own= .int .i64 s|5=>own= .int .i64 (rnd ac s)|6=>own= .int .i64 (rnd ac s)|_=>True) (fun kx wx=>∃ n,wx=w.drewN n) (by kernel_rfl) (by kernel_rfl) (by kernel_rfl) ?g0_r1 ?gop_r1 ?gend_r1
 case g0_r1=>exact⟨1,rfl⟩
 case gop_r1 =>
  refine⟨?_,?o1,?_,?o3,?o4,?o5,?o6,trivial⟩ <;> (intro kx xs wx hk hG hD hI Qo Kx hK hQo;simp only[Ad,Nat.reduceAdd,Nat.reduceEqDiff,↓reduceIte]at hQo⊢)
  case o1 =>
   rw[ddq (hD 0 rfl)]at hQo⊢;clear hD hI;go_wp2_with fail
   refine(Di c _ (by omega) (by omega)).mono ?_
   rintro e w2 ⟨rfl,rfl⟩
   rw[←HA.out];go_wp2;exact hK.out _ _ ⟨rfl,hG,kkp⟩
  case o3 =>
   rw[ddq (hD 2 rfl)]at hQo⊢;clear hD hI;go_wp2;exact hK.out _ _ ⟨rfl,hG,kkp⟩
  case o4 =>
   rw[ddq (hD 3 rfl)]at hQo⊢;clear hD hI;obtain⟨nn,rfl⟩:=hG;have ht:=HT.out;have hG:∃ n,w.drewN nn=w.drewN n:=⟨nn,rfl⟩;go_wp2;exact hK.out _ _ ⟨rfl,hG,kkp⟩
  case o5 =>
   rw[ddq (hD 1 rfl),ddq (hD 4 rfl)]at hQo⊢;clear hD hI;go_wp2_with fail
   refine(D5 ac s _ (by omega) (by omega) (by omega) (by omega)).mono ?_
   rintro e w2 ⟨rfl,rfl⟩
   go_wp2;exact hK.out _ _ ⟨rfl,hG,kkp⟩
  case o6 =>
   rw[ddq (hD 5 rfl)]at hQo⊢;clear hD hI;go_wp2;exact hK.out _ _ ⟨rfl,hG,kkp⟩
  all_goals
   clear hD hI;go_wp2;exact hK.out _ _ ⟨rfl,hG,kkp⟩
 intro xs wx hV hG;have d6:_=_:=hV 6 (by decide);clear hV;simp only[Ad,Nat.reduceAdd,Nat.reduceEqDiff,↓reduceIte];generalize xs 0=y0,xs 1=y1,xs 2=y2,xs 3=y3,xs 4=y4,xs 5=y5,xs 6=y6 at *
 replace hG:∃ n,wx=w.drewN n:=hG
 subst d6;obtain⟨nn,rfl⟩:=hG;have hr1:=Hr1.out
 by_cases hc:c<0
 ·rw[if_pos hc]at HA;have ha2:=HA.out;have hz2:qz c q = -rnd ac s:=by rw[Hz.out,if_pos hc,←ha2]
  have HZ2:=Aa hz2;clear hz2 Hz Hr1 HA ha2;generalize rnd ac s=R at *;go_wp2;go_ret
  exact⟨by rw[HZ2.out];rfl,nn,rfl⟩
 ·rw[if_neg hc]at HA;have ha2:=HA.out;go_wp2;go_ret
  exact⟨by rw[Hz.out,if_neg (by omega),←ha2];rfl,nn,rfl⟩
theorem GQ (l:Int)(q:Nat)(w:World)(hT:TabQ w)(h1 : -4080≤l)(h2:l≤4080)(hq:q<16):
 Calls Tryz.prog 96 #[.int .i64 l,.int .i64 q] w fun e w'=>e= .returned (.int .i64 (dq l q))∧w=w':=by
 have hs:=Do hq;have ht:=hT q hq;have hm:=NO h1 h2 hs.1 hs.2;have hz:dq l q=AZ (l*stp q) (-4080) 4080:=rfl;have Hz:=Aa hz;clear hz;generalize stp q=s at *;go_enter Tryz.func96,Tryz.ntmps96
 go_wp2_with fail
 refine(Bw _ _ (by omega) (by omega)).mono ?_
 rintro e w1 ⟨rfl,rfl⟩
 go_wp2_with fail
 refine(Eg _ _ _ _ (by omega)).mono ?_
 rintro e w1 ⟨rfl,rfl⟩
 go_wp2;go_ret
 exact⟨by rw[Hz.out];rfl,rfl⟩
def pat (p:Pic)(x y:Int):Int:=nth p.px (AZ y 0 (p.h-1)*p.w+AZ x 0 (p.w-1)).toNat
theorem Lf {p:Pic}(hv:p.valid)(x y:Int):0≤AZ y 0 (p.h-1)*p.w+AZ x 0 (p.w-1)∧AZ y 0 (p.h-1)*p.w+AZ x 0 (p.w-1)<p.px.length∧0≤AZ y 0 (p.h-1)*p.w∧AZ y 0 (p.h-1)*p.w≤1024:=by
 obtain⟨⟨w1,w2,w3⟩,⟨h1,h2,h3⟩,hl,-⟩:=hv;have a1:=Cl (n:=y) (show(0:Int)≤p.h-1 by omega);have a2:=Cl (n:=x) (show(0:Int)≤p.w-1 by omega);rw[hl];generalize AZ y 0 (p.h-1)=u at *;generalize AZ x 0 (p.w-1)=v at *;have b1:0≤u*p.w:=Int.mul_nonneg (by omega) (by omega);have b2:(u+1)*p.w≤p.h*p.w:=Int.mul_le_mul_of_nonneg_right (by omega) (by omega);have b3:p.h*p.w≤32*32:=Int.mul_le_mul h2 w2 (by omega) (by omega);rw[Int.add_mul,Int.one_mul]at b2;rw[Int.mul_comm p.h]at b2 b3;omega
theorem AM {p:Pic}(hv:p.valid)(x y:Int):0≤pat p x y∧pat p x y≤255:=by
 have:=Lf hv x y;exact AD hv.2.2.2 (by omega)
theorem Lg {p:Pic}{x y:Nat}(hx:(x:Int)<p.w)(hy:(y:Int)<p.h){W:Nat}(hW:p.w=W):pat p x y=nth p.px (y*W+x):=by
 unfold pat;rw[LA (by omega) (by omega),LA (by omega) (by omega),hW,←Int.natCast_mul,←Int.natCast_add,Int.toNat_natCast]
def hlf (p:Pic)(x y:Int):Int :=
 if y%2=0 then if x%2=0 then pat p (x/2) (y/2)else(pat p (x/2) (y/2)+pat p (x/2+1) (y/2)+1)/2
 else if x%2=0 then(pat p (x/2) (y/2)+pat p (x/2) (y/2+1)+1)/2
 else(pat p (x/2) (y/2)+pat p (x/2+1) (y/2)+pat p (x/2) (y/2+1)+pat p (x/2+1) (y/2+1)+2)/4
theorem Qa {p:Pic}(hv:p.valid)(x y:Int):0≤hlf p x y∧hlf p x y≤255:=by
 have h1:=AM hv (x/2) (y/2);have h2:=AM hv (x/2+1) (y/2);have h3:=AM hv (x/2) (y/2+1);have h4:=AM hv (x/2+1) (y/2+1);unfold hlf
 split <;> split <;> omega
theorem NG (p:Pic)(x y:Int):hlf p (2*x) (2*y)=pat p x y:=by
 unfold hlf;rw[if_pos (by omega),if_pos (by omega),show 2*x/2=x by omega,show 2*y/2=y by omega]
def blkL (p:Pic)(x y vx vy:Int):List Int:=(List.range 64).map fun k=>hlf p (2*(x+(k%8:Nat))+vx) (2*(y+(k/8:Nat))+vy)
theorem AQ (p:Pic)(x y vx vy:Int):(blkL p x y vx vy).length=64:=by simp[blkL]
theorem Ih (p:Pic)(x y vx vy:Int){k:Nat}(h:k<64):nth (blkL p x y vx vy) k=hlf p (2*(x+(k%8:Nat))+vx) (2*(y+(k/8:Nat))+vy):=by
 simp[nth,blkL,h]
theorem Bz {p:Pic}(hv:p.valid)(x y vx vy:Int):smp (blkL p x y vx vy):=by
 refine Cg fun i hi => ?_
 rw[AQ]at hi;rw[Ih _ _ _ _ _ hi];exact Qa hv _ _
def prt (p:Pic)(x y:Int):List Int:=(List.range 16).map fun k=>pat p (x+(k%4:Nat)) (y+(k/4:Nat))
theorem CO (p:Pic)(x y:Int):(prt p x y).length=16:=by simp[prt]
theorem Ld (p:Pic)(x y:Int){k:Nat}(h:k<16):nth (prt p x y) k=pat p (x+(k%4:Nat)) (y+(k/4:Nat)):=by simp[nth,prt,h]
theorem Gp {p:Pic}(hv:p.valid)(x y:Int):smp (prt p x y):=by
 refine Cg fun i hi => ?_
 rw[CO]at hi;rw[Ld _ _ _ hi];exact AM hv _ _
def pof (L:List Int)(i j:Nat):List Int:=(List.range 16).map fun t=>nth L ((j+t/4)*8+i+t%4)
theorem BX (L:List Int)(i j:Nat):(pof L i j).length=16:=by simp[pof]
theorem Jf (L:List Int)(i j:Nat){k:Nat}(h:k<16):nth (pof L i j) k=nth L ((j+k/4)*8+i+k%4):=by simp[nth,pof,h]
theorem NU (p:Pic)(x y:Int){i j:Nat}(hi:i≤4)(hj:j≤4):pof (blkL p x y 0 0) i j=prt p (x+i) (y+j):=by
 refine Hw (by rw[BX,CO]) fun t ht => ?_
 rw[BX]at ht;have h1:((j+t/4)*8+i+t%4)%8=i+t%4:=by omega
 have h2:((j+t/4)*8+i+t%4)/8=j+t/4:=by omega
 rw[Jf _ _ _ ht,Ld _ _ _ ht,Ih _ _ _ _ _ (by omega),h1,h2,Int.add_zero,Int.add_zero,NG]
 congr 1 <;> omega
theorem Gm {L:List Int}(h:smp L)(hl:L.length=64){i j:Nat}(hi:i≤4)(hj:j≤4):smp (pof L i j):=by
 refine Cg fun k hk => ?_
 rw[BX]at hk;rw[Jf _ _ _ hk];exact AD h (by omega)
structure Ed where
 ab:List Int
 lf:List Int
 co:Int
 up:Bool
 le:Bool
structure Ed.ok (e : Ed) : Prop where
 ab:e.ab.length=4
 lf:e.lf.length=4
 sab:smp e.ab
 slf:smp e.lf
 sco:0≤e.co∧e.co≤255
def edg (p:Pic)(x y top:Int):Ed :=
 ⟨(List.range 4).map fun k:Nat=>if top<y then pat p (x+k) (y-1)else 128,(List.range 4).map fun k:Nat=>if 0<x then pat p (x-1) (y+k)else 128,
  if top<y∧0<x then pat p (x-1) (y-1)else 128,decide (top<y),decide (0<x)⟩
theorem Ex (p:Pic)(x y top:Int){k:Nat}(h:k<4):nth (edg p x y top).ab k=if top<y then pat p (x+k) (y-1)else 128:=by simp[nth,edg,h]
theorem Ey (p:Pic)(x y top:Int){k:Nat}(h:k<4):nth (edg p x y top).lf k=if 0<x then pat p (x-1) (y+k)else 128:=by simp[nth,edg,h]
theorem Jw {p:Pic}(hv:p.valid)(x y top:Int):(edg p x y top).ok:=by
 have l1:(edg p x y top).ab.length=4:=by simp[edg]
 have l2:(edg p x y top).lf.length=4:=by simp[edg]
 refine⟨l1,l2,Cg fun k hk => ?_,Cg fun k hk => ?_,?_⟩
 ·rw[l1]at hk;rw[Ex _ _ _ _ hk]
  split
  ·exact AM hv _ _
  ·omega
 ·rw[l2]at hk;rw[Ey _ _ _ _ hk]
  split
  ·exact AM hv _ _
  ·omega
 ·show 0≤(if top<y∧0<x then pat p (x-1) (y-1)else 128)∧_;unfold edg;simp only
  split
  ·exact AM hv _ _
  ·omega
def mnT (e:Ed):Nat→Int
 | 0=>0
 | k+1=>mnT e k+(if e.up then nth e.ab k else 0)+(if e.le then nth e.lf k else 0)
def mnN (e:Ed)(k:Nat):Int:=k*((if e.up then 1 else 0)+(if e.le then 1 else 0))
def mean (e:Ed):Int:=if mnN e 4=0 then 128 else(2*mnT e 4+mnN e 4)/(2*mnN e 4)
theorem Dk {e:Ed}(h:e.ok){k:Nat}(hk:k≤4):0≤mnT e k∧mnT e k≤255*mnN e k:=by
 induction k with
 | zero=>simp[mnT,mnN]
 | succ k ih =>
  have h1:=ih (by omega);have h2:=AD h.sab (i:=k) (by rw[h.ab];omega);have h3:=AD h.slf (i:=k) (by rw[h.lf];omega);have e1:mnN e (k+1)=mnN e k+((if e.up then 1 else 0)+(if e.le then 1 else 0)):=by
   unfold mnN;rw[Int.natCast_add,Int.add_mul];omega
  rw[e1];simp only[mnT]
  split <;> split <;> omega
theorem OE (e:Ed):mnN e 4=0∨mnN e 4=4∨mnN e 4=8:=by
 unfold mnN;cases e.up <;> cases e.le <;> simp
theorem Ps {e:Ed}(h:e.ok):0≤mean e∧mean e≤255:=by
 have h1:=Dk h (k:=4) (by omega);unfold mean;rcases OE e with h2|h2|h2 <;> rw[h2]at h1⊢
 ·rw[if_pos rfl];omega
 ·rw[if_neg (by omega)];omega
 ·rw[if_neg (by omega)];omega
def bord (e:Ed)(k:Nat):Int:=if k<4 then nth e.lf (3-k)else if k=4 then e.co else nth e.ab (k-5)
theorem Cj {e:Ed}(h:e.ok){k:Nat}(hk:k≤8):0≤bord e k∧bord e k≤255:=by
 unfold bord
 split
 ·exact AD h.slf (by rw[h.lf];omega)
 ·split
  ·exact h.sco
  ·exact AD h.sab (by rw[h.ab];omega)
def prd1 (mode:Nat)(e:Ed)(x y:Nat):Int :=
 match mode with
 | 0=>mean e
 | 1=>nth e.ab x
 | 2=>nth e.lf y
 | 3=>(bord e (3+x-y)+2*bord e (4+x-y)+bord e (5+x-y)+2)/4
 | _=>AZ (nth e.ab x+nth e.lf y-e.co) 0 255
def prd (mode:Nat)(e:Ed):List Int:=(List.range 16).map fun k=>prd1 mode e (k%4) (k/4)
theorem A9 (mode:Nat)(e:Ed):(prd mode e).length=16:=by simp[prd]
theorem NQ (mode:Nat)(e:Ed){k:Nat}(h:k<16):nth (prd mode e) k=prd1 mode e (k%4) (k/4):=by simp[nth,prd,h]
theorem Pw (mode:Nat){e:Ed}(h:e.ok){x y:Nat}(hx:x<4)(hy:y<4):0≤prd1 mode e x y∧prd1 mode e x y≤255:=by
 unfold prd1
 split
 ·exact Ps h
 ·exact AD h.sab (by rw[h.ab];omega)
 ·exact AD h.slf (by rw[h.lf];omega)
 ·have h1:=Cj h (k:=3+x-y) (by omega);have h2:=Cj h (k:=4+x-y) (by omega);have h3:=Cj h (k:=5+x-y) (by omega);omega
 ·exact Cl (by omega)
theorem Dm (mode:Nat){e:Ed}(h:e.ok):smp (prd mode e):=by
 refine Cg fun i hi => ?_
 rw[A9]at hi;rw[NQ _ _ hi];exact Pw mode h (by omega) (by omega)
def dif (a b:List Int):List Int:=(List.range 16).map fun k=>nth a k-nth b k
theorem Bo (a b:List Int):(dif a b).length=16:=by simp[dif]
theorem Je (a b:List Int){k:Nat}(h:k<16):nth (dif a b) k=nth a k-nth b k:=by simp[nth,dif,h]
theorem Cm {a b:List Int}(ha:smp a)(hb:smp b)(la:a.length=16)(lb:b.length=16):inB 255 (dif a b)=true:=by
 refine DY fun j hj => ?_
 rw[Bo]at hj;rw[Je _ _ hj];have:=AD ha (i:=j) (by omega);have:=AD hb (i:=j) (by omega);omega
def cod (b:List Int)(q:Nat):List Int:=(had b).map fun c=>qz c q
def dec (l:List Int)(q:Nat):List Int:=ihad (l.map fun x=>dq x q)
theorem BF (b:List Int)(q:Nat):(cod b q).length=16:=by simp[cod,BD]
theorem Lc (b:List Int)(q:Nat){k:Nat}(h:k<16):nth (cod b q) k=qz (nth (had b) k) q:=by
 have hl:=BD b;have h1:k<(had b).length:=by omega
 rw[Cc _ _ h1,Cc _ _ (by rw[BF];exact h)];simp[cod]
theorem Co (b:List Int):(ihad b).length=16:=by simp[ihad,BD]
theorem Dg (l:List Int)(q:Nat):(dec l q).length=16:=Co _
theorem Gg {b:List Int}(hl:b.length=16)(hb:inB 255 b=true){k:Nat}(hk:k<16): -4080≤nth (had b) k∧nth (had b) k≤4080:=by
 have:=NB (b:=b) (B:=255) (fun t ht=>inB_iff.1 hb t (by omega)) hk;omega
theorem IZ {b:List Int}(hl:b.length=16)(hb:inB 255 b=true){q:Nat}(hq:q<16):inB 4080 (cod b q)=true:=by
 refine DY fun j hj => ?_
 rw[BF]at hj;rw[Lc _ _ hj];have:=Gg hl hb hj;exact QW this.1 this.2 hq
def putS (px:List Int)(W x y:Nat)(pr rs:List Int):Nat→List Int
 | 0=>px
 | k+1=>(putS px W x y pr rs k).set ((y+k/4)*W+x+k%4) (AZ (nth pr k+nth rs k) 0 255)
theorem Mf (px:List Int)(W x y:Nat)(pr rs:List Int)(k:Nat):(putS px W x y pr rs k).length=px.length:=by
 induction k with
 | zero=>rfl
 | succ k ih=>simp[putS,ih]
theorem PD {zs:List Int}(h:smp zs)(i:Nat){v:Int}(hv:0≤v∧v≤255):smp (zs.set i v):=by
 intro z hz;rcases List.mem_or_eq_of_mem_set hz with h1|rfl
 ·exact h z h1
 ·exact hv
theorem Mg {px:List Int}(h:smp px)(W x y:Nat)(pr rs:List Int)(k:Nat):smp (putS px W x y pr rs k):=by
 induction k with
 | zero=>exact h
 | succ k ih=>exact PD ih _ (Cl (by omega))
def prK (ref:Pic)(W H:Int)(cur:List Int)(x y:Nat)(m:Mac)(top:Int)(k:Nat):List Int :=
 if m.kind=2 then prd (nth m.modes k).toNat (edg ⟨W,H,cur⟩ (x+k%2*4:Nat) (y+k/2*4:Nat) top)else pof (blkL ref x y m.x m.y) (k%2*4) (k/2*4)
def bldS (ref p:Pic)(x y:Nat)(m:Mac)(q:Nat)(top:Int):Nat→List Int
 | 0=>p.px
 | k+1=>putS (bldS ref p x y m q top k) p.w.toNat (x+k%2*4) (y+k/2*4) (prK ref p.w p.h (bldS ref p x y m q top k) x y m top k) (dec (sub m.lv (k*16) 16) q) 16
theorem CR (ref p:Pic)(x y:Nat)(m:Mac)(q:Nat)(top:Int)(k:Nat):(bldS ref p x y m q top k).length=p.px.length:=by
 induction k with
 | zero=>rfl
 | succ k ih=>simp only[bldS];rw[Mf,ih]
theorem OX {p:Pic}(h:smp p.px)(ref:Pic)(x y:Nat)(m:Mac)(q:Nat)(top:Int)(k:Nat):smp (bldS ref p x y m q top k):=by
 induction k with
 | zero=>exact h
 | succ k ih=>exact Mg ih _ _ _ _ _ _
theorem BM {p:Pic}(h:p.valid)(ref:Pic)(x y:Nat)(m:Mac)(q:Nat)(top:Int)(k:Nat):Pic.valid ⟨p.w,p.h,bldS ref p x y m q top k⟩ :=
 ⟨h.1,h.2.1,by show((bldS ref p x y m q top k).length:Int)=_;rw[CR];exact h.2.2.1,OX h.2.2.2 _ _ _ _ _ _ _⟩
section
variable {P : Program} (w : World)
theorem Ml (base:Nat)(t ty e:TypeId)(i:TypeInfo)(size:Nat)(ht:P.underlying t=some (.slice e))(hi:P.info? e=some i)
 (v:Value) (n:Nat) (xs:List Value) (hown:w.ownsRow base e size v n xs) (c:Nat):(Builtin.append_ #[t,t] ty #[v,.slice none 0 c]).run P w= .ok v w:=by
 rcases hown.2 with⟨rfl,rfl⟩|⟨g,cap,cur,rfl,_,_,hnc,_⟩
 ·simp[Builtin.append_,run_underlying ht,sizeOf,typeInfo,hi,Builtin.lenOf,Builtin.firstCells]
 ·simp[Builtin.append_,run_underlying ht,sizeOf,typeInfo,hi,Builtin.lenOf,Builtin.firstCells,hnc,storeCells]
theorem Sl.cellsOf {a:Addr}{m:Nat}{us:List Value}(h:Sl w (some a) m us)(hm:0<m):∀ j u,us[j]?=some u→w.cell? (a.add j)=some u:=by
 intro j u hu;have hj:j<us.length:=(List.getElem?_eq_some_iff.1 hu).1;obtain⟨b,off,ha,hc⟩:=h.2 j (by rw[←h.1];exact hj);simp only[Option.some.injEq]at ha;subst ha;rw[Addr.add_lit,hc];simp[List.getD,hu]
theorem IP {ops:Array Oper}{rest:List Oper}{o:Oper}{a:Act}{Q:Exit→Act→World→Prop}{base e:Nat}{v:Value}{n:Nat}{xs:List Value}
 (hown:w.ownsRow base e 1 v n xs) (hbase:base≤w.heap.size)
 (hg:o.guard=none) (s x:Operand) (t:TypeId) (ho:o.op= .call { callee := .builtin .append,args := #[s,x],argTypes := #[t,t] })
 (z:Value) (bytes:Nat) (h1:P.underlying t=some (.slice e)) (h2:(P.info? e).map (fun i=>(i.zero,i.size,i.bytes))=some (some z,1,bytes)) (hz1:z.cells.size=1)
 (hs:a.eval s=v) (A:Option Addr) (m c:Nat) (us:List Value) (hx:a.eval x= .slice A m c) (src:Sl w A m us) (hu1:∀ u∈us,u.oneCell'=true)
 (hb:(n+m)*bytes≤140737488355328) (hn:n+m<2^62)
 (h:∀ v' w',w'.ownsRow base e 1 v' (n+m) (xs++us)→w.grownBy w' v.ownBlock→wpList P ops Q rest (a.put o.dst v') w'):wpList P ops Q (o::rest) a w:=by
 obtain⟨i0,hi,hz0,hz1',hz2⟩:=info_parts h2;cases A with
 | none =>
  have hm:m=0:=by
   refine Classical.byContradiction fun h0 => ?_
   obtain⟨b,off,ha,-⟩:=src.2 0 (by omega);cases ha
  subst hm;have hus:us = []:=List.eq_nil_of_length_eq_zero src.1;subst hus;refine wpList_plain hg fun _ hK => ?_
  have hrun:=Ml (P:=P) w base t o.type e i0 1 h1 hi v n xs hown c;unfold Oper.wp execOp;simp only[ho,resolve,invoke,builtin,Sem.run_bind,Sem.run_pure,Result.andThen_ok,List.map_toArray,List.map_cons,List.map_nil,hs,hx,hrun];exact hK _ _ (h v w (by simpa using hown) (World.grownBy.refl w _))
 | some ad =>
  refine wpList_append_own _ hg s x t ho base e i0 z 1 bytes h1 hi hz0 hz1' hz2 hz1 (by decide) v n xs hs hown ad m c us hx (by rw[src.1];omega) ?_ hu1 (by unfold maxLen;omega) hb hbase ?_
  ·by_cases hm:0<m
   ·exact src.cellsOf _ hm
   ·have hus:us = []:=List.eq_nil_of_length_eq_zero (by rw[src.1];omega);subst hus;intro j u hj;simp at hj
  ·intro v' w' a1 a2 _;exact h v' w' a1 a2
end
end Go.Proofs.YtijnbalgnhigbaaGreatDoor
namespace Go.Proofs.YtijnbalgnhigbaaGreatDoor
open Go.RowKit
def picV (W H:Int)(a:Option Addr)(n c:Nat):Value := .agg #[.int .i64 W,.int .i64 H,.slice a n c]
theorem AN {k:IntKind}{a b:Int}(h:Hid (a=b)):Ending.returned (.int k a) = .returned (.int k b):=by rw[h.out]
theorem BS (p:Pic)(x y:Int)(a:Option Addr)(c n:Nat)(w:World)(hv:p.valid)(hn:n=p.px.length)(r:Sl w a n (p.px.map (Value.int .i64))):
 Calls Tryz.prog 84 #[.agg #[.int .i64 p.w,.int .i64 p.h,.slice a n c],.int .i64 x,.int .i64 y] w fun e w'=>e= .returned (.int .i64 (pat p x y))∧Ext w w':=by
 have hi:=Lf hv x y;have hw:=hv.1;have hh:=hv.2.1;obtain⟨w1,w2,-⟩:=hw;obtain⟨h1,h2,-⟩:=hh;have Hp:=Aa (show pat p x y=nth p.px (AZ y 0 (p.h-1)*p.w+AZ x 0 (p.w-1)).toNat from rfl);have c1:=Cl (n:=y) (show(0:Int)≤p.h-1 by omega);have c2:=Cl (n:=x) (show(0:Int)≤p.w-1 by omega);obtain⟨cy,hcy⟩:∃ cy,cy=AZ y 0 (p.h-1):=⟨_,rfl⟩;obtain⟨cx,hcx⟩:∃ cx,cx=AZ x 0 (p.w-1):=⟨_,rfl⟩;rw[←hcy]at hi c1 Hp;rw[←hcx]at hi c2 Hp;have Hcy:=Aa hcy;have Hcx:=Aa hcx;clear hcy hcx;have hk:(cy*p.w+cx).toNat<n:=by omega
 obtain⟨k,hk2⟩:∃ k:Nat,cy*p.w+cx=(k:Int):=⟨(cy*p.w+cx).toNat,by omega⟩;rw[hk2]at hi hk;rw[hk2,Int.toNat_natCast]at Hp;rw[Int.toNat_natCast]at hk;have Hk:=Aa hk2;clear hk2;obtain⟨b,off,rfl,hc⟩:=r.int hk;have Hc:=Aa hc;have p0:=Aj w (.cells #[.int .i64 p.w,.int .i64 p.h,.slice (some ⟨b,off,none⟩) n c] 30);have E0:=Ext.alloc w (.cells #[.int .i64 p.w,.int .i64 p.h,.slice (some ⟨b,off,none⟩) n c] 30);have HN:=Aa hn;obtain⟨B,hB⟩:∃ B,B=w.heap.size:=⟨_,rfl⟩;rw[←hB]at p0;have HB:=Aa hB;clear hn r hc hv;go_enter Tryz.func84,Tryz.ntmps84
 go_wp2_with fail
 rw[←hB];clear hB;generalize w.alloc (.cells #[.int .i64 p.w,.int .i64 p.h,.slice (some ⟨b,off,none⟩) n c] 30)=w0 at *;obtain⟨pw,ph,px⟩:=p;simp only at *;refine An (by kernel_rfl) [(6,18),(7,0),(8,1),(9,2),(10,3),(11,4),(12,5),(13,6),(14,7),(15,8),(16,9),(17,10),(18,11),(19,12),(20,13),(21,14),(22,15),(23,16),(24,17)] [[],[0],[],[],[3],[3,4],[2,3,4,5],[],[7],[2,3,4,5,6,7,8],[],[],[11],[11,12],[2,3,4,5,6,10,11,12,13],[2,3,4,5,6,7,8,9,10,11,12,13,14],[0,1,2,3,4,5,6,7,8,9,10,11,12,13,14,15],[0,1,2,3,4,5,6,7,8,9,10,11,12,13,14,15,16],[0,1,2,3,4,5,6,7,8,9,10,11,12,13,14,15,16,17]] (fun i own ys wx=>match i with|0=>own= .pointer (some ⟨B,2,none⟩)|1=>own= .slice (some ⟨b,off,none⟩) n c|2=>own= .int .i64 y|3=>own= .pointer (some ⟨B,1,none⟩)|4=>own= .int .i64 ph|5=>own= .int .i64 (ph-1)|6=>own= .int .i64 cy|7=>own= .pointer (some ⟨B,0,none⟩)|8=>own= .int .i64 pw|9=>own= .int .i64 (cy*pw)|10=>own= .int .i64 x|11=>own= .pointer (some ⟨B,0,none⟩)|12=>own= .int .i64 pw|13=>own= .int .i64 (pw-1)|14=>own= .int .i64 cx|15=>own= .int .i64 (k:Nat)|16=>own= .pointer (some ⟨b,off+k,none⟩)|17=>own= .int .i64 (nth px k)|18=>own= .int .i64 (nth px k)|_=>True) (fun kx wx=>Ext w0 wx) (by kernel_rfl) (by kernel_rfl) (by kernel_rfl) ?g0_r1 ?gop_r1 ?gend_r1
 case g0_r1=>exact Ext.drewN _ 1
 case gop_r1 =>
  refine⟨?_,?o1,?_,?_,?o4,?o5,?o6,?_,?o8,?o9,?_,?_,?o12,?o13,?o14,?o15,?o16,?o17,?o18,trivial⟩ <;> (intro kx xs wx hk hG hD hI Qo Kx hK hQo;simp only[Ad,Nat.reduceAdd,Nat.reduceEqDiff,↓reduceIte]at hQo⊢)
  case o1 =>
   rw[ddq (hD 0 rfl)]at hQo⊢;clear hD hI;obtain⟨-,k0,k1,k2,-⟩:=bx3 (hG.blk p0);go_wp2;exact hK.out _ _ ⟨rfl,hG,kkp⟩
  case o4 =>
   rw[ddq (hD 3 rfl)]at hQo⊢;clear hD hI;obtain⟨-,k0,k1,k2,-⟩:=bx3 (hG.blk p0);go_wp2;exact hK.out _ _ ⟨rfl,hG,kkp⟩
  case o5 =>
   rw[ddq (hD 4 rfl)]at hQo⊢;clear hD hI;go_wp2;exact hK.out _ _ ⟨rfl,hG,kkp⟩
  case o6 =>
   rw[ddq (hD 2 rfl),ddq (hD 5 rfl)]at hQo⊢;clear hD hI;go_wp2_with fail
   refine(Eg _ _ _ _ (by omega)).mono ?_
   rintro e w2 ⟨rfl,rfl⟩
   rw[←Hcy.out];go_wp2;exact hK.out _ _ ⟨rfl,hG,kkp⟩
  case o8 =>
   rw[ddq (hD 7 rfl)]at hQo⊢;clear hD hI;obtain⟨-,k0,k1,k2,-⟩:=bx3 (hG.blk p0);go_wp2;exact hK.out _ _ ⟨rfl,hG,kkp⟩
  case o9 =>
   rw[ddq (hD 6 rfl),ddq (hD 8 rfl)]at hQo⊢;clear hD hI;go_wp2;exact hK.out _ _ ⟨rfl,hG,kkp⟩
  case o12 =>
   rw[ddq (hD 11 rfl)]at hQo⊢;clear hD hI;obtain⟨-,k0,k1,k2,-⟩:=bx3 (hG.blk p0);go_wp2;exact hK.out _ _ ⟨rfl,hG,kkp⟩
  case o13 =>
   rw[ddq (hD 12 rfl)]at hQo⊢;clear hD hI;go_wp2;exact hK.out _ _ ⟨rfl,hG,kkp⟩
  case o14 =>
   rw[ddq (hD 10 rfl),ddq (hD 13 rfl)]at hQo⊢;clear hD hI;go_wp2_with fail
   refine(Eg _ _ _ _ (by omega)).mono ?_
   rintro e w2 ⟨rfl,rfl⟩
   rw[←Hcx.out];go_wp2;exact hK.out _ _ ⟨rfl,hG,kkp⟩
  case o15 =>
   rw[ddq (hD 9 rfl),ddq (hD 14 rfl)]at hQo⊢;clear hD hI;have hkb:0≤cy*pw+cx∧cy*pw+cx≤2000:=by omega
   go_wp2;exact hK.out _ _ ⟨by rw[←Hk.out],hG,fun _ _ _ _ _ _ h=>h⟩
  case o16 =>
   rw[ddq (hD 1 rfl),ddq (hD 15 rfl)]at hQo⊢;clear hD hI;go_wp2;exact hK.out _ _ ⟨rfl,hG,kkp⟩
  case o17 =>
   rw[ddq (hD 16 rfl)]at hQo⊢;clear hD hI;have hcc:=AI (E0.trans hG) Hc.out;go_wp2;exact hK.out _ _ ⟨rfl,hG,kkp⟩
  case o18 =>
   rw[ddq (hD 17 rfl)]at hQo⊢;clear hD hI;go_wp2;exact hK.out _ _ ⟨rfl,hG,kkp⟩
  all_goals
   clear hD hI;go_wp2;exact hK.out _ _ ⟨rfl,hG,kkp⟩
 intro xs wx hV hG;have d18:_=_:=hV 18 (by decide);clear hV;simp only[Ad,Nat.reduceAdd,Nat.reduceEqDiff,↓reduceIte];generalize xs 0=y0,xs 1=y1,xs 2=y2,xs 3=y3,xs 4=y4,xs 5=y5,xs 6=y6,xs 7=y7,xs 8=y8,xs 9=y9,xs 10=y10,xs 11=y11,xs 12=y12,xs 13=y13,xs 14=y14,xs 15=y15,xs 16=y16,xs 17=y17,xs 18=y18 at *
 replace hG:Ext w0 wx:=hG
 subst d18;go_wp2;go_ret
 exact⟨(AN Hp).symm,E0.trans hG⟩
theorem Cq (p:Pic)(x y:Int)(a:Option Addr)(c n:Nat)(w:World)(hv:p.valid)(hn:n=p.px.length)(r:Sl w a n (p.px.map (Value.int .i64))):
 Calls Tryz.prog 144 #[.agg #[.int .i64 p.w,.int .i64 p.h,.slice a n c],.int .i64 x,.int .i64 y] w fun e w'=>e= .returned (.int .i64 (pat p x y))∧Ext w w':=by
 have hi:=Lf hv x y;have hw:=hv.1;have hh:=hv.2.1;obtain⟨w1,w2,-⟩:=hw;obtain⟨h1,h2,-⟩:=hh;have Hp:=Aa (show pat p x y=nth p.px (AZ y 0 (p.h-1)*p.w+AZ x 0 (p.w-1)).toNat from rfl);have c1:=Cl (n:=y) (show(0:Int)≤p.h-1 by omega);have c2:=Cl (n:=x) (show(0:Int)≤p.w-1 by omega);obtain⟨cy,hcy⟩:∃ cy,cy=AZ y 0 (p.h-1):=⟨_,rfl⟩;obtain⟨cx,hcx⟩:∃ cx,cx=AZ x 0 (p.w-1):=⟨_,rfl⟩;rw[←hcy]at hi c1 Hp;rw[←hcx]at hi c2 Hp;have Hcy:=Aa hcy;have Hcx:=Aa hcx;clear hcy hcx;have hk:(cy*p.w+cx).toNat<n:=by omega
 obtain⟨k,hk2⟩:∃ k:Nat,cy*p.w+cx=(k:Int):=⟨(cy*p.w+cx).toNat,by omega⟩;rw[hk2]at hi hk;rw[hk2,Int.toNat_natCast]at Hp;rw[Int.toNat_natCast]at hk;have Hk:=Aa hk2;clear hk2;obtain⟨b,off,rfl,hc⟩:=r.int hk;have Hc:=Aa hc;have p0:=Aj w (.cells #[.int .i64 p.w,.int .i64 p.h,.slice (some ⟨b,off,none⟩) n c] 30);have E0:=Ext.alloc w (.cells #[.int .i64 p.w,.int .i64 p.h,.slice (some ⟨b,off,none⟩) n c] 30);have HN:=Aa hn;obtain⟨B,hB⟩:∃ B,B=w.heap.size:=⟨_,rfl⟩;rw[←hB]at p0;have HB:=Aa hB;clear hn r hc hv;go_enter Tryz.func144,Tryz.ntmps144
 go_wp2_with fail
 rw[←hB];clear hB;generalize w.alloc (.cells #[.int .i64 p.w,.int .i64 p.h,.slice (some ⟨b,off,none⟩) n c] 30)=w0 at *;obtain⟨pw,ph,px⟩:=p;simp only at *;refine An (by kernel_rfl) [(6,18),(7,0),(8,1),(9,2),(10,3),(11,4),(12,5),(13,6),(14,7),(15,8),(16,9),(17,10),(18,11),(19,12),(20,13),(21,14),(22,15),(23,16),(24,17)] [[],[0],[],[],[3],[3,4],[2,3,4,5],[],[7],[2,3,4,5,6,7,8],[],[],[11],[11,12],[2,3,4,5,6,10,11,12,13],[2,3,4,5,6,7,8,9,10,11,12,13,14],[0,1,2,3,4,5,6,7,8,9,10,11,12,13,14,15],[0,1,2,3,4,5,6,7,8,9,10,11,12,13,14,15,16],[0,1,2,3,4,5,6,7,8,9,10,11,12,13,14,15,16,17]] (fun i own ys wx=>match i with|0=>own= .pointer (some ⟨B,2,none⟩)|1=>own= .slice (some ⟨b,off,none⟩) n c|2=>own= .int .i64 y|3=>own= .pointer (some ⟨B,1,none⟩)|4=>own= .int .i64 ph|5=>own= .int .i64 (ph-1)|6=>own= .int .i64 cy|7=>own= .pointer (some ⟨B,0,none⟩)|8=>own= .int .i64 pw|9=>own= .int .i64 (cy*pw)|10=>own= .int .i64 x|11=>own= .pointer (some ⟨B,0,none⟩)|12=>own= .int .i64 pw|13=>own= .int .i64 (pw-1)|14=>own= .int .i64 cx|15=>own= .int .i64 (k:Nat)|16=>own= .pointer (some ⟨b,off+k,none⟩)|17=>own= .int .i64 (nth px k)|18=>own= .int .i64 (nth px k)|_=>True) (fun kx wx=>Ext w0 wx) (by kernel_rfl) (by kernel_rfl) (by kernel_rfl) ?g0_r2 ?gop_r2 ?gend_r2
 case g0_r2=>exact Ext.drewN _ 1
 case gop_r2 =>
  refine⟨?_,?o1,?_,?_,?o4,?o5,?o6,?_,?o8,?o9,?_,?_,?o12,?o13,?o14,?o15,?o16,?o17,?o18,trivial⟩ <;> (intro kx xs wx hk hG hD hI Qo Kx hK hQo;simp only[Ad,Nat.reduceAdd,Nat.reduceEqDiff,↓reduceIte]at hQo⊢)
  case o1 =>
   rw[ddq (hD 0 rfl)]at hQo⊢;clear hD hI;obtain⟨-,k0,k1,k2,-⟩:=bx3 (hG.blk p0);go_wp2;exact hK.out _ _ ⟨rfl,hG,kkp⟩
  case o4 =>
   rw[ddq (hD 3 rfl)]at hQo⊢;clear hD hI;obtain⟨-,k0,k1,k2,-⟩:=bx3 (hG.blk p0);go_wp2;exact hK.out _ _ ⟨rfl,hG,kkp⟩
  case o5 =>
   rw[ddq (hD 4 rfl)]at hQo⊢;clear hD hI;go_wp2;exact hK.out _ _ ⟨rfl,hG,kkp⟩
  case o6 =>
   rw[ddq (hD 2 rfl),ddq (hD 5 rfl)]at hQo⊢;clear hD hI;go_wp2_with fail
   refine(DF _ _ _ _).mono ?_
   rintro e w2 ⟨rfl,rfl⟩
   rw[←Hcy.out];go_wp2;exact hK.out _ _ ⟨rfl,hG,kkp⟩
  case o8 =>
   rw[ddq (hD 7 rfl)]at hQo⊢;clear hD hI;obtain⟨-,k0,k1,k2,-⟩:=bx3 (hG.blk p0);go_wp2;exact hK.out _ _ ⟨rfl,hG,kkp⟩
  case o9 =>
   rw[ddq (hD 6 rfl),ddq (hD 8 rfl)]at hQo⊢;clear hD hI;go_wp2;exact hK.out _ _ ⟨rfl,hG,kkp⟩
  case o12 =>
   rw[ddq (hD 11 rfl)]at hQo⊢;clear hD hI;obtain⟨-,k0,k1,k2,-⟩:=bx3 (hG.blk p0);go_wp2;exact hK.out _ _ ⟨rfl,hG,kkp⟩
  case o13 =>
   rw[ddq (hD 12 rfl)]at hQo⊢;clear hD hI;go_wp2;exact hK.out _ _ ⟨rfl,hG,kkp⟩
  case o14 =>
   rw[ddq (hD 10 rfl),ddq (hD 13 rfl)]at hQo⊢;clear hD hI;go_wp2_with fail
   refine(DF _ _ _ _).mono ?_
   rintro e w2 ⟨rfl,rfl⟩
   rw[←Hcx.out];go_wp2;exact hK.out _ _ ⟨rfl,hG,kkp⟩
  case o15 =>
   rw[ddq (hD 9 rfl),ddq (hD 14 rfl)]at hQo⊢;clear hD hI;have hkb:0≤cy*pw+cx∧cy*pw+cx≤2000:=by omega
   go_wp2;exact hK.out _ _ ⟨by rw[←Hk.out],hG,fun _ _ _ _ _ _ h=>h⟩
  case o16 =>
   rw[ddq (hD 1 rfl),ddq (hD 15 rfl)]at hQo⊢;clear hD hI;go_wp2;exact hK.out _ _ ⟨rfl,hG,kkp⟩
  case o17 =>
   rw[ddq (hD 16 rfl)]at hQo⊢;clear hD hI;have hcc:=AI (E0.trans hG) Hc.out;go_wp2;exact hK.out _ _ ⟨rfl,hG,kkp⟩
  case o18 =>
   rw[ddq (hD 17 rfl)]at hQo⊢;clear hD hI;go_wp2;exact hK.out _ _ ⟨rfl,hG,kkp⟩
  all_goals
   clear hD hI;go_wp2;exact hK.out _ _ ⟨rfl,hG,kkp⟩
 intro xs wx hV hG;have d18:_=_:=hV 18 (by decide);clear hV;simp only[Ad,Nat.reduceAdd,Nat.reduceEqDiff,↓reduceIte];generalize xs 0=y0,xs 1=y1,xs 2=y2,xs 3=y3,xs 4=y4,xs 5=y5,xs 6=y6,xs 7=y7,xs 8=y8,xs 9=y9,xs 10=y10,xs 11=y11,xs 12=y12,xs 13=y13,xs 14=y14,xs 15=y15,xs 16=y16,xs 17=y17,xs 18=y18 at *
 replace hG:Ext w0 wx:=hG
 subst d18;go_wp2;go_ret
 exact⟨(AN Hp).symm,E0.trans hG⟩
theorem Jo {x:Int}(h:x%2=0):(x.tmod 2 == 0)=true:=by simp[Int.tmod_eq_zero_of_dvd (Int.dvd_of_emod_eq_zero h)]
theorem Lq {x:Int}(h : ¬ x%2=0):(x.tmod 2 == 0)=false:=by
 simp only[beq_eq_false_iff_ne,ne_eq];intro h2;exact h (Int.emod_eq_zero_of_dvd (Int.dvd_of_tmod_eq_zero h2))
theorem NC {p:Pic}{x y:Int}(hx:x%2=0)(hy:y%2=0):hlf p x y=pat p (x/2) (y/2):=by unfold hlf;rw[if_pos hy,if_pos hx]
theorem NE {p:Pic}{x y:Int}(hx : ¬ x%2=0)(hy:y%2=0):hlf p x y=(pat p (x/2) (y/2)+pat p (x/2+1) (y/2)+1)/2:=by unfold hlf;rw[if_pos hy,if_neg hx]
theorem ND {p:Pic}{x y:Int}(hx:x%2=0)(hy : ¬ y%2=0):hlf p x y=(pat p (x/2) (y/2)+pat p (x/2) (y/2+1)+1)/2:=by unfold hlf;rw[if_neg hy,if_pos hx]
theorem NF {p:Pic}{x y:Int}(hx : ¬ x%2=0)(hy : ¬ y%2=0):hlf p x y=(pat p (x/2) (y/2)+pat p (x/2+1) (y/2)+pat p (x/2) (y/2+1)+pat p (x/2+1) (y/2+1)+2)/4:=by unfold hlf;rw[if_neg hy,if_neg hx]
theorem MG (p:Pic)(x y:Int)(a:Option Addr)(c n:Nat)(w:World)(hv:p.valid)(hn:n=p.px.length)(r:Sl w a n (p.px.map (Value.int .i64)))
 (x1 : -2000≤x) (x2:x≤2000) (y1 : -2000≤y) (y2:y≤2000) (hx:x%2=0) (hy:y%2=0) :
 Calls Tryz.prog 103 #[.agg #[.int .i64 p.w,.int .i64 p.h,.slice a n c],.int .i64 x,.int .i64 y] w fun e w'=>e= .returned (.int .i64 (hlf p x y))∧Ext w w':=by
 have hh:=NC (p:=p) hx hy;have dx:(x/2 == (x+1)/2)=true:=by simp;omega
 have dy:(y/2 == (y+1)/2)=true:=by simp;omega
 have HH:=Aa hh;clear hx hy hh;have p0:=Aj w (.cells #[.int .i64 p.w,.int .i64 p.h,.slice a n c] 30);have E0:=Ext.alloc w (.cells #[.int .i64 p.w,.int .i64 p.h,.slice a n c] 30);obtain⟨B,hB⟩:∃ B,B=w.heap.size:=⟨_,rfl⟩;rw[←hB]at p0;have HB:=Aa hB;have HN:=Aa hn;have HV:=Aa hv;clear hn hv;obtain⟨-,k0,k1,k2,-⟩:=bx3 p0;go_enter Tryz.func103,Tryz.ntmps103
 go_wp2_with fail
 rw[←hB];clear hB;generalize w.alloc (.cells #[.int .i64 p.w,.int .i64 p.h,.slice a n c] 30)=w0 at *;refine(BS p (x/2) (y/2) a c n _ HV.out HN.out (r.ext E0)).mono ?_
 rintro e w2 ⟨rfl,e2⟩
 go_wp2;go_ret
 exact⟨(AN HH).symm,E0.trans e2⟩
theorem MI (p:Pic)(x y:Int)(a:Option Addr)(c n:Nat)(w:World)(hv:p.valid)(hn:n=p.px.length)(r:Sl w a n (p.px.map (Value.int .i64)))
 (x1 : -2000≤x) (x2:x≤2000) (y1 : -2000≤y) (y2:y≤2000) (hx : ¬ x%2=0) (hy:y%2=0) :
 Calls Tryz.prog 103 #[.agg #[.int .i64 p.w,.int .i64 p.h,.slice a n c],.int .i64 x,.int .i64 y] w fun e w'=>e= .returned (.int .i64 (hlf p x y))∧Ext w w':=by
 have hh:=NE (p:=p) hx hy;have dx:(x/2 == (x+1)/2)=false:=by simp;omega
 have dy:(y/2 == (y+1)/2)=true:=by simp;omega
 rw[show x/2+1=(x+1)/2 by omega]at hh;have HH:=Aa hh;clear hx hy hh;have p0:=Aj w (.cells #[.int .i64 p.w,.int .i64 p.h,.slice a n c] 30);have E0:=Ext.alloc w (.cells #[.int .i64 p.w,.int .i64 p.h,.slice a n c] 30);obtain⟨B,hB⟩:∃ B,B=w.heap.size:=⟨_,rfl⟩;rw[←hB]at p0;have HB:=Aa hB;have HN:=Aa hn;have HV:=Aa hv;clear hn hv;obtain⟨s0,hs0⟩:∃ s0,s0=pat p (x/2) (y/2):=⟨_,rfl⟩;have b0:=AM HV.out (x/2) (y/2);rw[←hs0]at b0;have H0:=Aa hs0;clear hs0;obtain⟨s1,hs1⟩:∃ s1,s1=pat p ((x+1)/2) (y/2):=⟨_,rfl⟩;have b1:=AM HV.out ((x+1)/2) (y/2);rw[←hs1]at b1;have H1:=Aa hs1;clear hs1;rw[←H0.out,←H1.out]at HH;go_enter Tryz.func103,Tryz.ntmps103
 go_wp2_with fail
 rw[←hB];clear hB;generalize w.alloc (.cells #[.int .i64 p.w,.int .i64 p.h,.slice a n c] 30)=w0 at *;refine An (by kernel_rfl) [(6,11),(38,0),(39,1),(40,2),(41,3),(42,4),(43,5),(44,6),(45,7),(46,8),(47,9),(48,10)] [[],[],[],[0,1,2],[],[],[],[0,1,2,3,4,5,6],[0,1,2,3,4,5,6,7],[0,1,2,3,4,5,6,7,8],[0,1,2,3,4,5,6,7,8,9],[0,1,2,3,4,5,6,7,8,9,10]] (fun i own ys wx=>match i with|0=>own= .agg #[.int .i64 p.w,.int .i64 p.h,.slice a n c]|1=>own= .int .i64 (x/2)|2=>own= .int .i64 (y/2)|3=>own= .int .i64 s0|4=>own= .agg #[.int .i64 p.w,.int .i64 p.h,.slice a n c]|5=>own= .int .i64 ((x+1)/2)|6=>own= .int .i64 (y/2)|7=>own= .int .i64 s1|8=>own= .int .i64 (s0+s1)|9=>own= .int .i64 (s0+s1+1)|10=>own= .int .i64 ((s0+s1+1)/2)|11=>own= .int .i64 ((s0+s1+1)/2)|_=>True) (fun kx wx=>Ext w0 wx) (by kernel_rfl) (by kernel_rfl) (by kernel_rfl) ?g0_r1 ?gop_r1 ?gend_r1
 case g0_r1=>exact Ext.drewN _ 1
 case gop_r1 =>
  refine⟨?o0,?_,?_,?o3,?o4,?_,?_,?o7,?o8,?o9,?o10,?o11,trivial⟩ <;> (intro kx xs wx hk hG hD hI Qo Kx hK hQo;simp only[Ad,Nat.reduceAdd,Nat.reduceEqDiff,↓reduceIte]at hQo⊢)
  case o0 =>
   clear hD hI;obtain⟨-,k0,k1,k2,-⟩:=bx3 (hG.blk p0);go_wp2;exact hK.out _ _ ⟨rfl,hG,kkp⟩
  case o3 =>
   rw[ddq (hD 0 rfl),ddq (hD 1 rfl),ddq (hD 2 rfl)]at hQo⊢;clear hD hI;go_wp2_with fail
   refine(BS p (x/2) (y/2) a c n _ HV.out HN.out (r.ext (E0.trans hG))).mono ?_
   rintro e w2 ⟨rfl,e2⟩
   rw[←H0.out];go_wp2;exact hK.out _ _ ⟨rfl,hG.trans e2,fun _ _ _ _ _ _ h=>h⟩
  case o4 =>
   clear hD hI;obtain⟨-,k0,k1,k2,-⟩:=bx3 (hG.blk p0);go_wp2;exact hK.out _ _ ⟨rfl,hG,kkp⟩
  case o7 =>
   rw[ddq (hD 4 rfl),ddq (hD 5 rfl),ddq (hD 6 rfl)]at hQo⊢;clear hD hI;go_wp2_with fail
   refine(BS p ((x+1)/2) (y/2) a c n _ HV.out HN.out (r.ext (E0.trans hG))).mono ?_
   rintro e w2 ⟨rfl,e2⟩
   rw[←H1.out];go_wp2;exact hK.out _ _ ⟨rfl,hG.trans e2,fun _ _ _ _ _ _ h=>h⟩
  case o8 =>
   rw[ddq (hD 3 rfl),ddq (hD 7 rfl)]at hQo⊢;clear hD hI;go_wp2;exact hK.out _ _ ⟨rfl,hG,kkp⟩
  case o9 =>
   rw[ddq (hD 8 rfl)]at hQo⊢;clear hD hI;go_wp2;exact hK.out _ _ ⟨rfl,hG,kkp⟩
  case o10 =>
   rw[ddq (hD 9 rfl)]at hQo⊢;clear hD hI;go_wp2;exact hK.out _ _ ⟨rfl,hG,kkp⟩
  case o11 =>
   rw[ddq (hD 10 rfl)]at hQo⊢;clear hD hI;go_wp2;exact hK.out _ _ ⟨rfl,hG,kkp⟩
  all_goals
   clear hD hI;go_wp2;exact hK.out _ _ ⟨rfl,hG,kkp⟩
 intro xs wx hV hG;have d11:_=_:=hV 11 (by decide);clear hV;simp only[Ad,Nat.reduceAdd,Nat.reduceEqDiff,↓reduceIte];generalize xs 0=y0,xs 1=y1,xs 2=y2,xs 3=y3,xs 4=y4,xs 5=y5,xs 6=y6,xs 7=y7,xs 8=y8,xs 9=y9,xs 10=y10,xs 11=y11 at *
 replace hG:Ext w0 wx:=hG
 subst d11;go_wp2;go_ret
 exact⟨(AN HH).symm,E0.trans hG⟩
theorem MH (p:Pic)(x y:Int)(a:Option Addr)(c n:Nat)(w:World)(hv:p.valid)(hn:n=p.px.length)(r:Sl w a n (p.px.map (Value.int .i64)))
 (x1 : -2000≤x) (x2:x≤2000) (y1 : -2000≤y) (y2:y≤2000) (hx:x%2=0) (hy : ¬ y%2=0) :
 Calls Tryz.prog 103 #[.agg #[.int .i64 p.w,.int .i64 p.h,.slice a n c],.int .i64 x,.int .i64 y] w fun e w'=>e= .returned (.int .i64 (hlf p x y))∧Ext w w':=by
 have hh:=ND (p:=p) hx hy;have dx:(x/2 == (x+1)/2)=true:=by simp;omega
 have dy:(y/2 == (y+1)/2)=false:=by simp;omega
 rw[show y/2+1=(y+1)/2 by omega]at hh;have HH:=Aa hh;clear hx hy hh;have p0:=Aj w (.cells #[.int .i64 p.w,.int .i64 p.h,.slice a n c] 30);have E0:=Ext.alloc w (.cells #[.int .i64 p.w,.int .i64 p.h,.slice a n c] 30);obtain⟨B,hB⟩:∃ B,B=w.heap.size:=⟨_,rfl⟩;rw[←hB]at p0;have HB:=Aa hB;have HN:=Aa hn;have HV:=Aa hv;clear hn hv;obtain⟨s0,hs0⟩:∃ s0,s0=pat p (x/2) (y/2):=⟨_,rfl⟩;have b0:=AM HV.out (x/2) (y/2);rw[←hs0]at b0;have H0:=Aa hs0;clear hs0;obtain⟨s1,hs1⟩:∃ s1,s1=pat p (x/2) ((y+1)/2):=⟨_,rfl⟩;have b1:=AM HV.out (x/2) ((y+1)/2);rw[←hs1]at b1;have H1:=Aa hs1;clear hs1;rw[←H0.out,←H1.out]at HH;go_enter Tryz.func103,Tryz.ntmps103
 go_wp2_with fail
 rw[←hB];clear hB;generalize w.alloc (.cells #[.int .i64 p.w,.int .i64 p.h,.slice a n c] 30)=w0 at *;refine An (by kernel_rfl) [(6,11),(53,0),(54,1),(55,2),(56,3),(57,4),(58,5),(59,6),(60,7),(61,8),(62,9),(63,10)] [[],[],[],[0,1,2],[],[],[],[0,1,2,3,4,5,6],[0,1,2,3,4,5,6,7],[0,1,2,3,4,5,6,7,8],[0,1,2,3,4,5,6,7,8,9],[0,1,2,3,4,5,6,7,8,9,10]] (fun i own ys wx=>match i with|0=>own= .agg #[.int .i64 p.w,.int .i64 p.h,.slice a n c]|1=>own= .int .i64 (x/2)|2=>own= .int .i64 (y/2)|3=>own= .int .i64 s0|4=>own= .agg #[.int .i64 p.w,.int .i64 p.h,.slice a n c]|5=>own= .int .i64 (x/2)|6=>own= .int .i64 ((y+1)/2)|7=>own= .int .i64 s1|8=>own= .int .i64 (s0+s1)|9=>own= .int .i64 (s0+s1+1)|10=>own= .int .i64 ((s0+s1+1)/2)|11=>own= .int .i64 ((s0+s1+1)/2)|_=>True) (fun kx wx=>Ext w0 wx) (by kernel_rfl) (by kernel_rfl) (by kernel_rfl) ?g0_r2 ?gop_r2 ?gend_r2
 case g0_r2=>exact Ext.drewN _ 1
 case gop_r2 =>
  refine⟨?o0,?_,?_,?o3,?o4,?_,?_,?o7,?o8,?o9,?o10,?o11,trivial⟩ <;> (intro kx xs wx hk hG hD hI Qo Kx hK hQo;simp only[Ad,Nat.reduceAdd,Nat.reduceEqDiff,↓reduceIte]at hQo⊢)
  case o0 =>
   clear hD hI;obtain⟨-,k0,k1,k2,-⟩:=bx3 (hG.blk p0);go_wp2;exact hK.out _ _ ⟨rfl,hG,kkp⟩
  case o3 =>
   rw[ddq (hD 0 rfl),ddq (hD 1 rfl),ddq (hD 2 rfl)]at hQo⊢;clear hD hI;go_wp2_with fail
   refine(BS p (x/2) (y/2) a c n _ HV.out HN.out (r.ext (E0.trans hG))).mono ?_
   rintro e w2 ⟨rfl,e2⟩
   rw[←H0.out];go_wp2;exact hK.out _ _ ⟨rfl,hG.trans e2,fun _ _ _ _ _ _ h=>h⟩
  case o4 =>
   clear hD hI;obtain⟨-,k0,k1,k2,-⟩:=bx3 (hG.blk p0);go_wp2;exact hK.out _ _ ⟨rfl,hG,kkp⟩
  case o7 =>
   rw[ddq (hD 4 rfl),ddq (hD 5 rfl),ddq (hD 6 rfl)]at hQo⊢;clear hD hI;go_wp2_with fail
   refine(BS p (x/2) ((y+1)/2) a c n _ HV.out HN.out (r.ext (E0.trans hG))).mono ?_
   rintro e w2 ⟨rfl,e2⟩
   rw[←H1.out];go_wp2;exact hK.out _ _ ⟨rfl,hG.trans e2,fun _ _ _ _ _ _ h=>h⟩
  case o8 =>
   rw[ddq (hD 3 rfl),ddq (hD 7 rfl)]at hQo⊢;clear hD hI;go_wp2;exact hK.out _ _ ⟨rfl,hG,kkp⟩
  case o9 =>
   rw[ddq (hD 8 rfl)]at hQo⊢;clear hD hI;go_wp2;exact hK.out _ _ ⟨rfl,hG,kkp⟩
  case o10 =>
   rw[ddq (hD 9 rfl)]at hQo⊢;clear hD hI;go_wp2;exact hK.out _ _ ⟨rfl,hG,kkp⟩
  case o11 =>
   rw[ddq (hD 10 rfl)]at hQo⊢;clear hD hI;go_wp2;exact hK.out _ _ ⟨rfl,hG,kkp⟩
  all_goals
   clear hD hI;go_wp2;exact hK.out _ _ ⟨rfl,hG,kkp⟩
 intro xs wx hV hG;have d11:_=_:=hV 11 (by decide);clear hV;simp only[Ad,Nat.reduceAdd,Nat.reduceEqDiff,↓reduceIte];generalize xs 0=y0,xs 1=y1,xs 2=y2,xs 3=y3,xs 4=y4,xs 5=y5,xs 6=y6,xs 7=y7,xs 8=y8,xs 9=y9,xs 10=y10,xs 11=y11 at *
 replace hG:Ext w0 wx:=hG
 subst d11;go_wp2;go_ret
 exact⟨(AN HH).symm,E0.trans hG⟩
theorem MJ (p:Pic)(x y:Int)(a:Option Addr)(c n:Nat)(w:World)(hv:p.valid)(hn:n=p.px.length)(r:Sl w a n (p.px.map (Value.int .i64)))
 (x1 : -2000≤x) (x2:x≤2000) (y1 : -2000≤y) (y2:y≤2000) (hx : ¬ x%2=0) (hy : ¬ y%2=0) :
 Calls Tryz.prog 103 #[.agg #[.int .i64 p.w,.int .i64 p.h,.slice a n c],.int .i64 x,.int .i64 y] w fun e w'=>e= .returned (.int .i64 (hlf p x y))∧Ext w w':=by
 have hh:=NF (p:=p) hx hy;have dx:(x/2 == (x+1)/2)=false:=by simp;omega
 have dy:(y/2 == (y+1)/2)=false:=by simp;omega
 rw[show x/2+1=(x+1)/2 by omega,show y/2+1=(y+1)/2 by omega]at hh;have HH:=Aa hh;clear hx hy hh;have p0:=Aj w (.cells #[.int .i64 p.w,.int .i64 p.h,.slice a n c] 30);have E0:=Ext.alloc w (.cells #[.int .i64 p.w,.int .i64 p.h,.slice a n c] 30);obtain⟨B,hB⟩:∃ B,B=w.heap.size:=⟨_,rfl⟩;rw[←hB]at p0;have HB:=Aa hB;have HN:=Aa hn;have HV:=Aa hv;clear hn hv;obtain⟨s0,hs0⟩:∃ s0,s0=pat p (x/2) (y/2):=⟨_,rfl⟩;have b0:=AM HV.out (x/2) (y/2);rw[←hs0]at b0;have H0:=Aa hs0;clear hs0;obtain⟨s1,hs1⟩:∃ s1,s1=pat p ((x+1)/2) (y/2):=⟨_,rfl⟩;have b1:=AM HV.out ((x+1)/2) (y/2);rw[←hs1]at b1;have H1:=Aa hs1;clear hs1;obtain⟨s2,hs2⟩:∃ s2,s2=pat p (x/2) ((y+1)/2):=⟨_,rfl⟩;have b2:=AM HV.out (x/2) ((y+1)/2);rw[←hs2]at b2;have H2:=Aa hs2;clear hs2;obtain⟨s3,hs3⟩:∃ s3,s3=pat p ((x+1)/2) ((y+1)/2):=⟨_,rfl⟩;have b3:=AM HV.out ((x+1)/2) ((y+1)/2);rw[←hs3]at b3;have H3:=Aa hs3;clear hs3;rw[←H0.out,←H1.out,←H2.out,←H3.out]at HH;go_enter Tryz.func103,Tryz.ntmps103
 go_wp2_with fail
 rw[←hB];clear hB;generalize w.alloc (.cells #[.int .i64 p.w,.int .i64 p.h,.slice a n c] 30)=w0 at *;refine An (by kernel_rfl) [(6,21),(64,0),(65,1),(66,2),(67,3),(68,4),(69,5),(70,6),(71,7),(72,8),(73,9),(74,10),(75,11),(76,12),(77,13),(78,14),(79,15),(80,16),(81,17),(82,18),(83,19),(84,20)] [[],[],[],[0,1,2],[],[],[],[0,1,2,3,4,5,6],[0,1,2,3,4,5,6,7],[],[],[],[0,1,2,3,4,5,6,7,9,10,11],[0,1,2,3,4,5,6,7,8,9,10,11,12],[],[],[],[0,1,2,3,4,5,6,7,9,10,11,12,14,15,16],[0,1,2,3,4,5,6,7,8,9,10,11,12,13,14,15,16,17],[0,1,2,3,4,5,6,7,8,9,10,11,12,13,14,15,16,17,18],[0,1,2,3,4,5,6,7,8,9,10,11,12,13,14,15,16,17,18,19],[0,1,2,3,4,5,6,7,8,9,10,11,12,13,14,15,16,17,18,19,20]] (fun i own ys wx=>match i with|0=>own= .agg #[.int .i64 p.w,.int .i64 p.h,.slice a n c]|1=>own= .int .i64 (x/2)|2=>own= .int .i64 (y/2)|3=>own= .int .i64 s0|4=>own= .agg #[.int .i64 p.w,.int .i64 p.h,.slice a n c]|5=>own= .int .i64 ((x+1)/2)|6=>own= .int .i64 (y/2)|7=>own= .int .i64 s1|8=>own= .int .i64 (s0+s1)|9=>own= .agg #[.int .i64 p.w,.int .i64 p.h,.slice a n c]|10=>own= .int .i64 (x/2)|11=>own= .int .i64 ((y+1)/2)|12=>own= .int .i64 s2|13=>own= .int .i64 (s0+s1+s2)|14=>own= .agg #[.int .i64 p.w,.int .i64 p.h,.slice a n c]|15=>own= .int .i64 ((x+1)/2)|16=>own= .int .i64 ((y+1)/2)|17=>own= .int .i64 s3|18=>own= .int .i64 (s0+s1+s2+s3)|19=>own= .int .i64 (s0+s1+s2+s3+2)|20=>own= .int .i64 ((s0+s1+s2+s3+2)/4)|21=>own= .int .i64 ((s0+s1+s2+s3+2)/4)|_=>True) (fun kx wx=>Ext w0 wx) (by kernel_rfl) (by kernel_rfl) (by kernel_rfl) ?g0_r3 ?gop_r3 ?gend_r3
 case g0_r3=>exact Ext.drewN _ 1
 case gop_r3 =>
  refine⟨?o0,?_,?_,?o3,?o4,?_,?_,?o7,?o8,?o9,?_,?_,?o12,?o13,?o14,?_,?_,?o17,?o18,?o19,?o20,?o21,trivial⟩ <;> (intro kx xs wx hk hG hD hI Qo Kx hK hQo;simp only[Ad,Nat.reduceAdd,Nat.reduceEqDiff,↓reduceIte]at hQo⊢)
  case o0 =>
   clear hD hI;obtain⟨-,k0,k1,k2,-⟩:=bx3 (hG.blk p0);go_wp2;exact hK.out _ _ ⟨rfl,hG,kkp⟩
  case o3 =>
   rw[ddq (hD 0 rfl),ddq (hD 1 rfl),ddq (hD 2 rfl)]at hQo⊢;clear hD hI;go_wp2_with fail
   refine(BS p (x/2) (y/2) a c n _ HV.out HN.out (r.ext (E0.trans hG))).mono ?_
   rintro e w2 ⟨rfl,e2⟩
   rw[←H0.out];go_wp2;exact hK.out _ _ ⟨rfl,hG.trans e2,fun _ _ _ _ _ _ h=>h⟩
  case o4 =>
   clear hD hI;obtain⟨-,k0,k1,k2,-⟩:=bx3 (hG.blk p0);go_wp2;exact hK.out _ _ ⟨rfl,hG,kkp⟩
  case o7 =>
   rw[ddq (hD 4 rfl),ddq (hD 5 rfl),ddq (hD 6 rfl)]at hQo⊢;clear hD hI;go_wp2_with fail
   refine(BS p ((x+1)/2) (y/2) a c n _ HV.out HN.out (r.ext (E0.trans hG))).mono ?_
   rintro e w2 ⟨rfl,e2⟩
   rw[←H1.out];go_wp2;exact hK.out _ _ ⟨rfl,hG.trans e2,fun _ _ _ _ _ _ h=>h⟩
  case o8 =>
   rw[ddq (hD 3 rfl),ddq (hD 7 rfl)]at hQo⊢;clear hD hI;go_wp2;exact hK.out _ _ ⟨rfl,hG,kkp⟩
  case o9 =>
   clear hD hI;obtain⟨-,k0,k1,k2,-⟩:=bx3 (hG.blk p0);go_wp2;exact hK.out _ _ ⟨rfl,hG,kkp⟩
  case o12 =>
   rw[ddq (hD 9 rfl),ddq (hD 10 rfl),ddq (hD 11 rfl)]at hQo⊢;clear hD hI;go_wp2_with fail
   refine(BS p (x/2) ((y+1)/2) a c n _ HV.out HN.out (r.ext (E0.trans hG))).mono ?_
   rintro e w2 ⟨rfl,e2⟩
   rw[←H2.out];go_wp2;exact hK.out _ _ ⟨rfl,hG.trans e2,fun _ _ _ _ _ _ h=>h⟩
  case o13 =>
   rw[ddq (hD 8 rfl),ddq (hD 12 rfl)]at hQo⊢;clear hD hI;go_wp2;exact hK.out _ _ ⟨rfl,hG,kkp⟩
  case o14 =>
   clear hD hI;obtain⟨-,k0,k1,k2,-⟩:=bx3 (hG.blk p0);go_wp2;exact hK.out _ _ ⟨rfl,hG,kkp⟩
  case o17 =>
   rw[ddq (hD 14 rfl),ddq (hD 15 rfl),ddq (hD 16 rfl)]at hQo⊢;clear hD hI;go_wp2_with fail
   refine(BS p ((x+1)/2) ((y+1)/2) a c n _ HV.out HN.out (r.ext (E0.trans hG))).mono ?_
   rintro e w2 ⟨rfl,e2⟩
   rw[←H3.out];go_wp2;exact hK.out _ _ ⟨rfl,hG.trans e2,fun _ _ _ _ _ _ h=>h⟩
  case o18 =>
   rw[ddq (hD 13 rfl),ddq (hD 17 rfl)]at hQo⊢;clear hD hI;go_wp2;exact hK.out _ _ ⟨rfl,hG,kkp⟩
  case o19 =>
   rw[ddq (hD 18 rfl)]at hQo⊢;clear hD hI;go_wp2;exact hK.out _ _ ⟨rfl,hG,kkp⟩
  case o20 =>
   rw[ddq (hD 19 rfl)]at hQo⊢;clear hD hI;go_wp2;exact hK.out _ _ ⟨rfl,hG,kkp⟩
  case o21 =>
   rw[ddq (hD 20 rfl)]at hQo⊢;clear hD hI;go_wp2;exact hK.out _ _ ⟨rfl,hG,kkp⟩
  all_goals
   clear hD hI;go_wp2;exact hK.out _ _ ⟨rfl,hG,kkp⟩
 intro xs wx hV hG;have d21:_=_:=hV 21 (by decide);clear hV;simp only[Ad,Nat.reduceAdd,Nat.reduceEqDiff,↓reduceIte];generalize xs 0=y0,xs 1=y1,xs 2=y2,xs 3=y3,xs 4=y4,xs 5=y5,xs 6=y6,xs 7=y7,xs 8=y8,xs 9=y9,xs 10=y10,xs 11=y11,xs 12=y12,xs 13=y13,xs 14=y14,xs 15=y15,xs 16=y16,xs 17=y17,xs 18=y18,xs 19=y19,xs 20=y20,xs 21=y21 at *
 replace hG:Ext w0 wx:=hG
 subst d21;go_wp2;go_ret
 exact⟨(AN HH).symm,E0.trans hG⟩
theorem Pd (p:Pic)(x y:Int)(a:Option Addr)(c n:Nat)(w:World)(hv:p.valid)(hn:n=p.px.length)(r:Sl w a n (p.px.map (Value.int .i64)))
 (x1 : -2000≤x) (x2:x≤2000) (y1 : -2000≤y) (y2:y≤2000) :
 Calls Tryz.prog 103 #[.agg #[.int .i64 p.w,.int .i64 p.h,.slice a n c],.int .i64 x,.int .i64 y] w fun e w'=>e= .returned (.int .i64 (hlf p x y))∧Ext w w':=by
 by_cases hx:x%2=0
 ·by_cases hy:y%2=0
  ·exact MG p x y a c n w hv hn r x1 x2 y1 y2 hx hy
  ·exact MH p x y a c n w hv hn r x1 x2 y1 y2 hx hy
 ·by_cases hy:y%2=0
  ·exact MI p x y a c n w hv hn r x1 x2 y1 y2 hx hy
  ·exact MJ p x y a c n w hv hn r x1 x2 y1 y2 hx hy
theorem Ox (p:Pic)(x y:Int)(a:Option Addr)(c n:Nat)(w:World)(hv:p.valid)(hn:n=p.px.length)(r:Sl w a n (p.px.map (Value.int .i64)))
 (x1 : -2000≤x) (x2:x≤2000) (y1 : -2000≤y) (y2:y≤2000) (hx:x%2=0) (hy:y%2=0) :
 Calls Tryz.prog 112 #[.agg #[.int .i64 p.w,.int .i64 p.h,.slice a n c],.int .i64 x,.int .i64 y] w fun e w'=>e= .returned (.int .i64 (hlf p x y))∧Ext w w':=by
 have hh:=NC (p:=p) hx hy;have dx:(x.tmod 2 == 0)=true:=Jo hx;have dy:(y.tmod 2 == 0)=true:=Jo hy;have HH:=Aa hh;clear hx hy hh;have p0:=Aj w (.cells #[.int .i64 p.w,.int .i64 p.h,.slice a n c] 30);have E0:=Ext.alloc w (.cells #[.int .i64 p.w,.int .i64 p.h,.slice a n c] 30);obtain⟨B,hB⟩:∃ B,B=w.heap.size:=⟨_,rfl⟩;rw[←hB]at p0;have HB:=Aa hB;have HN:=Aa hn;have HV:=Aa hv;clear hn hv;obtain⟨s0,hs0⟩:∃ s0,s0=pat p (x/2) (y/2):=⟨_,rfl⟩;have b0:=AM HV.out (x/2) (y/2);rw[←hs0]at b0;have H0:=Aa hs0;clear hs0;rw[←H0.out]at HH;obtain⟨-,k0,k1,k2,-⟩:=bx3 p0;go_enter Tryz.func112,Tryz.ntmps112
 go_wp2_with fail
 refine(BK _ 2 _ (by omega) (by omega) (by omega) (by omega)).mono ?_
 rintro e w2 ⟨rfl,rfl⟩
 go_wp2_with fail
 refine(BK _ 2 _ (by omega) (by omega) (by omega) (by omega)).mono ?_
 rintro e w2 ⟨rfl,rfl⟩
 go_wp2_with fail
 refine(Cq p (x/2) (y/2) a c n _ HV.out HN.out (r.ext E0)).mono ?_
 rintro e w2 ⟨rfl,e2⟩
 rw[←H0.out];have p2:=e2.blk p0;have E2:=E0.trans e2;rw[←hB];clear hB p0 k0 k1 k2 E0 e2;obtain⟨-,k0,k1,k2,-⟩:=bx3 p2;go_wp2;go_ret
 exact⟨(AN HH).symm,E2⟩
theorem Oz (p:Pic)(x y:Int)(a:Option Addr)(c n:Nat)(w:World)(hv:p.valid)(hn:n=p.px.length)(r:Sl w a n (p.px.map (Value.int .i64)))
 (x1 : -2000≤x) (x2:x≤2000) (y1 : -2000≤y) (y2:y≤2000) (hx : ¬ x%2=0) (hy:y%2=0) :
 Calls Tryz.prog 112 #[.agg #[.int .i64 p.w,.int .i64 p.h,.slice a n c],.int .i64 x,.int .i64 y] w fun e w'=>e= .returned (.int .i64 (hlf p x y))∧Ext w w':=by
 have hh:=NE (p:=p) hx hy;have dx:(x.tmod 2 == 0)=false:=Lq hx;have dy:(y.tmod 2 == 0)=true:=Jo hy;have HH:=Aa hh;clear hx hy hh;have p0:=Aj w (.cells #[.int .i64 p.w,.int .i64 p.h,.slice a n c] 30);have E0:=Ext.alloc w (.cells #[.int .i64 p.w,.int .i64 p.h,.slice a n c] 30);obtain⟨B,hB⟩:∃ B,B=w.heap.size:=⟨_,rfl⟩;rw[←hB]at p0;have HB:=Aa hB;have HN:=Aa hn;have HV:=Aa hv;clear hn hv;obtain⟨s0,hs0⟩:∃ s0,s0=pat p (x/2) (y/2):=⟨_,rfl⟩;have b0:=AM HV.out (x/2) (y/2);rw[←hs0]at b0;have H0:=Aa hs0;clear hs0;obtain⟨s1,hs1⟩:∃ s1,s1=pat p (x/2+1) (y/2):=⟨_,rfl⟩;have b1:=AM HV.out (x/2+1) (y/2);rw[←hs1]at b1;have H1:=Aa hs1;clear hs1;rw[←H0.out,←H1.out]at HH;obtain⟨-,k0,k1,k2,-⟩:=bx3 p0;go_enter Tryz.func112,Tryz.ntmps112
 go_wp2_with fail
 refine(BK _ 2 _ (by omega) (by omega) (by omega) (by omega)).mono ?_
 rintro e w2 ⟨rfl,rfl⟩
 go_wp2_with fail
 refine(BK _ 2 _ (by omega) (by omega) (by omega) (by omega)).mono ?_
 rintro e w2 ⟨rfl,rfl⟩
 go_wp2_with fail
 refine(Cq p (x/2) (y/2) a c n _ HV.out HN.out (r.ext E0)).mono ?_
 rintro e w2 ⟨rfl,e2⟩
 rw[←H0.out];have p2:=e2.blk p0;have E2:=E0.trans e2;rw[←hB];clear hB p0 k0 k1 k2 E0 e2;obtain⟨-,k0,k1,k2,-⟩:=bx3 p2;go_wp2_with fail
 refine(Cq p (x/2+1) (y/2) a c n _ HV.out HN.out (r.ext E2)).mono ?_
 rintro e w3 ⟨rfl,e3⟩
 rw[←H1.out];go_wp2;go_ret
 exact⟨(AN HH).symm,E2.trans e3⟩
theorem Oy (p:Pic)(x y:Int)(a:Option Addr)(c n:Nat)(w:World)(hv:p.valid)(hn:n=p.px.length)(r:Sl w a n (p.px.map (Value.int .i64)))
 (x1 : -2000≤x) (x2:x≤2000) (y1 : -2000≤y) (y2:y≤2000) (hx:x%2=0) (hy : ¬ y%2=0) :
 Calls Tryz.prog 112 #[.agg #[.int .i64 p.w,.int .i64 p.h,.slice a n c],.int .i64 x,.int .i64 y] w fun e w'=>e= .returned (.int .i64 (hlf p x y))∧Ext w w':=by
 have hh:=ND (p:=p) hx hy;have dx:(x.tmod 2 == 0)=true:=Jo hx;have dy:(y.tmod 2 == 0)=false:=Lq hy;have HH:=Aa hh;clear hx hy hh;have p0:=Aj w (.cells #[.int .i64 p.w,.int .i64 p.h,.slice a n c] 30);have E0:=Ext.alloc w (.cells #[.int .i64 p.w,.int .i64 p.h,.slice a n c] 30);obtain⟨B,hB⟩:∃ B,B=w.heap.size:=⟨_,rfl⟩;rw[←hB]at p0;have HB:=Aa hB;have HN:=Aa hn;have HV:=Aa hv;clear hn hv;obtain⟨s0,hs0⟩:∃ s0,s0=pat p (x/2) (y/2):=⟨_,rfl⟩;have b0:=AM HV.out (x/2) (y/2);rw[←hs0]at b0;have H0:=Aa hs0;clear hs0;obtain⟨s1,hs1⟩:∃ s1,s1=pat p (x/2) (y/2+1):=⟨_,rfl⟩;have b1:=AM HV.out (x/2) (y/2+1);rw[←hs1]at b1;have H1:=Aa hs1;clear hs1;rw[←H0.out,←H1.out]at HH;obtain⟨-,k0,k1,k2,-⟩:=bx3 p0;go_enter Tryz.func112,Tryz.ntmps112
 go_wp2_with fail
 refine(BK _ 2 _ (by omega) (by omega) (by omega) (by omega)).mono ?_
 rintro e w2 ⟨rfl,rfl⟩
 go_wp2_with fail
 refine(BK _ 2 _ (by omega) (by omega) (by omega) (by omega)).mono ?_
 rintro e w2 ⟨rfl,rfl⟩
 go_wp2_with fail
 refine(Cq p (x/2) (y/2) a c n _ HV.out HN.out (r.ext E0)).mono ?_
 rintro e w2 ⟨rfl,e2⟩
 rw[←H0.out];have p2:=e2.blk p0;have E2:=E0.trans e2;rw[←hB];clear hB p0 k0 k1 k2 E0 e2;obtain⟨-,k0,k1,k2,-⟩:=bx3 p2;go_wp2_with fail
 refine(Cq p (x/2) (y/2+1) a c n _ HV.out HN.out (r.ext E2)).mono ?_
 rintro e w3 ⟨rfl,e3⟩
 rw[←H1.out];go_wp2;go_ret
 exact⟨(AN HH).symm,E2.trans e3⟩
theorem OA (p:Pic)(x y:Int)(a:Option Addr)(c n:Nat)(w:World)(hv:p.valid)(hn:n=p.px.length)(r:Sl w a n (p.px.map (Value.int .i64)))
 (x1 : -2000≤x) (x2:x≤2000) (y1 : -2000≤y) (y2:y≤2000) (hx : ¬ x%2=0) (hy : ¬ y%2=0) :
 Calls Tryz.prog 112 #[.agg #[.int .i64 p.w,.int .i64 p.h,.slice a n c],.int .i64 x,.int .i64 y] w fun e w'=>e= .returned (.int .i64 (hlf p x y))∧Ext w w':=by
 have hh:=NF (p:=p) hx hy;have dx:(x.tmod 2 == 0)=false:=Lq hx;have dy:(y.tmod 2 == 0)=false:=Lq hy;have HH:=Aa hh;clear hx hy hh;have p0:=Aj w (.cells #[.int .i64 p.w,.int .i64 p.h,.slice a n c] 30);have E0:=Ext.alloc w (.cells #[.int .i64 p.w,.int .i64 p.h,.slice a n c] 30);obtain⟨B,hB⟩:∃ B,B=w.heap.size:=⟨_,rfl⟩;rw[←hB]at p0;have HB:=Aa hB;have HN:=Aa hn;have HV:=Aa hv;clear hn hv;obtain⟨s0,hs0⟩:∃ s0,s0=pat p (x/2) (y/2):=⟨_,rfl⟩;have b0:=AM HV.out (x/2) (y/2);rw[←hs0]at b0;have H0:=Aa hs0;clear hs0;obtain⟨s1,hs1⟩:∃ s1,s1=pat p (x/2+1) (y/2):=⟨_,rfl⟩;have b1:=AM HV.out (x/2+1) (y/2);rw[←hs1]at b1;have H1:=Aa hs1;clear hs1;obtain⟨s2,hs2⟩:∃ s2,s2=pat p (x/2) (y/2+1):=⟨_,rfl⟩;have b2:=AM HV.out (x/2) (y/2+1);rw[←hs2]at b2;have H2:=Aa hs2;clear hs2;obtain⟨s3,hs3⟩:∃ s3,s3=pat p (x/2+1) (y/2+1):=⟨_,rfl⟩;have b3:=AM HV.out (x/2+1) (y/2+1);rw[←hs3]at b3;have H3:=Aa hs3;clear hs3;rw[←H0.out,←H1.out,←H2.out,←H3.out]at HH;obtain⟨-,k0,k1,k2,-⟩:=bx3 p0;go_enter Tryz.func112,Tryz.ntmps112
 go_wp2_with fail
 refine(BK _ 2 _ (by omega) (by omega) (by omega) (by omega)).mono ?_
 rintro e w2 ⟨rfl,rfl⟩
 go_wp2_with fail
 refine(BK _ 2 _ (by omega) (by omega) (by omega) (by omega)).mono ?_
 rintro e w2 ⟨rfl,rfl⟩
 go_wp2_with fail
 refine(Cq p (x/2) (y/2) a c n _ HV.out HN.out (r.ext E0)).mono ?_
 rintro e w2 ⟨rfl,e2⟩
 rw[←H0.out];have p2:=e2.blk p0;have E2:=E0.trans e2;rw[←hB];clear hB p0 k0 k1 k2 E0 e2;obtain⟨-,k0,k1,k2,-⟩:=bx3 p2;clear k0 k1 k2;go_wp2_with fail
 refine An (by kernel_rfl) [(6,22),(54,0),(55,1),(56,2),(57,3),(58,4),(59,5),(60,6),(61,7),(62,8),(63,9),(64,10),(65,11),(66,12),(67,13),(68,14),(69,15),(70,16),(71,17),(72,18),(73,19),(74,20),(75,21)] [[],[],[],[2],[],[1,2,3,4],[0,1,2,3,4,5],[],[],[],[9],[1,2,3,4,5,7,8,9,10],[0,1,2,3,4,5,6,7,8,9,10,11],[],[],[14],[],[16],[1,2,3,4,5,7,8,9,10,11,13,14,15,16,17],[0,1,2,3,4,5,6,7,8,9,10,11,12,13,14,15,16,17,18],[0,1,2,3,4,5,6,7,8,9,10,11,12,13,14,15,16,17,18,19],[0,1,2,3,4,5,6,7,8,9,10,11,12,13,14,15,16,17,18,19,20],[0,1,2,3,4,5,6,7,8,9,10,11,12,13,14,15,16,17,18,19,20,21]] (fun i own ys wx=>match i with|0=>own= .int .i64 s0|1=>own= .agg #[.int .i64 p.w,.int .i64 p.h,.slice a n c]|2=>own= .int .i64 (x/2)|3=>own= .int .i64 (x/2+1)|4=>own= .int .i64 (y/2)|5=>own= .int .i64 s1|6=>own= .int .i64 (s0+s1)|7=>own= .agg #[.int .i64 p.w,.int .i64 p.h,.slice a n c]|8=>own= .int .i64 (x/2)|9=>own= .int .i64 (y/2)|10=>own= .int .i64 (y/2+1)|11=>own= .int .i64 s2|12=>own= .int .i64 (s0+s1+s2)|13=>own= .agg #[.int .i64 p.w,.int .i64 p.h,.slice a n c]|14=>own= .int .i64 (x/2)|15=>own= .int .i64 (x/2+1)|16=>own= .int .i64 (y/2)|17=>own= .int .i64 (y/2+1)|18=>own= .int .i64 s3|19=>own= .int .i64 (s0+s1+s2+s3)|20=>own= .int .i64 (s0+s1+s2+s3+2)|21=>own= .int .i64 ((s0+s1+s2+s3+2)/4)|22=>own= .int .i64 ((s0+s1+s2+s3+2)/4)|_=>True) (fun kx wx=>Ext w2 wx) (by kernel_rfl) (by kernel_rfl) (by kernel_rfl) ?g0_r4 ?gop_r4 ?gend_r4
 case g0_r4=>exact Ext.drewN _ 1
 case gop_r4 =>
  refine⟨?_,?o1,?_,?o3,?_,?o5,?o6,?o7,?_,?_,?o10,?o11,?o12,?o13,?_,?o15,?_,?o17,?o18,?o19,?o20,?o21,?o22,trivial⟩ <;> (intro kx xs wx hk hG hD hI Qo Kx hK hQo;simp only[Ad,Nat.reduceAdd,Nat.reduceEqDiff,↓reduceIte]at hQo⊢)
  case o1 =>
   clear hD hI;obtain⟨-,k0,k1,k2,-⟩:=bx3 (hG.blk p2);go_wp2;exact hK.out _ _ ⟨rfl,hG,kkp⟩
  case o3 =>
   rw[ddq (hD 2 rfl)]at hQo⊢;clear hD hI;go_wp2;exact hK.out _ _ ⟨rfl,hG,kkp⟩
  case o5 =>
   rw[ddq (hD 1 rfl),ddq (hD 3 rfl),ddq (hD 4 rfl)]at hQo⊢;clear hD hI;go_wp2_with fail
   refine(Cq p (x/2+1) (y/2) a c n _ HV.out HN.out (r.ext (E2.trans hG))).mono ?_
   rintro e w3 ⟨rfl,e3⟩
   rw[←H1.out];go_wp2;exact hK.out _ _ ⟨rfl,hG.trans e3,fun _ _ _ _ _ _ h=>h⟩
  case o6 =>
   rw[ddq (hD 0 rfl),ddq (hD 5 rfl)]at hQo⊢;clear hD hI;go_wp2;exact hK.out _ _ ⟨rfl,hG,kkp⟩
  case o7 =>
   clear hD hI;obtain⟨-,k0,k1,k2,-⟩:=bx3 (hG.blk p2);go_wp2;exact hK.out _ _ ⟨rfl,hG,kkp⟩
  case o10 =>
   rw[ddq (hD 9 rfl)]at hQo⊢;clear hD hI;go_wp2;exact hK.out _ _ ⟨rfl,hG,kkp⟩
  case o11 =>
   rw[ddq (hD 7 rfl),ddq (hD 8 rfl),ddq (hD 10 rfl)]at hQo⊢;clear hD hI;go_wp2_with fail
   refine(Cq p (x/2) (y/2+1) a c n _ HV.out HN.out (r.ext (E2.trans hG))).mono ?_
   rintro e w3 ⟨rfl,e3⟩
   rw[←H2.out];go_wp2;exact hK.out _ _ ⟨rfl,hG.trans e3,fun _ _ _ _ _ _ h=>h⟩
  case o12 =>
   rw[ddq (hD 6 rfl),ddq (hD 11 rfl)]at hQo⊢;clear hD hI;go_wp2;exact hK.out _ _ ⟨rfl,hG,kkp⟩
  case o13 =>
   clear hD hI;obtain⟨-,k0,k1,k2,-⟩:=bx3 (hG.blk p2);go_wp2;exact hK.out _ _ ⟨rfl,hG,kkp⟩
  case o15 =>
   rw[ddq (hD 14 rfl)]at hQo⊢;clear hD hI;go_wp2;exact hK.out _ _ ⟨rfl,hG,kkp⟩
  case o17 =>
   rw[ddq (hD 16 rfl)]at hQo⊢;clear hD hI;go_wp2;exact hK.out _ _ ⟨rfl,hG,kkp⟩
  case o18 =>
   rw[ddq (hD 13 rfl),ddq (hD 15 rfl),ddq (hD 17 rfl)]at hQo⊢;clear hD hI;go_wp2_with fail
   refine(Cq p (x/2+1) (y/2+1) a c n _ HV.out HN.out (r.ext (E2.trans hG))).mono ?_
   rintro e w3 ⟨rfl,e3⟩
   rw[←H3.out];go_wp2;exact hK.out _ _ ⟨rfl,hG.trans e3,fun _ _ _ _ _ _ h=>h⟩
  case o19 =>
   rw[ddq (hD 12 rfl),ddq (hD 18 rfl)]at hQo⊢;clear hD hI;go_wp2;exact hK.out _ _ ⟨rfl,hG,kkp⟩
  case o20 =>
   rw[ddq (hD 19 rfl)]at hQo⊢;clear hD hI;go_wp2;exact hK.out _ _ ⟨rfl,hG,kkp⟩
  case o21 =>
   rw[ddq (hD 20 rfl)]at hQo⊢;clear hD hI;go_wp2;exact hK.out _ _ ⟨rfl,hG,kkp⟩
  case o22 =>
   rw[ddq (hD 21 rfl)]at hQo⊢;clear hD hI;go_wp2;exact hK.out _ _ ⟨rfl,hG,kkp⟩
  all_goals
   clear hD hI;go_wp2;exact hK.out _ _ ⟨rfl,hG,kkp⟩
 intro xs wx hV hG;have d22:_=_:=hV 22 (by decide);clear hV;simp only[Ad,Nat.reduceAdd,Nat.reduceEqDiff,↓reduceIte];generalize xs 0=y0,xs 1=y1,xs 2=y2,xs 3=y3,xs 4=y4,xs 5=y5,xs 6=y6,xs 7=y7,xs 8=y8,xs 9=y9,xs 10=y10,xs 11=y11,xs 12=y12,xs 13=y13,xs 14=y14,xs 15=y15,xs 16=y16,xs 17=y17,xs 18=y18,xs 19=y19,xs 20=y20,xs 21=y21,xs 22=y22 at *
 replace hG:Ext w2 wx:=hG
 subst d22;go_wp2;go_ret
 exact⟨(AN HH).symm,E2.trans hG⟩
theorem M7 (p:Pic)(x y:Int)(a:Option Addr)(c n:Nat)(w:World)(hv:p.valid)(hn:n=p.px.length)(r:Sl w a n (p.px.map (Value.int .i64)))
 (x1 : -2000≤x) (x2:x≤2000) (y1 : -2000≤y) (y2:y≤2000) :
 Calls Tryz.prog 112 #[.agg #[.int .i64 p.w,.int .i64 p.h,.slice a n c],.int .i64 x,.int .i64 y] w fun e w'=>e= .returned (.int .i64 (hlf p x y))∧Ext w w':=by
 by_cases hx:x%2=0
 ·by_cases hy:y%2=0
  ·exact Ox p x y a c n w hv hn r x1 x2 y1 y2 hx hy
  ·exact Oy p x y a c n w hv hn r x1 x2 y1 y2 hx hy
 ·by_cases hy:y%2=0
  ·exact Oz p x y a c n w hv hn r x1 x2 y1 y2 hx hy
  ·exact OA p x y a c n w hv hn r x1 x2 y1 y2 hx hy
theorem Lu (p:Pic)(x y vx vy:Int){J I:Nat}(hJ:J<8)(hI:I<8):((blkL p x y vx vy).take (8*J+(I+1))).map (Value.int .i64)=((blkL p x y vx vy).take (8*J+I)).map (Value.int .i64) ++ [.int .i64 (hlf p (2*(x+(I:Int))+vx) (2*(y+(J:Int))+vy))]:=by
 rw[show 8*J+(I+1)=8*J+I+1 by omega,Kj _ _ (by rw[AQ];omega),Ih _ _ _ _ _ (by omega),show(8*J+I)%8=I by omega,show(8*J+I)/8=J by omega];simp
theorem mul8 (J:Nat):8*(J+1)=8*J+8:=by omega
theorem Gl (p:Pic)(x y vx vy:Int)(a:Option Addr)(c n:Nat)(w:World)(hv:p.valid)(hn:n=p.px.length)(r:Sl w a n (p.px.map (Value.int .i64)))(x1:0≤x)(x2:x≤100)(y1:0≤y)(y2:y≤100)(v1 : -16≤vx)(v2:vx≤16)(v3 : -16≤vy)(v4:vy≤16):
 Calls Tryz.prog 60 #[.agg #[.int .i64 p.w,.int .i64 p.h,.slice a n c],.int .i64 x,.int .i64 y,.agg #[.int .i64 vx,.int .i64 vy]] w fun e w'=>∃ a' c',e= .returned (.slice a' 64 c')∧w'.ownsRow w.heap.size 3 1 (.slice a' 64 c') 64 ((blkL p x y vx vy).map (Value.int .i64))∧Ext w w':=by
 have p0:=Cy (Aj w (.cells #[.int .i64 p.w,.int .i64 p.h,.slice a n c] 30)) (.cells #[.int .i64 vx,.int .i64 vy] 45);have q0:=Aj (w.alloc (.cells #[.int .i64 p.w,.int .i64 p.h,.slice a n c] 30)) (.cells #[.int .i64 vx,.int .i64 vy] 45);have E0:=(Ext.alloc w (.cells #[.int .i64 p.w,.int .i64 p.h,.slice a n c] 30)).trans (Ext.alloc _ (.cells #[.int .i64 vx,.int .i64 vy] 45));simp only[World.size_alloc]at q0;obtain⟨B,hB⟩:∃ B,B=w.heap.size:=⟨_,rfl⟩;rw[←hB]at p0 q0⊢;have HB:=Aa hB;have HN:=Aa hn;have HV:=Aa hv;clear hn hv;go_enter Tryz.func60,Tryz.ntmps60
 go_wp2_with (at_make;refine Nt _ rfl _ _ 22 rfl 3 (.int .i64 0) 8 Rv Cp _ 64 rfl rfl rfl (by omega) (by omega) ?_;intro w1 v1' hown hgrow)
 have E1:Ext w w1:=Ext.grown E0 hgrow (fun k e=>by cases e);have p1:=Ar p0 hgrow (by simp);have q1:=Ar q0 hgrow (by simp);simp only[World.size_alloc]at hown;rw[←hB]at hown⊢;clear hgrow;have X1:=Aa (And.intro p1 q1);have hwB:w.heap.size≤B:=by omega
 clear p0 q0 p1 q1 E0 hB;go_loopw [9,13] (fun v j wr=>∃ J:Nat,J≤8∧j= .int .i64 J∧Ext w wr∧Hid (wr.heap[B]?=some (.cells #[.int .i64 p.w,.int .i64 p.h,.slice a n c] 30 (0,0))∧wr.heap[B+1]?=some (.cells #[.int .i64 vx,.int .i64 vy] 45 (0,0)))∧wr.ownsRow (B+2) 3 1 v (8*J) (((blkL p x y vx vy).take (8*J)).map (Value.int .i64))) (fun _ j _=>8-(intOf j).toNat)
 case atStart=>exact⟨0,by omega,rfl,E1,X1,by simpa using hown⟩
 case round =>
  obtain⟨J,hJ,rfl,EJ,XJ,oJ⟩:=hrel;obtain⟨wo,rfl⟩:∃ wo:World,wo=wr:=⟨_,rfl⟩
  by_cases hltJ:J<8
  ·have hdJ:decide ((J:Int)<8)=true:=by simp;omega
   go_wp2_with fail
   go_loopw [9,16] (fun v i wr2=>∃ I:Nat,I≤8∧i= .int .i64 I∧Ext w wr2∧Hid (wr2.heap[B]?=some (.cells #[.int .i64 p.w,.int .i64 p.h,.slice a n c] 30 (0,0))∧wr2.heap[B+1]?=some (.cells #[.int .i64 vx,.int .i64 vy] 45 (0,0)))∧wr2.ownsRow (B+2) 3 1 v (8*J+I) (((blkL p x y vx vy).take (8*J+I)).map (Value.int .i64))) (fun _ i _=>8-(intOf i).toNat)
   case atStart=>exact⟨0,by omega,rfl,EJ,XJ,oJ⟩
   case round =>
    obtain⟨I,hI,rfl,EI,XI,oI⟩:=hrel;clear EJ oJ XJ
    by_cases hltI:I<8
    ·have hdI:decide ((I:Int)<8)=true:=by simp;omega
     have Hsn:=Aa (Lu p x y vx vy hltJ hltI);obtain⟨-,k0,k1,k2,-⟩:=bx3 XI.out.1;obtain⟨-,g0,g1,-⟩:=bx2 XI.out.2;go_wp2_with fail
     refine(Pd p (2*(x+(I:Int))+vx) (2*(y+(J:Int))+vy) a c n _ HV.out HN.out (r.ext EI) (by omega) (by omega) (by omega) (by omega)).mono ?_
     rintro e w3 ⟨rfl,e3⟩
     have E3:=EI.trans e3;have X3:=Aa (And.intro (e3.blk XI.out.1) (e3.blk XI.out.2));have o3:=Ae oI e3;have hs3:B+2≤w3.heap.size:=by have:=lt_of_block X3.out.2;omega
     clear EI oI XI e3 k0 k1 k2 g0 g1;go_wp2_with (at_builtin;refine CH _ o3 hs3 _ rfl _ _ 22 rfl (.int .i64 0) 8 Rv Cp rfl rfl rfl rfl (by omega) (by omega) ?_;intro v4 w4 own4 gr4 _)
     go_roundw
     case rel =>
      rw[←Hsn.out]at own4;have hge:=Bt o3;exact⟨I+1,by omega,by go_num,Ext.grown E3 gr4 (fun k e=>by have:=hge k e;omega),Aa ⟨Ar X3.out.1 gr4 (fun e=>by have:=hge _ e;omega),Ar X3.out.2 gr4 (fun e=>by have:=hge _ e;omega)⟩,own4⟩
     case measure=>simp[intOf];omega
    ·obtain rfl:I=8:=by omega
     go_wp2;go_roundw
     case rel=>exact⟨J+1,by omega,by go_num,EI,XI,by rw[mul8];exact oI⟩
     case measure=>simp[intOf];omega
  ·obtain rfl:J=8:=by omega
   rw[List.take_of_length_le (by rw[AQ];omega)]at oJ;obtain⟨a8,c8,rfl⟩:=Al oJ;go_wp2;go_ret
   exact⟨_,_,rfl,AH oJ (by omega),EJ⟩
theorem BE (p:Pic)(x y vx vy:Int)(a:Option Addr)(c n:Nat)(w:World)(hv:p.valid)(hn:n=p.px.length)(r:Sl w a n (p.px.map (Value.int .i64)))(x1:0≤x)(x2:x≤100)(y1:0≤y)(y2:y≤100)(v1 : -16≤vx)(v2:vx≤16)(v3 : -16≤vy)(v4:vy≤16):
 Calls Tryz.prog 68 #[.agg #[.int .i64 p.w,.int .i64 p.h,.slice a n c],.int .i64 x,.int .i64 y,.agg #[.int .i64 vx,.int .i64 vy]] w fun e w'=>∃ a' c',e= .returned (.slice a' 64 c')∧w'.ownsRow w.heap.size 3 1 (.slice a' 64 c') 64 ((blkL p x y vx vy).map (Value.int .i64))∧Ext w w':=by
 have p0:=Cy (Aj w (.cells #[.int .i64 p.w,.int .i64 p.h,.slice a n c] 30)) (.cells #[.int .i64 vx,.int .i64 vy] 45);have q0:=Aj (w.alloc (.cells #[.int .i64 p.w,.int .i64 p.h,.slice a n c] 30)) (.cells #[.int .i64 vx,.int .i64 vy] 45);have E0:=(Ext.alloc w (.cells #[.int .i64 p.w,.int .i64 p.h,.slice a n c] 30)).trans (Ext.alloc _ (.cells #[.int .i64 vx,.int .i64 vy] 45));simp only[World.size_alloc]at q0;obtain⟨B,hB⟩:∃ B,B=w.heap.size:=⟨_,rfl⟩;rw[←hB]at p0 q0⊢;have HB:=Aa hB;have HN:=Aa hn;have HV:=Aa hv;clear hn hv;have hown:=World.ownsRow_made (base:=B+2) (e:=3) (size:=1) ((w.alloc (.cells #[.int .i64 p.w,.int .i64 p.h,.slice a n c] 30)).alloc (.cells #[.int .i64 vx,.int .i64 vy] 45)) #[] 0 (by simp;omega) (by simp) rfl;have EA:=Ext.alloc ((w.alloc (.cells #[.int .i64 p.w,.int .i64 p.h,.slice a n c] 30)).alloc (.cells #[.int .i64 vx,.int .i64 vy] 45)) (.cells #[] 3);have E1:=E0.trans EA;have p1:=EA.blk p0;have q1:=EA.blk q0;simp only[World.size_alloc]at hown;rw[←hB]at hown;clear EA;go_enter Tryz.func68,Tryz.ntmps68
 go_wp2_with fail
 try simp only[World.size_alloc]
 rw[←hB];generalize (((w.alloc (.cells #[.int .i64 p.w,.int .i64 p.h,.slice a n c] 30)).alloc (.cells #[.int .i64 vx,.int .i64 vy] 45)).alloc (.cells #[] 3))=w1 at *;have X1:=Aa (And.intro p1 q1);have hwB:w.heap.size≤B:=by omega
 clear p0 q0 p1 q1 E0 hB;go_loopw [9,10] (fun v j wr=>∃ J:Nat,J≤8∧j= .int .i64 J∧Ext w wr∧Hid (wr.heap[B]?=some (.cells #[.int .i64 p.w,.int .i64 p.h,.slice a n c] 30 (0,0))∧wr.heap[B+1]?=some (.cells #[.int .i64 vx,.int .i64 vy] 45 (0,0)))∧wr.ownsRow (B+2) 3 1 v (8*J) (((blkL p x y vx vy).take (8*J)).map (Value.int .i64))) (fun _ j _=>8-(intOf j).toNat)
 case atStart=>exact⟨0,by omega,rfl,E1,X1,by simpa using hown⟩
 case round =>
  obtain⟨J,hJ,rfl,EJ,XJ,oJ⟩:=hrel;obtain⟨wo,rfl⟩:∃ wo:World,wo=wr:=⟨_,rfl⟩
  by_cases hltJ:J<8
  ·have hdJ:decide ((J:Int)<8)=true:=by simp;omega
   go_wp2_with fail
   go_loopw [9,11] (fun v i wr2=>∃ I:Nat,I≤8∧i= .int .i64 I∧Ext w wr2∧Hid (wr2.heap[B]?=some (.cells #[.int .i64 p.w,.int .i64 p.h,.slice a n c] 30 (0,0))∧wr2.heap[B+1]?=some (.cells #[.int .i64 vx,.int .i64 vy] 45 (0,0)))∧wr2.ownsRow (B+2) 3 1 v (8*J+I) (((blkL p x y vx vy).take (8*J+I)).map (Value.int .i64))) (fun _ i _=>8-(intOf i).toNat)
   case atStart=>exact⟨0,by omega,rfl,EJ,XJ,oJ⟩
   case round =>
    obtain⟨I,hI,rfl,EI,XI,oI⟩:=hrel;clear EJ oJ XJ
    by_cases hltI:I<8
    ·have hdI:decide ((I:Int)<8)=true:=by simp;omega
     have Hsn:=Aa (Lu p x y vx vy hltJ hltI);obtain⟨-,k0,k1,k2,-⟩:=bx3 XI.out.1;obtain⟨-,g0,g1,-⟩:=bx2 XI.out.2;go_wp2_with fail
     refine(M7 p (2*(x+(I:Int))+vx) (2*(y+(J:Int))+vy) a c n _ HV.out HN.out (r.ext EI) (by omega) (by omega) (by omega) (by omega)).mono ?_
     rintro e w3 ⟨rfl,e3⟩
     have E3:=EI.trans e3;have X3:=Aa (And.intro (e3.blk XI.out.1) (e3.blk XI.out.2));have o3:=Ae oI e3;have hs3:B+2≤w3.heap.size:=by have:=lt_of_block X3.out.2;omega
     clear EI oI XI e3 k0 k1 k2 g0 g1;go_wp2_with (at_builtin;refine CH _ o3 hs3 _ rfl _ _ 22 rfl (.int .i64 0) 8 Rv Cp rfl rfl rfl rfl (by omega) (by omega) ?_;intro v4 w4 own4 gr4 _)
     go_roundw
     case rel =>
      rw[←Hsn.out]at own4;have hge:=Bt o3;exact⟨I+1,by omega,by go_num,Ext.grown E3 gr4 (fun k e=>by have:=hge k e;omega),Aa ⟨Ar X3.out.1 gr4 (fun e=>by have:=hge _ e;omega),Ar X3.out.2 gr4 (fun e=>by have:=hge _ e;omega)⟩,own4⟩
     case measure=>simp[intOf];omega
    ·obtain rfl:I=8:=by omega
     go_wp2;go_roundw
     case rel=>exact⟨J+1,by omega,by go_num,EI,XI,by rw[mul8];exact oI⟩
     case measure=>simp[intOf];omega
  ·obtain rfl:J=8:=by omega
   rw[List.take_of_length_le (by rw[AQ];omega)]at oJ;obtain⟨a8,c8,rfl⟩:=Al oJ;go_wp2;go_ret
   exact⟨_,_,rfl,AH oJ (by omega),EJ⟩
theorem Ck (n:Nat){P:Program}{f:FuncId}{fn:Func}{c:Code}{args:Array Value}{w:World}{R:Ending→World→Prop}
 (hf:P.funcs[f]?=some fn) (hb:fn.body=some c)
 (h:c.wp P (bodyPostM Fence.wide n P fn R) { tmps:=args++Array.replicate (fn.ntmps-args.size) undef,defers := [] } w):Calls P f args w R :=
 callsIn_wide.1 (callsIn_of_wp_marks (n:=n) hf hb trivial (wpIn_wide.2 h))
theorem GN {a W:World}{D:Nat}(h:Ext a W)(hD:a.heap.size≤D)(o:Obj):Ext a (W.putObj D o):=Ext.grown h (grownBy_putObj' W D o) (fun k e=>by cases e;exact hD)
theorem Jt {W:World}{b D:Nat}{o:Obj}(h:W.heap[b]?=some o)(hD:b≠D)(o':Obj):(W.putObj D o').heap[b]?=some o:=(World.putObj_heap_other hD).trans h
def keepB (b:Nat)(W W':World):Prop:=W'.heap[b]?=W.heap[b]?
theorem keepB.t {b:Nat}{A B C:World}(h:keepB b A B)(k:keepB b B C):keepB b A C:=k.trans h
theorem keepB.b {b n:Nat}(hb:b<n)(W:World)(l:Nat)(o o':Obj)(hl:n≤l)(_:W.heap[l]?=some o)(_:o.isCells=false)(_:o.isWalk=false):keepB b W (W.putObj l o'):=World.putObj_heap_other (by omega)
def updL (L:Nat→Bool)(j:Nat):Nat→Bool:=fun i=>if i=j then true else L i
structure ObOkL (P : Program) (ol : List Oper) (l : List Value) (df : List Deferred) (ds : List (Nat × Nat)) (anc : List (List Nat)) (V : Nat → (Nat → Value) → World → Prop) (G : (Nat → Bool) → World → Prop) (j : Nat) (o : Oper) : Prop where
 run:∀ L xs w,G L w→L j=false→(∀ i,(anc.getD j []).contains i=true→L i=true)→(∀ i,(anc.getD i []).contains j=true→L i=false)→(∀ i,(anc.getD j []).contains i=true→V i xs w)→(∀ i d,(anc.getD i []).contains j=true→(ol.toArray[i]?).bind (·.dst)=some d→xs i=l.getD d undef) →
  OpGoal P ol.toArray o ⟨(Ad 0 l ds xs).toArray,df⟩ w (fun v w'=>V j (upd xs j v) w'∧G (updL L j) w'∧∀ i,i<ol.length→i≠j→(anc.getD i []).contains j=false→V i xs w→V i (upd xs j v) w')
theorem OT {P:Program}{ol:List Oper}{Q:Exit→Act→World→Prop}{l:List Value}{df:List Deferred}{w0:World}
 (ds:List (Nat×Nat)) (anc:List (List Nat)) (V:Nat→(Nat→Value)→World→Prop) (G:(Nat→Bool)→World→Prop)
 (hds:dsOk ol ds l.length=true) (hanc:IG ol anc=true) (h0:G (fun _=>false) w0)
 (hop:∀ j o,ol[j]?=some o→ObOkL P ol l df ds anc V G j o)
 (hend:∀ xs w',(∀ i,i<ol.length→V i xs w')→(∃ L,(∀ i,i<ol.length→L i=true)∧G L w')→Q .normal ⟨(Ad 0 l ds xs).toArray,df⟩ w') :
 wpAny P .any ol.toArray Q ol.length (Array.replicate ol.length false) ⟨l.toArray,df⟩ w0:=by
 simp only[dsOk,Bool.and_eq_true,List.all_eq_true,decide_eq_true_eq,beq_iff_eq,List.mem_range]at hds;obtain⟨⟨⟨ha,hd1⟩,hnd⟩,hd2⟩:=hds;simp only[IG,Bool.and_eq_true,List.all_eq_true,beq_iff_eq,List.mem_range]at hanc;obtain⟨hal,hanc⟩:=hanc
 -- the states that are met
 have key:∀(fuel:Nat) (listed:Array Bool) (xs:Nat→Value) (w:World),listed.size=ol.length→listed.toList.count true+fuel=ol.length →
  (∀ i,listed.getD i false=true→∀ j,(anc.getD i []).contains j=true→listed.getD j false=true) →
  (∀ i,i<ol.length→listed.getD i false=true→V i xs w)→G (fun i=>listed.getD i false) w →
  (∀ i d,listed.getD i false=false→(ol.toArray[i]?).bind (·.dst)=some d→xs i=l.getD d undef) →
  wpAny P .any ol.toArray Q fuel listed ⟨(Ad 0 l ds xs).toArray,df⟩ w:=by
  intro fuel;have full:∀(listed:Array Bool),listed.size=ol.length→listed.toList.count true=ol.length→∀ i,i<ol.length→listed.getD i false=true:=by
   intro listed hs hc i hi;have h1:∀ b∈listed.toList,true=b:=List.count_eq_length.1 (by rw[hc];simp[hs]);have h2:=h1 listed[i] (by simp);simp[Array.getD,hs,hi,←h2]
  have none_ready:∀(listed:Array Bool),listed.size=ol.length→listed.toList.count true<ol.length→Region.ready .any ol.toArray listed ≠ []:=by
   intro listed hs hc hr
   -- the least that is not listed
   have hex:∃ i,i<ol.length∧listed.getD i false=false:=by
    refine Classical.byContradiction fun hno => ?_
    have:listed.toList.count true=ol.length:=by
     rw[←hs,←Array.length_toList,List.count_eq_length];intro b hb;obtain⟨i,hi,rfl⟩:=List.getElem_of_mem hb;simp at hi;refine Classical.byContradiction fun hne=>hno ⟨i,by omega,?_⟩
     simp[Array.getD,hi]
     simpa using hne
    omega
   obtain⟨i,⟨hi,hli⟩,hmin⟩:=exists_least hex;have:i∈Region.ready .any ol.toArray listed:=by
    rw[mem_ready];refine⟨?_,ol[i],by simp[hi],fun e he hb => ?_⟩
    ·simp[Array.getD,hs,hi]at hli⊢;exact hli
    ·have h1:=(hanc i hi);simp only[List.getElem?_eq_getElem hi,Bool.and_eq_true,List.all_eq_true,decide_eq_true_eq]at h1;have h2:=h1.1 e.on (List.mem_map.2 ⟨e,List.mem_filter.2 ⟨by simpa using he,hb⟩,rfl⟩);cases hle:listed.getD e.on false with
     | true=>rfl
     | false=>have:=hmin e.on ⟨by omega,hle⟩;omega
   rw[hr]at this;cases this
  induction fuel with
  | zero =>
   intro listed xs w hs hc hcl hV hG _;have hf:=full listed hs (by omega);refine⟨?_,?_⟩
   ·refine List.eq_nil_iff_forall_not_mem.2 fun i hi => ?_
    obtain⟨h1,o,h2,-⟩:=mem_ready.1 hi;have hlt:i<ol.length:=by
     have:=(Array.getElem?_eq_some_iff.1 h2).1
     simpa using this
    have:=hf i hlt;simp[Array.getD,hs,hlt]at this h1;rw[this]at h1;cases h1
   ·exact hend xs w (fun i hi=>hV i hi (hf i hi)) ⟨_,hf,hG⟩
  | succ fuel ih =>
   intro listed xs w hs hc hcl hV hG hI;refine⟨fun hr=>absurd hr (none_ready listed hs (by omega)),fun i hi => ?_⟩;obtain⟨h1,o,h2,h3⟩:=mem_ready.1 hi;have hlt:i<ol.length:=by
    have:=(Array.getElem?_eq_some_iff.1 h2).1
    simpa using this
   have h2':ol[i]?=some o:=by simpa using h2
   have hun:listed.getD i false=false:=by simp[Array.getD,hs,hlt]at h1⊢;exact h1
   have hA:=hanc i hlt;rw[h2']at hA;simp only[Bool.and_eq_true,List.all_eq_true,decide_eq_true_eq,Bool.or_eq_true,List.any_eq_true]at hA;have dirL:∀ d∈direct o,listed.getD d false=true:=by
    intro d hd;obtain⟨e,he,rfl⟩:=List.mem_map.1 hd;obtain⟨he1,he2⟩:=List.mem_filter.1 he;exact h3 e (by simpa using he1) he2
   have ancL:∀ j,(anc.getD i []).contains j=true→listed.getD j false=true:=by
    intro j hj;rcases hA.2 j (by simpa using hj)with h|⟨d,hd,h⟩
    ·exact dirL j (by simpa using h)
    ·exact hcl d (dirL d hd) j h
   have ltL:∀ j,listed.getD j false=true→j<ol.length:=by
    intro j hj;refine Classical.byContradiction fun hge => ?_
    simp[Array.getD,show ¬ j<listed.size by omega]at hj
   have goal:=(hop i o h2').run (fun i=>listed.getD i false) xs w hG hun ancL (fun j hj=>by
    cases hc2:listed.getD j false with
    | false=>rfl
    | true=>have:=hcl j hc2 i hj;rw[hun]at this;cases this) (fun j hj=>hV j (ltL j (ancL j hj)) (ancL j hj)) (fun j d hj hd=>hI j d (by
    cases hc2:listed.getD j false with
    | false=>rfl
    | true=>have:=hcl j hc2 i hj;rw[hun]at this;cases this) hd)
   refine Fe h2 goal fun v w' hp => ?_
   obtain⟨hp1,hp2,hp3⟩:=hp;have hcount:(listed.setIfInBounds i true).toList.count true=listed.toList.count true+1:=by
    rw[Array.toList_setIfInBounds,List.count_set (by simp;omega)];have:listed.toList[i]'(by simp;omega)=false:=by
     simp[Array.getD,hs,hlt]at hun
     simpa using hun
    simp[this]
   have hput:(⟨(Ad 0 l ds xs).toArray,df⟩:Act).put o.dst v=⟨(Ad 0 l ds (upd xs i v)).toArray,df⟩:=by
    cases hd:o.dst with
    | none =>
     have hni:i∉ds.map (·.2):=by
      intro hmem;obtain⟨x,hx,rfl⟩:=List.mem_map.1 hmem;have:=(hd1 x hx).2;rw[h2']at this;simp[hd]at this
     have rest:∀(q:Nat) (l:List Value) (ds:List (Nat×Nat)),i∉ds.map (·.2)→Ad q l ds (upd xs i v)=Ad q l ds xs:=by
      intro q l
      induction l generalizing q with
      | nil=>intro ds _;simp[Ad]
      | cons u l ih2 =>
       intro ds hj;cases ds with
       | nil=>simp[Ad]
       | cons e ds =>
        obtain⟨e1,e2⟩:=e;simp only[Ad];simp at hj;have:upd xs i v e2=xs e2:=by unfold upd;rw[if_neg (fun h=>hj.1 h.symm)]
        rw[this,ih2 (q+1) ds (by simpa using hj.2),ih2 (q+1) ((e1,e2)::ds) (by simpa using hj)]
     rw[rest _ _ _ hni];rfl
    | some d =>
     have hmem:(d,i)∈ds:=by
      have:=hd2 i hlt;rw[h2']at this
      simpa [hd] using this
     have h5:=CG xs v l 0 ds d i ha (by simpa using hnd) hmem;simp only[Nat.sub_zero]at h5;rw[←h5];simp[Act.put]
   rw[hput];refine ih _ _ _ (by simpa using hs) (by rw[hcount];omega) ?_ ?_ (by
    have e:updL (fun i=>listed.getD i false) i=fun q=>(listed.setIfInBounds i true).getD q false:=by
     funext q
     unfold updL
     by_cases hqi:q=i
     ·subst hqi;rw[if_pos rfl,Array.getD_eq_getD_getElem?,Array.getElem?_setIfInBounds,if_pos rfl,if_pos (by omega)];rfl
     ·rw[if_neg hqi,getD_set_ne false (Ne.symm hqi)]
    rw[←e];exact hp2) (fun q d hq hd => ?_)
   rotate_right
   ·by_cases hqi:q=i
    ·subst hqi;rw[Array.getD_eq_getD_getElem?,Array.getElem?_setIfInBounds,if_pos rfl,if_pos (by omega)]at hq;simp at hq
    ·rw[getD_set_ne false (Ne.symm hqi)]at hq;rw[show upd xs i v q=xs q by simp[upd,hqi]];exact hI q d hq hd
   ·intro q hq j hj
    by_cases hqi:q=i
    ·subst hqi;exact getD_set_true (ancL j hj)
    ·rw[getD_set_ne false (Ne.symm hqi)]at hq;exact getD_set_true (hcl q hq j hj)
   ·intro q hq hl
    by_cases hqi:q=i
    ·subst hqi;exact hp1
    ·rw[getD_set_ne false (Ne.symm hqi)]at hl;refine hp3 q hq hqi ?_ (hV q hq hl);cases hc2:(anc.getD q []).contains i with
     | false=>rfl
     | true=>have:=hcl q hl i hc2;rw[hun]at this;cases this
 have init:=key ol.length (Array.replicate ol.length false) (fun i=>(((ol[i]?).bind (·.dst)).map (fun d=>l.getD d undef)).getD undef) w0 (by simp) (by simp[List.count_replicate]) (fun i hi=>by simp[Array.getD]at hi) (fun i _ hi=>by simp[Array.getD]at hi) (by
  have e:(fun i=>(Array.replicate ol.length false).getD i false)=fun _=>false:=by
   funext i
   simp[Array.getD]
  rw[e];exact h0) (fun i d _ hd=>by
  have hd':(ol[i]?).bind (·.dst)=some d:=by simpa using hd
  simp[hd'])
 have hsame:=CY (fun i=>(((ol[i]?).bind (·.dst)).map (fun d=>l.getD d undef)).getD undef) l 0 ds ha (fun x hx _=>by
  have:=(hd1 x hx).2;rw[this];simp)
 rw[hsame]at init
 simpa using init
def ObL (P:Program)(n:Nat)(ops:Array Oper)(l:List Value)(df:List Deferred)(ds:List (Nat×Nat))(anc:List (List Nat))(W:Nat→Value→(Nat→Value)→World→Prop)(G:(Nat→Bool)→World→Prop)(j:Nat)(o:Oper):Prop :=
 ∀ L xs w,G L w→L j=false→(∀ i,(anc.getD j []).contains i=true→L i=true)→(∀ i,(anc.getD i []).contains j=true→L i=false)→(∀ i,(anc.getD j []).contains i=true→W i (xs i) (mask anc i xs) w)→(∀ i d,(anc.getD i []).contains j=true→(ops[i]?).bind (·.dst)=some d→xs i=l.getD d undef) →
  OpGoal P ops o ⟨(Ad 0 l ds xs).toArray,df⟩ w (fun v w'=>W j v (mask anc j xs) w'∧G (updL L j) w'∧∀ i,i<n→i≠j→(anc.getD i []).contains j=false→∀ own ys,W i own ys w→W i own ys w')
def ObsL (P:Program)(n:Nat)(ops:Array Oper)(l:List Value)(df:List Deferred)(ds:List (Nat×Nat))(anc:List (List Nat))(W:Nat→Value→(Nat→Value)→World→Prop)(G:(Nat→Bool)→World→Prop):Nat→List Oper→Prop
 | _,[]=>True
 | j,o::os=>ObL P n ops l df ds anc W G j o∧ObsL P n ops l df ds anc W G (j+1) os
theorem ObsL.get {P:Program}{n:Nat}{ops:Array Oper}{l:List Value}{df:List Deferred}{ds:List (Nat×Nat)}{anc:List (List Nat)}{W:Nat→Value→(Nat→Value)→World→Prop}{G:(Nat→Bool)→World→Prop}:
 ∀ {os:List Oper} {p:Nat},ObsL P n ops l df ds anc W G p os→∀ j o,os[j]?=some o→ObL P n ops l df ds anc W G (p+j) o
 | [],_,_,j,o,h=>by simp at h
 | u::os,p,h,j,o,hj=>by
  cases j with
  | zero=>simp at hj;subst hj;exact h.1
  | succ j =>
   simp at hj;have:=h.2.get j o hj
   rwa [show p+1+j=p+(j+1) by omega]at this
theorem Kp {P:Program}{ol:List Oper}{Q:Exit→Act→World→Prop}{l:List Value}{df:List Deferred}{w0:World}
 (ds:List (Nat×Nat)) (anc:List (List Nat)) (W:Nat→Value→(Nat→Value)→World→Prop) (G:(Nat→Bool)→World→Prop)
 (hds:dsOk ol ds l.length=true) (hanc:IG ol anc=true) (hself:(List.range ol.length).all (fun i => !(anc.getD i []).contains i)=true) (h0:G (fun _=>false) w0)
 (hop:ObsL P ol.length ol.toArray l df ds anc W G 0 ol)
 (hend:∀ xs w',(∀ i,i<ol.length→W i (xs i) (mask anc i xs) w')→(∃ L,(∀ i,i<ol.length→L i=true)∧G L w')→Q .normal ⟨(Ad 0 l ds xs).toArray,df⟩ w') :
 wpAny P .any ol.toArray Q ol.length (Array.replicate ol.length false) ⟨l.toArray,df⟩ w0:=by
 refine OT ds anc (fun i xs w=>W i (xs i) (mask anc i xs) w) G hds hanc h0 (fun j o hj=>⟨fun L xs w hG hl ha hb hD hI => ?_⟩) hend;have h1:=hop.get j o hj;rw[Nat.zero_add]at h1;have hjl:j<ol.length:=(List.getElem?_eq_some_iff.1 hj).1;have hs:(anc.getD j []).contains j=false:=by
  simp only[List.all_eq_true,List.mem_range]at hself
  simpa using hself j hjl
 have h2:=h1 L xs w hG hl ha hb hD hI;intro Qo K hK hQo;refine h2 Qo K (fun v w' ⟨p1,p2,p3⟩=>hK v w' ⟨?_,p2,fun i hi hne hc hV => ?_⟩) hQo
 ·rw[Ej hs,show upd xs j v j=v by simp[upd]];exact p1
 ·rw[Ej hc,show upd xs j v i=xs i by simp[upd,hne]];exact p3 i hi hne hc _ _ hV
theorem Am {P:Program}{id:Nat}{ol:List Oper}{Q:Exit→Act→World→Prop}{l:List Value}{df:List Deferred}{w0:World}
 (hm:P.follows .mixedOrders=true) (ds:List (Nat×Nat)) (anc:List (List Nat)) (W:Nat→Value→(Nat→Value)→World→Prop) (G:(Nat→Bool)→World→Prop)
 (hds:dsOk ol ds l.length=true) (hanc:IG ol anc=true) (hself:(List.range ol.length).all (fun i => !(anc.getD i []).contains i)=true) (h0:G (fun _=>false) w0.drew)
 (hop:ObsL P ol.length ol.toArray l df ds anc W G 0 ol)
 (hend:∀ xs w',(∀ i,i<ol.length→W i (xs i) (mask anc i xs) w')→(∃ L,(∀ i,i<ol.length→L i=true)∧G L w')→Q .normal ⟨(Ad 0 l ds xs).toArray,df⟩ w') :
 (Code.region id ol.toArray true).wp P Q ⟨l.toArray,df⟩ w0:=by
 refine wp_region_any hm ?_;rw[List.size_toArray];exact Kp ds anc W G hds hanc hself h0 hop hend
/-! ### Within a round -/
def GJ (K:Act→World→Prop):Exit→Act→World→Prop
 | .normal,a,w=>K a w
 | _,_,_=>False
theorem Mi {n l:Nat}{P:Program}{row:String}{args:Array Value}{w:World}{R:Value→World→Prop}(h:Rows P row args w R):RowsIn (Fence.wide.inRound l) n P row args w R :=
 fun c cs _=>let⟨v,w',r,s⟩:=h c cs;⟨v,w',r,by rw[fenced_inRound];exact stepsIn_wide.2 s⟩
theorem Nr {P:Program}{o:Oper}{a:Act}{w:World}{K K0:Act→World→Prop}{Q:Exit→Act→World→Prop}(l n:Nat)(hnd:∀ c,o.op ≠ .defer c)(h:o.wp P a w K (GJ K0)):o.wpIn (Fence.wide.inRound l) n P a w K Q:=by
 refine⟨fun _ _=>trivial,?_⟩;rw[Oper.semAt_eq _ _ _ hnd];unfold Oper.wp at h;generalize (execOp a.eval o).run P w=r at *;have hl : ¬ LetsOut (GJ K0):=by rintro⟨_,_,h⟩;exact h
 cases r with
 | ok x w' =>
  cases x with
  | enter f args =>
   refine⟨fun hd=>by simp[Fence.wide]at hd,CallsIn.inRound l (callsIn_wide.2 (Calls.mono h fun e w'' he => ?_))⟩;cases e with
   | returned v=>exact he
   | panicked c=>exact he.elim
   | outgrown=>exact(hl he).elim
  | row row args=>exact⟨fun hd=>by simp[Fence.wide]at hd,Mi h⟩
  | _=>first|exact h|exact h.elim
 | halt x w' =>
  cases x <;> exact h.elim
theorem KL {P:Program}{ops:Array Oper}{Q:Exit→Act→World→Prop}(l n:Nat)(hnd:∀(i:Nat) (o:Oper),ops[i]?=some o→∀ c,o.op ≠ .defer c):
 ∀(fuel:Nat) (listed:Array Bool) (a:Act) (w:World),wpAny P .any ops (GJ (Q .normal)) fuel listed a w→wpAnyIn (Fence.wide.inRound l) n P .any ops Q fuel listed a w:=by
 intro fuel
 induction fuel with
 | zero=>intro listed a w h;exact h
 | succ fuel ih =>
  intro listed a w h;refine⟨h.1,fun i hi => ?_⟩;have h2:=h.2 i hi;unfold wpOp at h2;unfold wpOpIn;cases ho:ops[i]? with
  | none=>rw[ho]at h2;exact ih _ _ _ h2
  | some o =>
   rw[ho]at h2;simp only at h2⊢
   by_cases hw:Region.wanted o (yielded ops a.tmps)=true
   ·rw[if_pos hw]at h2⊢;rcases h2 with h2|⟨-,_,_,h3⟩
    ·exact Oper.wpIn_mono (fun a w=>ih _ a w) (Nr l n (hnd i o ho) h2)
    ·exact h3.elim
   ·rw[if_neg hw]at h2⊢;exact⟨fun _ _=>trivial,ih _ _ _ h2⟩
def Lb (ol:List Oper):Bool:=ol.all fun o=>match o.op with | .defer _=>false|_=>true
theorem L4 {ol:List Oper}(h:Lb ol=true)(i:Nat)(o:Oper)(hi:ol.toArray[i]?=some o):∀ c,o.op ≠ .defer c:=by
 intro c hc;unfold Lb at h;rw[List.all_eq_true]at h;have hm:o∈ol:=by
  have:ol[i]?=some o:=by simpa using hi
  exact List.mem_of_getElem? this
 have:=h o hm;rw[hc]at this;cases this
theorem Es {P:Program}{id rl rn:Nat}{ol:List Oper}{Q:Exit→Act→World→Prop}{l:List Value}{df:List Deferred}{w0:World}
 (hm:P.follows .mixedOrders=true) (hnd:Lb ol=true) (ds:List (Nat×Nat)) (anc:List (List Nat)) (W:Nat→Value→(Nat→Value)→World→Prop) (G:(Nat→Bool)→World→Prop)
 (hds:dsOk ol ds l.length=true) (hanc:IG ol anc=true) (hself:(List.range ol.length).all (fun i => !(anc.getD i []).contains i)=true) (h0:G (fun _=>false) w0.drew)
 (hop:ObsL P ol.length ol.toArray l df ds anc W G 0 ol)
 (hend:∀ xs w',(∀ i,i<ol.length→W i (xs i) (mask anc i xs) w')→(∃ L,(∀ i,i<ol.length→L i=true)∧G L w')→Q .normal ⟨(Ad 0 l ds xs).toArray,df⟩ w') :
 (Code.region id ol.toArray true).wpIn (Fence.wide.inRound rl) rn P Q ⟨l.toArray,df⟩ w0:=by
 refine wpIn_region_any hm ?_;rw[List.size_toArray];exact KL rl rn (L4 hnd) _ _ _ _ (Kp ds anc W G hds hanc hself h0 hop hend)
def mixI (xs ys:List Int)(k:Nat):List Int:=xs.take k++ys.drop k
theorem AO (xs ys:List Int):mixI xs ys 0=ys:=by simp[mixI]
theorem AE (xs ys:List Int)(k n:Nat)(h1:xs.length=n)(h2:ys.length=n):(mixI xs ys k).length=n:=by simp[mixI];omega
theorem AY (xs ys:List Int)(n:Nat)(h1:xs.length=n)(h2:ys.length=n):mixI xs ys n=xs:=by
 unfold mixI;rw[List.take_of_length_le (by omega),List.drop_of_length_le (by omega),List.append_nil]
theorem Bl (xs ys:List Int)(k n:Nat)(h1:xs.length=n)(h2:ys.length=n)(h:k<n):(mixI xs ys k).set k (nth xs k)=mixI xs ys (k+1):=by
 have hl:(xs.take k).length=k:=by simp;omega
 have hk':k<ys.length:=by omega
 have hk:k<xs.length:=by omega
 unfold mixI;rw[List.drop_eq_getElem_cons hk',List.set_append_right _ _ (by omega),hl,Nat.sub_self,List.set_cons_zero,List.take_succ_eq_append_getElem hk,Cc _ _ hk,List.append_assoc];rfl
theorem Ft {w:World}{b:Nat}{x y x' y':Value}{T:TypeId}(h:w.heap[b]?=some (.cells #[x,y] T (0,0))):((w.setCell ⟨b,0,none⟩ x').setCell ⟨b,1,none⟩ y').heap[b]?=some (.cells #[x',y'] T (0,0)):=by
 have h1:=heap_setCell_same w b 0 _ _ x' h;have h2:=heap_setCell_same _ b 1 _ _ y' h1
 simpa using h2
end Go.Proofs.YtijnbalgnhigbaaGreatDoor
