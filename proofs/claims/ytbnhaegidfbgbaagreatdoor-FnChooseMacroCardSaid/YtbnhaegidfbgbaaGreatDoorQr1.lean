/- Vocabulary for the walks of this seat: what a slice reads as, what a call owns. | The helper functions of the exact laws, over lists of integers, bytes and bools: copy, compare, mark, hold. | Contracts: RefreshSchedule. | A region whose operations may come in any order: what each operation does, said by invariants. | Bit operations of i64 numbers that are not negative. | The reader of drawn numbers: l20Open, pick, odd. | Drawing: the reader within regions; the draws of the first laws. | Drawing: odd, buffers. | Rows of the call's own, kept. | Pictures: plain words; the helpers of their exact laws. | A new picture of one value; the law's 'alive'. | PictureValid, both sides. | append(dst, src...) onto a row of the call's own, whatever the source. -/
import Derived.Test.YtbnhaegidfbgbaaGreatDoorRows
import Derived.WalkKit
import Derived.WalkSpells
import Derived.WalkLawsBesides
import Derived.Lib.Hide
import Derived.BigQuiet
import Derived.Deep.QuietTactic
import Derived.Deep.LoopGhost
import Derived.Deep.RegionHeld3
import Derived.Deep.RegionWith
import Derived.Laws.Bits64
import Derived.Deep.Cut
import Derived.RegionTactic
set_option linter.unusedVariables false
set_option linter.unusedSimpArgs false
set_option maxRecDepth 100000
set_option maxHeartbeats 4000000
namespace Go.Proofs.YtbnhaegidfbgbaaGreatDoor
open Go.RowKit
/-- The i-th number of a list, 0 past its end. -/
def nth (zs:List Int) (i:Nat):Int:=zs.getD i 0
def nthB (zs:List Bool) (i:Nat):Bool:=zs.getD i false
theorem nth_eq (zs:List Int) (i:Nat) (h:i<zs.length):nth zs i=zs[i]:=by simp[nth,h]
/-- The slice at address a of n one-cell elements reads as xs. -/
def Sl (w:World) (a:Option Addr) (n:Nat) (xs:List Value):Prop :=
 xs.length=n∧∀ i,i<n→∃ b off,a=some ⟨b,off,none⟩∧w.cell? ⟨b,off+i,none⟩=some (xs.getD i undef)
/-- What was there stays as it was. -/
abbrev Ext (w w' : World) : Prop := Below w.heap.size w w'
theorem Ext.trans {a b c:World} (h:Ext a b) (k:Ext b c):Ext a c:=Below.trans h (Below.mono k h.size)
theorem Ext.drewN (w:World) (n:Nat):Ext w (w.drewN n):=⟨rfl,rfl,rfl,Nat.le_refl _,fun _ _=>rfl⟩
theorem Ext.trans_drewN {a b:World} (h:Ext a b) (n:Nat):Ext a (b.drewN n):=Ext.trans h (Ext.drewN b n)
theorem Ext.grown {a w w':World} {row:Option Nat} (h:Ext a w) (hg:w.grownBy w' row) (hr:∀ k,row=some k→a.heap.size≤k):Ext a w' :=
 Below.grown h hg h.size hr
theorem Ext.alloc (w:World) (o:Obj):Ext w (w.alloc o):=Below.alloc (Below.refl _ _) (Nat.le_refl _) _
theorem cell_ext {w w':World} {a:Addr} {v:Value} (e:Ext w w') (h:w.cell? a=some v):w'.cell? a=some v:=by
 rw[Below.cell e (World.block_lt_of_cell? w _ h)];exact h
/-- A block known whole. -/
theorem Ext.blk {w w':World} {b:Nat} {o:Obj} (e:Ext w w') (h:w.heap[b]?=some o):w'.heap[b]?=some o:=by
 rw[e.block b (lt_of_block h)];exact h
theorem blk_alloc {w:World} {b:Nat} {o:Obj} (h:w.heap[b]?=some o) (x:Obj):(w.alloc x).heap[b]?=some o:=by
 rw[Below.heap_alloc _ _ _ (lt_of_block h)];exact h
theorem blk_new (w:World) (o:Obj):(w.alloc o).heap[w.heap.size]?=some o:=heap_alloc_new w o
theorem blk_drewN {w:World} {b:Nat} {o:Obj} (h:w.heap[b]?=some o) (n:Nat):(w.drewN n).heap[b]?=some o:=h
theorem blk_set3 {w:World} {b:Nat} {x y z x' y' z':Value} {T:TypeId} (h:w.heap[b]?=some (.cells #[x,y,z] T (0,0))):(((w.setCell ⟨b,0,none⟩ x').setCell ⟨b,1,none⟩ y').setCell ⟨b,2,none⟩ z').heap[b]?=some (.cells #[x',y',z'] T (0,0)):=by
 have h1:=heap_setCell_same w b 0 _ _ x' h;have h2:=heap_setCell_same _ b 1 _ _ y' h1;have h3:=heap_setCell_same _ b 2 _ _ z' h2
 simpa using h3
theorem blk_set_other {w:World} {b c i:Nat} {v:Value} {o:Obj} (h:w.heap[b]?=some o) (hne:b≠c):(w.setCell ⟨c,i,none⟩ v).heap[b]?=some o:=by
 rw[Below.heap_setCell _ _ _ _ hne];exact h
theorem bx1 {w:World} {b:Nat} {x:Value} {T:TypeId} (h:w.heap[b]?=some (.cells #[x] T (0,0))):b<w.heap.size∧w.cell? ⟨b,0,none⟩=some x∧w.frozen? ⟨b,0,none⟩=false :=
 ⟨lt_of_block h,by simp[World.cell?,h],by simp[World.frozen?,h]⟩
theorem bx2 {w:World} {b:Nat} {x y:Value} {T:TypeId} (h:w.heap[b]?=some (.cells #[x,y] T (0,0))):b<w.heap.size∧w.cell? ⟨b,0,none⟩=some x∧w.cell? ⟨b,1,none⟩=some y∧w.frozen? ⟨b,0,none⟩=false∧w.frozen? ⟨b,1,none⟩=false :=
 ⟨lt_of_block h,by simp[World.cell?,h],by simp[World.cell?,h],by simp[World.frozen?,h],by simp[World.frozen?,h]⟩
theorem bx3 {w:World} {b:Nat} {x y z:Value} {T:TypeId} (h:w.heap[b]?=some (.cells #[x,y,z] T (0,0))):b<w.heap.size∧w.cell? ⟨b,0,none⟩=some x∧w.cell? ⟨b,1,none⟩=some y∧w.cell? ⟨b,2,none⟩=some z∧w.frozen? ⟨b,0,none⟩=false∧w.frozen? ⟨b,1,none⟩=false∧w.frozen? ⟨b,2,none⟩=false :=
 ⟨lt_of_block h,by simp[World.cell?,h],by simp[World.cell?,h],by simp[World.cell?,h],by simp[World.frozen?,h],by simp[World.frozen?,h],by simp[World.frozen?,h]⟩
theorem Sl.len {w:World} {a:Option Addr} {n:Nat} {xs:List Value} (h:Sl w a n xs):xs.length=n:=h.1
theorem Sl.ext {w w':World} {a:Option Addr} {n:Nat} {xs:List Value} (h:Sl w a n xs) (e:Ext w w'):Sl w' a n xs:=by
 refine⟨h.1,fun i hi => ?_⟩;obtain⟨b,off,ha,hc⟩:=h.2 i hi;exact⟨b,off,ha,by rw[Below.cell e (World.block_lt_of_cell? w _ hc)];exact hc⟩
theorem Sl.drewN {w:World} {a:Option Addr} {n:Nat} {xs:List Value} (h:Sl w a n xs) (m:Nat):Sl (w.drewN m) a n xs:=h
theorem Sl.grown {w w':World} {a:Option Addr} {n:Nat} {xs:List Value} {row:Option Nat} (h:Sl w a n xs) (hg:w.grownBy w' row) (hr:∀ x,a=some x→some x.block≠row):Sl w' a n xs:=by
 refine⟨h.1,fun i hi => ?_⟩;obtain⟨b,off,ha,hc⟩:=h.2 i hi;exact⟨b,off,ha,hg.cell hc (hr ⟨b,off,none⟩ ha)⟩
theorem Sl.nil (w:World) (a:Option Addr):Sl w a 0 []:=⟨rfl,fun i hi=>by omega⟩
theorem Sl.int {k:IntKind} {w:World} {a:Option Addr} {n:Nat} {zs:List Int} (h:Sl w a n (zs.map (Value.int k))) {i:Nat} (hi:i<n) :
 ∃ b off,a=some ⟨b,off,none⟩∧w.cell? ⟨b,off+i,none⟩=some (.int k (nth zs i)):=by
 obtain⟨b,off,ha,hc⟩:=h.2 i hi;have hl:i<zs.length:=by have:=h.1;simp at this;omega
 refine⟨b,off,ha,?_⟩;rw[hc];simp[nth,hl]
theorem Sl.bool {w:World} {a:Option Addr} {n:Nat} {zs:List Bool} (h:Sl w a n (zs.map Value.bool)) {i:Nat} (hi:i<n) :
 ∃ b off,a=some ⟨b,off,none⟩∧w.cell? ⟨b,off+i,none⟩=some (.bool (nthB zs i)):=by
 obtain⟨b,off,ha,hc⟩:=h.2 i hi;have hl:i<zs.length:=by have:=h.1;simp at this;omega
 refine⟨b,off,ha,?_⟩;rw[hc];simp[nthB,hl]
theorem Sl.int_len {k:IntKind} {w:World} {a:Option Addr} {n:Nat} {zs:List Int} (h:Sl w a n (zs.map (Value.int k))):zs.length=n:=by
 have:=h.1;simpa using this
/-- An owned row reads as what is owned. -/
theorem Sl.of_owns {w:World} {base e n:Nat} {a:Option Addr} {cap:Nat} {xs:List Value} (h:w.ownsRow base e 1 (.slice a n cap) n xs):Sl w a n xs:=by
 refine⟨by have:=h.1;omega,fun i hi => ?_⟩;rcases h.2 with⟨_,h0⟩|⟨g,c,cur,hv,_⟩
 ·omega
 ·simp only[Value.slice.injEq]at hv;obtain⟨rfl,_,rfl⟩:=hv;refine⟨g,0,rfl,?_⟩;have hl:i<xs.length:=by have:=h.1;omega
  rw[Nat.zero_add,h.cellAt i (by omega)];simp[hl]
theorem ext_nth {xs ys:List Int} (hl:xs.length=ys.length) (h:∀ i,i<xs.length→nth xs i=nth ys i):xs=ys:=by
 apply List.ext_getElem hl;intro i h1 h2;have:=h i h1;rw[nth_eq _ _ h1,nth_eq _ _ h2]at this;exact this
theorem take_snoc_nth (zs:List Int) (k:Nat) (h:k<zs.length):zs.take (k+1)=zs.take k ++ [nth zs k]:=by
 rw[List.take_succ_eq_append_getElem h,nth_eq _ _ h]
theorem ret_bool {a b:Bool} (h:a=b):Ending.returned (.bool a) = .returned (.bool b):=by rw[h]
theorem ret_int {k:IntKind} {a b:Int} (h:a=b):Ending.returned (.int k a) = .returned (.int k b):=by rw[h]
/-- The first k of xs, behind them what ys has. -/
def mix (xs ys:List Value) (k:Nat):List Value:=xs.take k++ys.drop k
theorem mix_zero (xs ys:List Value):mix xs ys 0=ys:=by simp[mix]
theorem mix_all (xs ys:List Value) (k:Nat) (h1:xs.length=k) (h2:ys.length=k):mix xs ys k=xs:=by
 unfold mix;rw[List.take_of_length_le (by omega),List.drop_of_length_le (by omega),List.append_nil]
theorem mix_set (xs ys:List Value) (k:Nat) (h:xs.length=ys.length) (hk:k<xs.length) (u:Value) (hu:xs.getD k undef=u):(mix xs ys k).set k u=mix xs ys (k+1):=by
 subst hu;have hl:(xs.take k).length=k:=by simp;omega
 have hk':k<ys.length:=by omega
 unfold mix;rw[List.drop_eq_getElem_cons hk',List.set_append_right _ _ (by omega),hl,Nat.sub_self,List.set_cons_zero,List.take_succ_eq_append_getElem hk,List.append_assoc];simp[hk]
theorem getD_map_int (k:IntKind) (zs:List Int) (i:Nat) (h:i<zs.length):(zs.map (Value.int k)).getD i undef= .int k (nth zs i):=by simp[nth,h]
/-- A row of which n elements are owned is a slice of length n. -/
theorem owns_form {w:World} {base e size:Nat} {v:Value} {n:Nat} {xs:List Value} (h:w.ownsRow base e size v n xs):∃ a cap,v= .slice a n cap:=by
 rcases h.2 with⟨rfl,rfl⟩|⟨g,c,cur,rfl,_⟩
 ·exact⟨none,0,rfl⟩
 ·exact⟨_,_,rfl⟩
theorem owns_get {w:World} {base e g n cap:Nat} {xs:List Value} (h:w.ownsRow base e 1 (.slice (some ⟨g,0,none⟩) n cap) n xs) {j:Nat} (hj:j<n):∃ u,w.cell? ⟨g,j,none⟩=some u∧xs[j]?=some u:=by
 have hl:j<xs.length:=by have:=h.1;omega
 exact⟨xs[j],by rw[h.cellAt j (by omega)];simp[hl],by simp[hl]⟩
theorem owns_mono {w:World} {base base' e size:Nat} {v:Value} {n:Nat} {xs:List Value} (h:w.ownsRow base e size v n xs) (hb:base'≤base):w.ownsRow base' e size v n xs:=by
 obtain⟨h1,h2⟩:=h;refine⟨h1,?_⟩;rcases h2 with h2|⟨g,cap,cur,hv,hg,r⟩
 ·exact .inl h2
 ·exact .inr ⟨g,cap,cur,hv,by omega,r⟩
theorem owns_ext {w w':World} {base e size:Nat} {v:Value} {n:Nat} {xs:List Value} (h:w.ownsRow base e size v n xs) (x:Ext w w'):w'.ownsRow base e size v n xs:=by
 obtain⟨h1,h2⟩:=h;refine⟨h1,?_⟩;rcases h2 with h2|⟨g,cap,cur,hv,hg,r1,r2⟩
 ·exact .inl h2
 ·exact .inr ⟨g,cap,cur,hv,hg,x.blk r1,r2⟩
theorem grownBy_trans {a b c:World} {row:Option Nat} (h:a.grownBy b row) (k:b.grownBy c row):a.grownBy c row :=
 ⟨k.os.trans h.os,k.tape.trans h.tape,k.output.trans h.output,Nat.le_trans h.size k.size,fun i hi hne=>(k.block i (Nat.lt_of_lt_of_le hi h.size) hne).trans (h.block i hi hne)⟩
theorem owns_ge {w:World} {base e size:Nat} {v:Value} {n:Nat} {xs:List Value} (h:w.ownsRow base e size v n xs):∀ k,v.ownBlock=some k→base≤k:=fun k hk=>(h.lt k hk).1
theorem owns_cap {w:World} {base e size n cap:Nat} {a:Option Addr} {xs:List Value} (h:w.ownsRow base e size (.slice a n cap) n xs):n≤cap∧cap≤maxLen:=by
 rcases h.2 with⟨h1,h2⟩|⟨g,c,cur,hv,_,_,h1,h2,_⟩
 ·simp at h1;obtain⟨-,rfl,rfl⟩:=h1;exact⟨Nat.le_refl _,by simp⟩
 ·simp at hv;obtain⟨-,rfl⟩:=hv;exact⟨h1,h2⟩
/-- make([]T, n), T of one cell: n zeros are owned. -/
theorem wpList_mk {P:Program} (w:World) {ops:Array Oper} {rest:List Oper} {o:Oper} {a:Act} {Q:Exit→Act→World→Prop}
 (hg:o.guard=none) (l c:Operand) (t:TypeId) (hop:o.op=Op.makeSlice t l c)
 (e:TypeId) (z:Value) (bytes:Nat) (h1:P.underlying t=some (.slice e)) (h2:(P.info? e).map (fun i=>(i.zero,i.size,i.bytes))=some (some z,1,bytes)) (hz1:z.cells = #[z])
 (L:Int) (n:Nat) (hl:a.eval l= .int .i64 L) (hc:a.eval c= .int .i64 L) (hL:L=(n:Int)) (b2:n*bytes≤281474976710656) (b3:n<2^62)
 (hK:∀ w',w'.ownsRow w.heap.size e 1 (.slice (some ⟨w.heap.size,0,none⟩) n n) n (List.replicate n z)→w.grownBy w' none→wpList P ops Q rest (a.put o.dst (.slice (some ⟨w.heap.size,0,none⟩) n n)) w') :
 wpList P ops Q (o::rest) a w:=by
 obtain⟨i0,hi,hz0,hz1',hz2⟩:=info_parts h2;refine wpList_make_full w hg l c t hop w.heap.size e i0 z 1 h1 hi hz0 hz1' .i64 .i64 L L n hl hc hL hL ?_ ?_ (Nat.le_refl _) ?_
 ·rw[hz2,Nat.mul_comm];exact b2
 ·unfold maxLen;omega
 ·intro w' h3 h4;refine hK w' ?_ h4;rw[Nat.mul_one,hz1,toList_madeCells_one]at h3;exact h3
/-- make([]T, 0, n): an owned row without elements. -/
theorem wpList_mk0 {P:Program} (w:World) {ops:Array Oper} {rest:List Oper} {o:Oper} {a:Act} {Q:Exit→Act→World→Prop}
 (hg:o.guard=none) (l c:Operand) (t:TypeId) (hop:o.op=Op.makeSlice t l c)
 (e:TypeId) (z:Value) (bytes:Nat) (h1:P.underlying t=some (.slice e)) (h2:(P.info? e).map (fun i=>(i.zero,i.size,i.bytes))=some (some z,1,bytes))
 (L:Int) (n:Nat) (hl:a.eval l= .int .i64 0) (hc:a.eval c= .int .i64 L) (hL:L=(n:Int)) (b2:n*bytes≤281474976710656) (b3:n<2^62)
 (hK:∀ w' v,w'.ownsRow w.heap.size e 1 v 0 []→w.grownBy w' none→wpList P ops Q rest (a.put o.dst v) w') :
 wpList P ops Q (o::rest) a w:=by
 obtain⟨i0,hi,hz0,hz1',hz2⟩:=info_parts h2;refine wpList_make_own w hg l c t hop w.heap.size e i0 z 1 h1 hi hz0 hz1' .i64 .i64 L n hl hc hL ?_ ?_ (Nat.le_refl _) ?_
 ·rw[hz2,Nat.mul_comm];exact b2
 ·unfold maxLen;omega
 ·intro w' h3 h4;exact hK w' _ h3 h4
/-- append(s, x), x one new value of one cell in the block just laid. -/
theorem wpList_app {P:Program} (wr:World) {ops:Array Oper} {rest:List Oper} {o:Oper} {a:Act} {Q:Exit→Act→World→Prop} {base e:Nat} {v:Value} {n:Nat} {xs:List Value}
 (hown:wr.ownsRow base e 1 v n xs) (hbase:base≤wr.heap.size) (u:Value)
 (hg:o.guard=none) (s x:Operand) (t:TypeId) (ho:o.op= .call { callee := .builtin .append,args := #[s,x],argTypes := #[t,t] })
 (z:Value) (bytes:Nat) (h1:P.underlying t=some (.slice e)) (h2:(P.info? e).map (fun i=>(i.zero,i.size,i.bytes))=some (some z,1,bytes)) (hz1:z.cells.size=1)
 (hs:a.eval s=v) (hx:a.eval x= .slice (some ⟨wr.heap.size,0,none⟩) 1 1) (hu1:u.oneCell'=true)
 (hb:(n+1)*bytes≤140737488355328) (hn:n<2^62)
 (h:∀ v' w',w'.ownsRow base e 1 v' (n+1) (xs ++ [u])→wr.grownBy w' v.ownBlock→v' ≠ .slice none 0 0→wpList P ops Q rest (a.put o.dst v') w'):wpList P ops Q (o::rest) a (wr.alloc (.cells #[u] e)):=by
 obtain⟨i0,hi,hz0,hz1',hz2⟩:=info_parts h2;refine wpList_append_own _ hg s x t ho base e i0 z 1 bytes h1 hi hz0 hz1' hz2 hz1 (by decide) v n xs hs (hown.alloc _) ⟨wr.heap.size,0,none⟩ 1 1 [u] hx rfl ?_ ?_ ?_ hb ?_ ?_
 ·intro j q hq
  match j,hq with
  | 0,hq =>
   simp at hq;subst hq;simp[Addr.add,World.cell?_alloc_at]
 ·intro q hq;simp at hq;subst hq;exact hu1
 ·unfold maxLen;omega
 ·simp;omega
 ·intro v' w' a1 a2 a3;exact h v' w' a1 (grownBy_trans (World.grownBy_alloc _ _ _) a2) (fun hv=>by have:=a3.1 hv;omega)
theorem info_int : (Tryz.prog.info? 3).map (fun i=>(i.zero,i.size,i.bytes))=some (some (.int .i64 0),1,8):=by kernel_rfl
/-- The numbers from k on. -/
def marks (k:Int) (n:Nat):List Int:=(List.range n).map fun(i:Nat)=>k+(i:Int)
theorem l1In_yes (n lo hi:Int) (w:World) (h1:lo≤n) (h2:n≤hi) :
 Calls Tryz.prog 56 #[.int .i64 n,.int .i64 lo,.int .i64 hi] w fun e w'=>e= .returned (.bool true)∧w=w':=by
 go_enter Tryz.func56,Tryz.ntmps56
 go_wp2;go_ret
 exact⟨by simp,rfl⟩
theorem l1In_no (n lo hi:Int) (w:World) (h1:n<lo∨hi<n) :
 Calls Tryz.prog 56 #[.int .i64 n,.int .i64 lo,.int .i64 hi] w fun e w'=>e= .returned (.bool false)∧w=w':=by
 by_cases h:lo≤n
 ·have h2 : ¬ n≤hi:=by omega
  go_enter Tryz.func56,Tryz.ntmps56
  go_wp2;go_ret
  exact⟨by simp,rfl⟩
 ·go_enter Tryz.func56,Tryz.ntmps56
  go_wp2;go_ret
  exact⟨rfl,rfl⟩
/-- What the texts of regions say again and again. -/
theorem kkp {A:Sort _} {B:A→Sort _} {C:∀ a,B a→Sort _} {D:∀ a b,C a b→Sort _} {E:∀ a b c,D a b c→Sort _} {F:∀ a b c d,E a b c d→Sort _} {p:∀ a b c d e,F a b c d e→Prop} : ∀ a b c d e f,p a b c d e f→p a b c d e f:=fun _ _ _ _ _ _ h=>h
theorem ddq {A:Sort _} {a b:A} (h:a=b):a=b:=h
/-- Values that stay as they are said to be where E leads from one world to the next. -/
def Stab (E:World→World→Prop) (V:Nat→Value→(Nat→Value)→World→Prop):Prop :=
 ∀(i:Nat) (own:Value) (ys:Nat→Value) (wa wb:World),E wa wb→V i own ys wa→V i own ys wb
/-- The same for a store: all values but that of operation i and of those behind it. -/
def Stbn (n i:Nat) (anc:List (List Nat)) (V:Nat→Value→(Nat→Value)→World→Prop) (wx wy:World):Prop :=
 ∀(ii:Nat),ii<n→ii≠i→(anc.getD ii []).contains i=false→∀(own:Value) (ys:Nat→Value),V ii own ys wx→V ii own ys wy
/-- The frame of a region: slot d holds xs i for each (d, i) of ds (ds ascends). -/
def patchS : Nat→List Value→List (Nat×Nat)→(Nat→Value)→List Value
 | _,[],_,_ => []
 | _,v::l,[],_=>v::l
 | p,v::l,(d,i)::ds,xs=>if p=d then xs i::patchS (p+1) l ds xs else v::patchS (p+1) l ((d,i)::ds) xs
def upd (xs:Nat→Value) (j:Nat) (v:Value):Nat→Value:=fun i=>if i=j then v else xs i
def ascends : Nat→List (Nat×Nat)→Bool
 | _,[]=>true
 | p,(d,_)::ds=>decide (p≤d) && ascends (d+1) ds
theorem ascends_ge {p:Nat} : ∀ {ds:List (Nat×Nat)},ascends p ds=true→∀ x∈ds,p≤x.1
 | [],_,x,hx=>by cases hx
 | (d,i)::ds,ha,x,hx=>by
  simp[ascends]at ha;rcases List.mem_cons.1 hx with rfl|hx
  ·exact ha.1
  ·have:=ascends_ge ha.2 x hx;omega
theorem patchS_same (xs:Nat→Value):∀(l:List Value) (p:Nat) (ds:List (Nat×Nat)),ascends p ds=true →
 (∀ x∈ds,x.1<p+l.length→xs x.2=l.getD (x.1-p) undef)→patchS p l ds xs=l
 | [],p,ds,_,_=>by simp[patchS]
 | v::l,p,[],_,_=>by simp[patchS]
 | v::l,p,(d,i)::ds,ha,h=>by
  simp[ascends]at ha;simp only[patchS]
  by_cases hp:p=d
  ·subst hp;rw[if_pos rfl];have h1:=h (p,i) (by simp) (by simp);simp at h1;rw[h1,patchS_same xs l (p+1) ds ha.2 (fun x hx hlt=>by
    have h2:=h x (by simp[hx]) (by simp;omega);have h3:=ascends_ge ha.2 x hx;rw[h2,show x.1-p=(x.1-(p+1))+1 by omega];simp)]
  ·rw[if_neg hp,patchS_same xs l (p+1) ((d,i)::ds) (by simp[ascends];exact⟨by omega,ha.2⟩) (fun x hx hlt=>by
    have h2:=h x hx (by simp;omega);have h3:p+1≤x.1:=by
     rcases List.mem_cons.1 hx with rfl|hx
     ·show p+1≤d;omega
     ·have:=ascends_ge ha.2 x hx;omega
    rw[h2,show x.1-p=(x.1-(p+1))+1 by omega];simp)]
theorem patchS_set (xs:Nat→Value) (v:Value):∀(l:List Value) (p:Nat) (ds:List (Nat×Nat)) (d j:Nat),ascends p ds=true→(ds.map (·.2)).Nodup→(d,j)∈ds →
 (patchS p l ds xs).set (d-p) v=patchS p l ds (upd xs j v)
 | [],p,ds,d,j,_,_,_=>by simp[patchS]
 | u::l,p,[],d,j,_,_,hm=>by cases hm
 | u::l,p,(e,i)::ds,d,j,ha,hn,hm=>by
  have ha':=ha;simp[ascends]at ha;simp only[List.map_cons,List.nodup_cons]at hn;have rest:∀(q:Nat) (l:List Value) (ds:List (Nat×Nat)),j∉ds.map (·.2)→patchS q l ds (upd xs j v)=patchS q l ds xs:=by
   intro q l
   induction l generalizing q with
   | nil=>intro ds _;simp[patchS]
   | cons u l ih =>
    intro ds hj;cases ds with
    | nil=>simp[patchS]
    | cons e ds =>
     obtain⟨e1,e2⟩:=e;simp only[patchS];simp at hj;have:upd xs j v e2=xs e2:=by unfold upd;rw[if_neg (fun h=>hj.1 h.symm)]
     rw[this,ih (q+1) ds (by simpa using hj.2),ih (q+1) ((e1,e2)::ds) (by simpa using hj)]
  simp only[patchS];rcases List.mem_cons.1 hm with he|hm2
  ·simp only[Prod.mk.injEq]at he;obtain⟨rfl,rfl⟩:=he
   by_cases hp:p=d
   ·subst hp;rw[if_pos rfl,if_pos rfl,Nat.sub_self,List.set_cons_zero,rest _ _ _ hn.1];simp[upd]
   ·rw[if_neg hp,if_neg hp,show d-p=(d-(p+1))+1 by omega,List.set_cons_succ,
     patchS_set xs v l (p+1) ((d,j)::ds) d j (by simp[ascends];exact⟨by omega,ha.2⟩) (by simp[hn.2];simpa using hn.1) (by simp)]
  ·have hge:=ascends_ge ha.2 _ hm2;have hji:j≠i:=fun h=>hn.1 (h▸List.mem_map.2 ⟨(d,j),hm2,rfl⟩)
   by_cases hp:p=e
   ·subst hp;simp only at hge;rw[if_pos rfl,if_pos rfl,show d-p=(d-(p+1))+1 by omega,List.set_cons_succ,patchS_set xs v l (p+1) ds d j ha.2 hn.2 hm2];have:upd xs j v i=xs i:=by unfold upd;rw[if_neg (Ne.symm hji)]
    rw[this]
   ·simp only at hge;rw[if_neg hp,if_neg hp,show d-p=(d-(p+1))+1 by omega,List.set_cons_succ,
     patchS_set xs v l (p+1) ((e,i)::ds) d j (by simp[ascends];exact⟨by omega,ha.2⟩) (by simp[hn.2];simpa using hn.1) (by simp[hm2])]
/-- One operation, run from the frame act: whatever comes next holds behind it. -/
def OpGoal (P:Program) (ops:Array Oper) (o:Oper) (act:Act) (w:World) (Post:Value→World→Prop):Prop :=
 ∀(Qo:Exit→Act→World→Prop) (K:Value→World→Prop),Hid (∀ v w',Post v w'→K v w')→(∀ v w',K v w'→Qo .normal (act.put o.dst v) w')→wpList P ops Qo [o] act w
theorem OpGoal.plain {P:Program} {ops:Array Oper} {o:Oper} {act:Act} {w:World} {Post:Value→World→Prop} (h:OpGoal P ops o act w Post) (Qo:Exit→Act→World→Prop) (hQ:∀ v w',Post v w'→Qo .normal (act.put o.dst v) w'):wpList P ops Qo [o] act w :=
 h Qo Post (fun _ _ hp=>hp) hQ
theorem wp_then {P:Program} {o:Oper} {a:Act} {w:World} {K K':Act→World→Prop} {Q:Exit→Act→World→Prop} (h:o.wp P a w K (Exit.then K' Q)):o.wp P a w K Q:=by
 unfold Oper.wp at *;generalize (execOp a.eval o).run P w=r at *;cases r with
 | ok n w'=>cases n <;> exact h
 | halt x w'=>cases x <;> exact h
theorem wpOp_of_goal {P:Program} {ops:Array Oper} {Q:Exit→Act→World→Prop} {i:Nat} {o:Oper} {a:Act} {w:World} {K:Act→World→Prop} {Post:Value→World→Prop} (hi:ops[i]?=some o)
 (h:OpGoal P ops o a w Post) (hK:∀ v w',Post v w'→K (a.put o.dst v) w'):wpOp P ops Q i K a w:=by
 have h1:=h.plain (Exit.then K Q) (fun v w' hp=>hK v w' hp);unfold wpOp;simp only[hi];unfold wpList at h1
 by_cases hw:Region.wanted o (yielded ops a.tmps)=true
 ·rw[if_pos hw]at h1⊢;rcases h1 with h1|⟨h2,h3⟩
  ·exact .inl (wp_then h1)
  ·exact .inr ⟨h2,h3⟩
 ·rw[if_neg hw]at h1⊢;exact h1
/-- ds lists the slots that the operations write. -/
def dsOk (ol:List Oper) (ds:List (Nat×Nat)) (n:Nat):Bool :=
 ascends 0 ds && ds.all (fun x=>decide (x.1<n) && ((ol[x.2]?).bind (·.dst) == some x.1)) && (ds.map (·.2)).Nodup &&
 (List.range ol.length).all (fun i=>match (ol[i]?).bind (·.dst)with|some d=>ds.contains (d,i)|none=>true)
def direct (o:Oper):List Nat:=(o.after.toList.filter (Region.binds .any)).map (·.on)
/-- anc lists, of each operation, some that come before it in every order; every edge leads back. -/
def ancOk (ol:List Oper) (anc:List (List Nat)):Bool :=
 anc.length == ol.length && (List.range ol.length).all fun i=>match ol[i]? with
  | none=>true
  | some o=>(direct o).all (fun j=>decide (j<i)) && (anc.getD i []).all fun j=>(direct o).contains j || (direct o).any fun d=>(anc.getD d []).contains j
/-- What every operation must do. -/
structure ObOk (P : Program) (ol : List Oper) (l : List Value) (df : List Deferred) (ds : List (Nat × Nat)) (anc : List (List Nat)) (V : Nat → (Nat → Value) → World → Prop) (G : Nat → World → Prop) (j : Nat) (o : Oper) : Prop where
 run:∀ k xs w,k<ol.length→G k w→(∀ i,(anc.getD j []).contains i=true→V i xs w)→(∀ i d,(anc.getD i []).contains j=true→(ol.toArray[i]?).bind (·.dst)=some d→xs i=l.getD d undef) →
  OpGoal P ol.toArray o ⟨(patchS 0 l ds xs).toArray,df⟩ w (fun v w'=>V j (upd xs j v) w'∧G (k+1) w'∧∀ i,i<ol.length→i≠j→(anc.getD i []).contains j=false→V i xs w→V i (upd xs j v) w')
theorem wp_region_inv {P:Program} {id:Nat} {ol:List Oper} {Q:Exit→Act→World→Prop} {l:List Value} {df:List Deferred} {w0:World}
 (hm:P.follows .mixedOrders=true) (ds:List (Nat×Nat)) (anc:List (List Nat)) (V:Nat→(Nat→Value)→World→Prop) (G:Nat→World→Prop)
 (hds:dsOk ol ds l.length=true) (hanc:ancOk ol anc=true) (h0:G 0 w0.drew)
 (hop:∀ j o,ol[j]?=some o→ObOk P ol l df ds anc V G j o)
 (hend:∀ xs w',(∀ i,i<ol.length→V i xs w')→G ol.length w'→Q .normal ⟨(patchS 0 l ds xs).toArray,df⟩ w') :
 (Code.region id ol.toArray true).wp P Q ⟨l.toArray,df⟩ w0:=by
 simp only[dsOk,Bool.and_eq_true,List.all_eq_true,decide_eq_true_eq,beq_iff_eq,List.mem_range]at hds;obtain⟨⟨⟨ha,hd1⟩,hnd⟩,hd2⟩:=hds;simp only[ancOk,Bool.and_eq_true,List.all_eq_true,beq_iff_eq,List.mem_range]at hanc;obtain⟨hal,hanc⟩:=hanc
 -- the states that are met
 have key:∀(fuel:Nat) (listed:Array Bool) (xs:Nat→Value) (w:World),listed.size=ol.length→listed.toList.count true+fuel=ol.length →
  (∀ i,listed.getD i false=true→∀ j,(anc.getD i []).contains j=true→listed.getD j false=true) →
  (∀ i,i<ol.length→listed.getD i false=true→V i xs w)→G (listed.toList.count true) w →
  (∀ i d,listed.getD i false=false→(ol.toArray[i]?).bind (·.dst)=some d→xs i=l.getD d undef) →
  wpAny P .any ol.toArray Q fuel listed ⟨(patchS 0 l ds xs).toArray,df⟩ w:=by
  intro fuel;have full:∀(listed:Array Bool),listed.size=ol.length→listed.toList.count true=ol.length→∀ i,i<ol.length→listed.getD i false=true:=by
   intro listed hs hc i hi;have h1:∀ b∈listed.toList,true=b:=List.count_eq_length.1 (by rw[hc];simp[hs]);have h2:=h1 listed[i] (by simp);simp[Array.getD,hs,hi,←h2]
  have none_ready:∀(listed:Array Bool),listed.size=ol.length→listed.toList.count true<ol.length→Region.ready .any ol.toArray listed ≠ []:=by
   intro listed hs hc hr
   -- the least that is not listed
   have hex:∃ i,i<ol.length∧listed.getD i false=false:=by
    refine Classical.byContradiction fun hno => ?_
    have:listed.toList.count true=ol.length:=by
     rw[←hs,←Array.length_toList,List.count_eq_length];intro b hb;obtain⟨i,hi,rfl⟩:=List.getElem_of_mem hb;simp at hi;refine Classical.byContradiction fun hne=>hno ⟨i,by omega,?_⟩
     simp[Array.getD,hi]
     simpa using hne
    omega
   obtain⟨i,⟨hi,hli⟩,hmin⟩:=exists_least hex;have:i∈Region.ready .any ol.toArray listed:=by
    rw[mem_ready];refine⟨?_,ol[i],by simp[hi],fun e he hb => ?_⟩
    ·simp[Array.getD,hs,hi]at hli⊢;exact hli
    ·have h1:=(hanc i hi);simp only[List.getElem?_eq_getElem hi,Bool.and_eq_true,List.all_eq_true,decide_eq_true_eq]at h1;have h2:=h1.1 e.on (List.mem_map.2 ⟨e,List.mem_filter.2 ⟨by simpa using he,hb⟩,rfl⟩);cases hle:listed.getD e.on false with
     | true=>rfl
     | false=>have:=hmin e.on ⟨by omega,hle⟩;omega
   rw[hr]at this;cases this
  induction fuel with
  | zero =>
   intro listed xs w hs hc hcl hV hG _;have hf:=full listed hs (by omega);refine⟨?_,?_⟩
   ·refine List.eq_nil_iff_forall_not_mem.2 fun i hi => ?_
    obtain⟨h1,o,h2,-⟩:=mem_ready.1 hi;have hlt:i<ol.length:=by
     have:=(Array.getElem?_eq_some_iff.1 h2).1
     simpa using this
    have:=hf i hlt;simp[Array.getD,hs,hlt]at this h1;rw[this]at h1;cases h1
   ·refine hend xs w (fun i hi=>hV i hi (hf i hi)) ?_;rw[show ol.length=listed.toList.count true by omega];exact hG
  | succ fuel ih =>
   intro listed xs w hs hc hcl hV hG hI;refine⟨fun hr=>absurd hr (none_ready listed hs (by omega)),fun i hi => ?_⟩;obtain⟨h1,o,h2,h3⟩:=mem_ready.1 hi;have hlt:i<ol.length:=by
    have:=(Array.getElem?_eq_some_iff.1 h2).1
    simpa using this
   have h2':ol[i]?=some o:=by simpa using h2
   have hun:listed.getD i false=false:=by simp[Array.getD,hs,hlt]at h1⊢;exact h1
   have hA:=hanc i hlt;rw[h2']at hA;simp only[Bool.and_eq_true,List.all_eq_true,decide_eq_true_eq,Bool.or_eq_true,List.any_eq_true]at hA;have dirL:∀ d∈direct o,listed.getD d false=true:=by
    intro d hd;obtain⟨e,he,rfl⟩:=List.mem_map.1 hd;obtain⟨he1,he2⟩:=List.mem_filter.1 he;exact h3 e (by simpa using he1) he2
   have ancL:∀ j,(anc.getD i []).contains j=true→listed.getD j false=true:=by
    intro j hj;rcases hA.2 j (by simpa using hj)with h|⟨d,hd,h⟩
    ·exact dirL j (by simpa using h)
    ·exact hcl d (dirL d hd) j h
   have ltL:∀ j,listed.getD j false=true→j<ol.length:=by
    intro j hj;refine Classical.byContradiction fun hge => ?_
    simp[Array.getD,show ¬ j<listed.size by omega]at hj
   have goal:=(hop i o h2').run (listed.toList.count true) xs w (by omega) hG (fun j hj=>hV j (ltL j (ancL j hj)) (ancL j hj)) (fun j d hj hd=>hI j d (by
    cases hc2:listed.getD j false with
    | false=>rfl
    | true=>have:=hcl j hc2 i hj;rw[hun]at this;cases this) hd)
   refine wpOp_of_goal h2 goal fun v w' hp => ?_
   obtain⟨hp1,hp2,hp3⟩:=hp;have hcount:(listed.setIfInBounds i true).toList.count true=listed.toList.count true+1:=by
    rw[Array.toList_setIfInBounds,List.count_set (by simp;omega)];have:listed.toList[i]'(by simp;omega)=false:=by
     simp[Array.getD,hs,hlt]at hun
     simpa using hun
    simp[this]
   have hput:(⟨(patchS 0 l ds xs).toArray,df⟩:Act).put o.dst v=⟨(patchS 0 l ds (upd xs i v)).toArray,df⟩:=by
    cases hd:o.dst with
    | none =>
     have hni:i∉ds.map (·.2):=by
      intro hmem;obtain⟨x,hx,rfl⟩:=List.mem_map.1 hmem;have:=(hd1 x hx).2;rw[h2']at this;simp[hd]at this
     have rest:∀(q:Nat) (l:List Value) (ds:List (Nat×Nat)),i∉ds.map (·.2)→patchS q l ds (upd xs i v)=patchS q l ds xs:=by
      intro q l
      induction l generalizing q with
      | nil=>intro ds _;simp[patchS]
      | cons u l ih2 =>
       intro ds hj;cases ds with
       | nil=>simp[patchS]
       | cons e ds =>
        obtain⟨e1,e2⟩:=e;simp only[patchS];simp at hj;have:upd xs i v e2=xs e2:=by unfold upd;rw[if_neg (fun h=>hj.1 h.symm)]
        rw[this,ih2 (q+1) ds (by simpa using hj.2),ih2 (q+1) ((e1,e2)::ds) (by simpa using hj)]
     rw[rest _ _ _ hni];rfl
    | some d =>
     have hmem:(d,i)∈ds:=by
      have:=hd2 i hlt;rw[h2']at this
      simpa [hd] using this
     have h5:=patchS_set xs v l 0 ds d i ha (by simpa using hnd) hmem;simp only[Nat.sub_zero]at h5;rw[←h5];simp[Act.put]
   rw[hput];refine ih _ _ _ (by simpa using hs) (by rw[hcount];omega) ?_ ?_ (by rw[hcount];exact hp2) (fun q d hq hd => ?_)
   rotate_right
   ·by_cases hqi:q=i
    ·subst hqi;rw[Array.getD_eq_getD_getElem?,Array.getElem?_setIfInBounds,if_pos rfl,if_pos (by omega)]at hq;simp at hq
    ·rw[getD_set_ne false (Ne.symm hqi)]at hq;rw[show upd xs i v q=xs q by simp[upd,hqi]];exact hI q d hq hd
   ·intro q hq j hj
    by_cases hqi:q=i
    ·subst hqi;exact getD_set_true (ancL j hj)
    ·rw[getD_set_ne false (Ne.symm hqi)]at hq;exact getD_set_true (hcl q hq j hj)
   ·intro q hq hl
    by_cases hqi:q=i
    ·subst hqi;exact hp1
    ·rw[getD_set_ne false (Ne.symm hqi)]at hl;refine hp3 q hq hqi ?_ (hV q hq hl);cases hc2:(anc.getD q []).contains i with
     | false=>rfl
     | true=>have:=hcl q hl i hc2;rw[hun]at this;cases this
 refine wp_region_any hm ?_;have init:=key ol.length (Array.replicate ol.length false) (fun i=>(((ol[i]?).bind (·.dst)).map (fun d=>l.getD d undef)).getD undef) w0.drew (by simp) (by simp[List.count_replicate]) (fun i hi=>by simp[Array.getD]at hi) (fun i _ hi=>by simp[Array.getD]at hi) (by simpa [List.count_replicate] using h0) (fun i d _ hd=>by
  have hd':(ol[i]?).bind (·.dst)=some d:=by simpa using hd
  simp[hd'])
 have hsame:=patchS_same (fun i=>(((ol[i]?).bind (·.dst)).map (fun d=>l.getD d undef)).getD undef) l 0 ds ha (fun x hx _=>by
  have:=(hd1 x hx).2;rw[this];simp)
 rw[hsame]at init
 simpa using init
/-- xs, as far as operation i may look: at what comes before it. -/
def mask (anc:List (List Nat)) (i:Nat) (xs:Nat→Value):Nat→Value:=fun q=>if(anc.getD i []).contains q then xs q else undef
theorem mask_upd {anc:List (List Nat)} {i j:Nat} {xs:Nat→Value} {v:Value} (h:(anc.getD i []).contains j=false):mask anc i (upd xs j v)=mask anc i xs:=by
 funext q
 unfold mask upd
 by_cases hq:q=j
 ·subst hq;rw[if_neg (by rw[h];simp),if_neg (by rw[h];simp)]
 ·simp[hq]
/-- What operation j must do: own value v, what is kept of the others. -/
def Ob (P:Program) (n:Nat) (ops:Array Oper) (l:List Value) (df:List Deferred) (ds:List (Nat×Nat)) (anc:List (List Nat)) (W:Nat→Value→(Nat→Value)→World→Prop) (G:Nat→World→Prop) (j:Nat) (o:Oper):Prop :=
 ∀ k xs w,k<n→G k w→(∀ i,(anc.getD j []).contains i=true→W i (xs i) (mask anc i xs) w)→(∀ i d,(anc.getD i []).contains j=true→(ops[i]?).bind (·.dst)=some d→xs i=l.getD d undef) →
  OpGoal P ops o ⟨(patchS 0 l ds xs).toArray,df⟩ w (fun v w'=>W j v (mask anc j xs) w'∧G (k+1) w'∧∀ i,i<n→i≠j→(anc.getD i []).contains j=false→∀ own ys,W i own ys w→W i own ys w')
def Obs (P:Program) (n:Nat) (ops:Array Oper) (l:List Value) (df:List Deferred) (ds:List (Nat×Nat)) (anc:List (List Nat)) (W:Nat→Value→(Nat→Value)→World→Prop) (G:Nat→World→Prop):Nat→List Oper→Prop
 | _,[]=>True
 | j,o::os=>Ob P n ops l df ds anc W G j o∧Obs P n ops l df ds anc W G (j+1) os
theorem Obs.get {P:Program} {n:Nat} {ops:Array Oper} {l:List Value} {df:List Deferred} {ds:List (Nat×Nat)} {anc:List (List Nat)} {W:Nat→Value→(Nat→Value)→World→Prop} {G:Nat→World→Prop} :
 ∀ {os:List Oper} {p:Nat},Obs P n ops l df ds anc W G p os→∀ j o,os[j]?=some o→Ob P n ops l df ds anc W G (p+j) o
 | [],_,_,j,o,h=>by simp at h
 | u::os,p,h,j,o,hj=>by
  cases j with
  | zero=>simp at hj;subst hj;exact h.1
  | succ j =>
   simp at hj;have:=h.2.get j o hj
   rwa [show p+1+j=p+(j+1) by omega]at this
theorem wp_region_inv2 {P:Program} {id:Nat} {ol:List Oper} {Q:Exit→Act→World→Prop} {l:List Value} {df:List Deferred} {w0:World}
 (hm:P.follows .mixedOrders=true) (ds:List (Nat×Nat)) (anc:List (List Nat)) (W:Nat→Value→(Nat→Value)→World→Prop) (G:Nat→World→Prop)
 (hds:dsOk ol ds l.length=true) (hanc:ancOk ol anc=true) (hself:(List.range ol.length).all (fun i => !(anc.getD i []).contains i)=true) (h0:G 0 w0.drew)
 (hop:Obs P ol.length ol.toArray l df ds anc W G 0 ol)
 (hend:∀ xs w',(∀ i,i<ol.length→W i (xs i) (mask anc i xs) w')→G ol.length w'→Q .normal ⟨(patchS 0 l ds xs).toArray,df⟩ w') :
 (Code.region id ol.toArray true).wp P Q ⟨l.toArray,df⟩ w0:=by
 refine wp_region_inv hm ds anc (fun i xs w=>W i (xs i) (mask anc i xs) w) G hds hanc h0 (fun j o hj=>⟨fun k xs w hk hG hD hI => ?_⟩) hend;have h1:=hop.get j o hj;rw[Nat.zero_add]at h1;have hjl:j<ol.length:=(List.getElem?_eq_some_iff.1 hj).1;have hs:(anc.getD j []).contains j=false:=by
  simp only[List.all_eq_true,List.mem_range]at hself
  simpa using hself j hjl
 have h2:=h1 k xs w hk hG hD hI;intro Qo K hK hQo;refine h2 Qo K (fun v w' ⟨p1,p2,p3⟩=>hK v w' ⟨?_,p2,fun i hi hne hc hV => ?_⟩) hQo
 ·rw[mask_upd hs,show upd xs j v j=v by simp[upd]];exact p1
 ·rw[mask_upd hc,show upd xs j v i=xs i by simp[upd,hne]];exact p3 i hi hne hc _ _ hV
/-- The order of the text: what each operation of a region that draws nothing does. -/
def ancAll (n:Nat):List (List Nat):=(List.range n).map List.range
theorem ancAll_get {n i:Nat} (h:i<n):(ancAll n).getD i []=List.range i:=by simp[ancAll,h]
theorem wp_region_seq {P:Program} {id:Nat} {ol:List Oper} {Q:Exit→Act→World→Prop} {l:List Value} {df:List Deferred} {w0:World}
 (ds:List (Nat×Nat)) (anc:List (List Nat)) (W:Nat→Value→(Nat→Value)→World→Prop) (G:Nat→World→Prop)
 (hds:dsOk ol ds l.length=true) (hanc:anc=ancAll ol.length) (h0:G 0 w0)
 (hop:Obs P ol.length ol.toArray l df ds anc W G 0 ol)
 (hend:∀ xs w',(∀ i,i<ol.length→W i (xs i) (mask anc i xs) w')→G ol.length w'→Q .normal ⟨(patchS 0 l ds xs).toArray,df⟩ w') :
 (Code.region id ol.toArray false).wp P Q ⟨l.toArray,df⟩ w0:=by
 subst hanc;simp only[dsOk,Bool.and_eq_true,List.all_eq_true,decide_eq_true_eq,beq_iff_eq,List.mem_range]at hds;obtain⟨⟨⟨ha,hd1⟩,hnd⟩,hd2⟩:=hds;have key:∀(m j:Nat) (xs:Nat→Value) (w:World),j+m=ol.length→G j w→(∀ i,i<j→W i (xs i) (mask (ancAll ol.length) i xs) w)→(∀ i d,j≤i→(ol.toArray[i]?).bind (·.dst)=some d→xs i=l.getD d undef) →
  wpOps P ol.toArray Q (List.range' j m) ⟨(patchS 0 l ds xs).toArray,df⟩ w:=by
  intro m
  induction m with
  | zero =>
   intro j xs w hj hG hV _;obtain rfl:j=ol.length:=by omega
   simp only[List.range',wpOps];exact hend xs w hV hG
  | succ m ih =>
   intro j xs w hj hG hV hI;have hlt:j<ol.length:=by omega
   have h2':ol[j]?=some ol[j]:=by simp[hlt]
   have h1:=hop.get j ol[j] h2';rw[Nat.zero_add]at h1;have goal:=h1 j xs w hlt hG (fun i hi=>hV i (by rw[ancAll_get hlt]at hi;simpa using hi)) (fun i d hi hd=>hI i d (by
    have hil:i<ol.length:=by
     cases ho:ol[i]? with
     | none=>simp[ho]at hd
     | some o=>exact(List.getElem?_eq_some_iff.1 ho).1
    rw[ancAll_get hil]at hi;simp at hi;omega) hd)
   rw[List.range'_succ,wpOps_cons];refine wpOp_of_goal (by simp[hlt]) goal fun v w' hp => ?_
   obtain⟨hp1,hp2,hp3⟩:=hp;have hself:((ancAll ol.length).getD j []).contains j=false:=by rw[ancAll_get hlt];simp
   have hput:(⟨(patchS 0 l ds xs).toArray,df⟩:Act).put ol[j].dst v=⟨(patchS 0 l ds (upd xs j v)).toArray,df⟩:=by
    cases hd:ol[j].dst with
    | none =>
     have hni:j∉ds.map (·.2):=by
      intro hmem;obtain⟨x,hx,rfl⟩:=List.mem_map.1 hmem;have:=(hd1 x hx).2;rw[h2']at this;simp[hd]at this
     have rest:∀(q:Nat) (l:List Value) (ds:List (Nat×Nat)),j∉ds.map (·.2)→patchS q l ds (upd xs j v)=patchS q l ds xs:=by
      intro q l
      induction l generalizing q with
      | nil=>intro ds _;simp[patchS]
      | cons u l ih2 =>
       intro ds hj;cases ds with
       | nil=>simp[patchS]
       | cons e ds =>
        obtain⟨e1,e2⟩:=e;simp only[patchS];simp at hj;have:upd xs j v e2=xs e2:=by unfold upd;rw[if_neg (fun h=>hj.1 h.symm)]
        rw[this,ih2 (q+1) ds (by simpa using hj.2),ih2 (q+1) ((e1,e2)::ds) (by simpa using hj)]
     rw[rest _ _ _ hni];rfl
    | some d =>
     have hmem:(d,j)∈ds:=by
      have:=hd2 j hlt;rw[h2']at this
      simpa [hd] using this
     have h5:=patchS_set xs v l 0 ds d j ha (by simpa using hnd) hmem;simp only[Nat.sub_zero]at h5;rw[←h5];simp[Act.put]
   rw[hput];refine ih (j+1) _ _ (by omega) hp2 (fun i hi => ?_) (fun i d hi hd=>by rw[show upd xs j v i=xs i by simp[upd,show i≠j by omega]];exact hI i d (by omega) hd)
   by_cases hij:i=j
   ·subst hij;rw[mask_upd hself,show upd xs i v i=v by simp[upd]];exact hp1
   ·have hc:((ancAll ol.length).getD i []).contains j=false:=by
     rw[ancAll_get (by omega)];simp;omega
    rw[mask_upd hc,show upd xs j v i=xs i by simp[upd,hij]];exact hp3 i (by omega) hij hc _ _ (hV i (by omega))
 refine wp_region ?_;have init:=key ol.length 0 (fun i=>(((ol[i]?).bind (·.dst)).map (fun d=>l.getD d undef)).getD undef) w0 (by simp) h0 (fun i hi=>by omega) (fun i d _ hd=>by
  have hd':(ol[i]?).bind (·.dst)=some d:=by simpa using hd
  simp[hd'])
 have hsame:=patchS_same (fun i=>(((ol[i]?).bind (·.dst)).map (fun d=>l.getD d undef)).getD undef) l 0 ds ha (fun x hx _=>by
  have:=(hd1 x hx).2;rw[this];simp)
 rw[hsame]at init;rw[List.range_eq_range']
 simpa using init
theorem i64_nat_ofInt (a:Nat) (ha:a<9223372036854775808):(BitVec.ofInt 64 (a:Int)).toNat=a:=by
 rw[BitVec.ofInt_natCast,BitVec.toNat_ofNat];exact Nat.mod_eq_of_lt (by omega)
theorem i64_xor_nat (a b:Nat) (ha:a<2^63) (hb:b<2^63):bits .xor .i64 (a:Int) (b:Int)=((a ^^^ b:Nat):Int):=by
 have hx:a ^^^ b<2^63:=Nat.xor_lt_two_pow ha hb;show IntKind.i64.wrap ((BitVec.ofInt 64 (a:Int) ^^^ BitVec.ofInt 64 (b:Int)).toNat:Int)=_;rw[BitVec.toNat_xor,i64_nat_ofInt a (by omega),i64_nat_ofInt b (by omega),IntKind.wrap_i64];omega
theorem i64_xor_range (x y:Int) (hx:0≤x∧x<9223372036854775808) (hy:0≤y∧y<9223372036854775808):0≤bits .xor .i64 x y:=by
 have:=i64_xor_nat x.toNat y.toNat (by omega) (by omega);rw[Int.toNat_of_nonneg hx.1,Int.toNat_of_nonneg hy.1]at this;rw[this];omega
theorem grown_ext {w w1 w2:World} {row:Option Nat} (h:w.grownBy w1 row) (e:Ext w1 w2):w.grownBy w2 row :=
 ⟨e.os.trans h.os,e.tape.trans h.tape,e.output.trans h.output,Nat.le_trans h.size e.size,fun k hk hr=>(e.block k (Nat.lt_of_lt_of_le hk h.size)).trans (h.block k hk hr)⟩
theorem grown_trans {w w1 w2:World} {row:Option Nat} (h:w.grownBy w1 row) (e:w1.grownBy w2 row):w.grownBy w2 row :=
 ⟨e.os.trans h.os,e.tape.trans h.tape,e.output.trans h.output,Nat.le_trans h.size e.size,fun k hk hr=>(e.block k (Nat.lt_of_lt_of_le hk h.size) hr).trans (h.block k hk hr)⟩
theorem grown_refl (w:World) (row:Option Nat):w.grownBy w row:=⟨rfl,rfl,rfl,Nat.le_refl _,fun _ _ _=>rfl⟩
/-- Block b is a reader of some bytes, at position p. -/
def Rd (w:World) (b:Nat) (p:Nat):Prop :=
 ∃(a:Option Addr) (m c:Nat) (zs:List Int),w.heap[b]?=some (.cells #[.slice a m c,.int .i64 p] 115 (0,0))∧m≤2000∧Sl w a m (zs.map (Value.int .u8))∧(m=0∨∀ x,a=some x→x.block<b)∧∀ z∈zs,0≤z∧z≤255
theorem Rd.ext {w w':World} {b p:Nat} (h:Rd w b p) (e:Ext w w'):Rd w' b p:=by
 obtain⟨a,m,c,zs,h1,h2,h3,h4⟩:=h;exact⟨a,m,c,zs,e.blk h1,h2,h3.ext e,h4⟩
theorem Rd.lt {w:World} {b p:Nat} (h:Rd w b p):b<w.heap.size:=by
 obtain⟨a,m,c,zs,h1,-⟩:=h;exact lt_of_block h1
theorem nth_byte {zs:List Int} (h:∀ z∈zs,0≤z∧z≤255) (i:Nat):0≤nth zs i∧nth zs i≤255:=by
 by_cases hi:i<zs.length
 ·rw[nth_eq zs i hi];exact h _ (List.getElem_mem hi)
 ·simp[nth,hi]
theorem open_any (a:Option Addr) (c n:Nat) (zs:List Int) (w:World) (hc:n≤c) (hc2:c≤9223372036854775807) (r:Sl w a n (zs.map (Value.int .u8))) (hz:∀ z∈zs,0≤z∧z≤255) :
 Calls Tryz.prog 31 #[.slice a n c] w fun e w'=>∃ b,e= .returned (.pointer (some ⟨b,0,none⟩))∧Rd w' b 0∧Ext w w'∧w.heap.size≤b:=by
 have ne:∀(k:Nat) (zz:List Value),Sl w a k zz→∀ x,a=some x→k≠0→x.block<w.heap.size:=by
  intro k zz s x hx hk;obtain⟨b1,o1,h1,h2⟩:=s.2 0 (by omega);rw[hx]at h1;simp only[Option.some.injEq]at h1;subst h1;have:=World.block_lt_of_cell? w _ h2;simp at this⊢;omega
 by_cases h:2000<n
 ·obtain⟨b1,o1,rfl,-⟩:=r.2 0 (by omega);have NE:=Lib.hid ne;clear ne;go_enter Tryz.func31,Tryz.ntmps31
  go_wp2;go_ret
  have rt:Sl w (some ⟨b1,o1,none⟩) 2000 ((zs.take 2000).map (Value.int .u8)):=by
   refine⟨by have:=r.int_len;simp;omega,fun i hi => ?_⟩;obtain⟨b2,o2,h2,h3⟩:=r.int (show i<n by omega);refine⟨b2,o2,h2,?_⟩;rw[h3,getD_map_int _ _ _ (by have:=r.int_len;simp;omega)];simp[nth,hi]
  exact⟨_,rfl,⟨some ⟨b1,o1,none⟩,2000,c,zs.take 2000,blk_new _ _,by omega,rt.ext ((Below.refl _ _).alloc (Nat.le_refl _) _),.inr fun x hx=>NE.out n _ r x hx (by omega),fun z hz'=>hz z (List.mem_of_mem_take hz')⟩,(Below.refl _ _).alloc (Nat.le_refl _) _,Nat.le_refl _⟩
 ·have NE:=Lib.hid ne;clear ne;go_enter Tryz.func31,Tryz.ntmps31
  go_wp2;go_ret
  exact⟨_,rfl,⟨a,n,c,zs,blk_new _ _,by omega,r.ext ((Below.refl _ _).alloc (Nat.le_refl _) _),by
   by_cases h0:n=0
   ·exact .inl h0
   ·exact .inr fun x hx=>NE.out n _ r x hx h0,hz⟩,(Below.refl _ _).alloc (Nat.le_refl _) _,Nat.le_refl _⟩
theorem set_reader {w:World} {b p m c:Nat} {a:Option Addr} {zs:List Int} (h1:w.heap[b]?=some (.cells #[.slice a m c,.int .i64 p] 115 (0,0))) (h2:m≤2000) (h3:Sl w a m (zs.map (Value.int .u8)))
 (h4:m=0∨∀ x,a=some x→x.block<b) (h5:∀ z∈zs,0≤z∧z≤255):Rd (w.setCell ⟨b,1,none⟩ (.int .i64 ((p:Int)+1))) b (p+1)∧w.grownBy (w.setCell ⟨b,1,none⟩ (.int .i64 ((p:Int)+1))) (some b):=by
 have g:w.grownBy (w.setCell ⟨b,1,none⟩ (.int .i64 ((p:Int)+1))) (some b) :=
  ⟨rfl,rfl,rfl,by simp,fun k _ hk=>heap_setCell_other w ⟨b,1,none⟩ k _ (fun e=>hk (by simp[e]))⟩
 refine⟨⟨a,m,c,zs,?_,h2,?_,h4,h5⟩,g⟩
 ·rw[heap_setCell_same w b 1 _ _ _ h1];simp
 ·rcases h4 with h4|h4
  ·subst h4;exact⟨h3.1,fun i hi=>by omega⟩
  ·exact h3.grown g (fun x hx e=>by have:=h4 x hx;simp at e;omega)
theorem grown_set {w wx:World} {r:Option Nat} {q j:Nat} {v:Value} (g:w.grownBy wx r) (hq:w.heap.size≤q):w.grownBy (wx.setCell ⟨q,j,none⟩ v) r :=
 ⟨g.os,g.tape,g.output,by simpa using g.size,fun i hi hne=>by rw[heap_setCell_other wx ⟨q,j,none⟩ i v (by simp;omega)];exact g.block i hi hne⟩
theorem Rd.set {w:World} {b p q j:Nat} {v:Value} (h:Rd w b p) (hq:b<q):Rd (w.setCell ⟨q,j,none⟩ v) b p:=by
 obtain⟨a,m,c,zs,h1,h2,h3,h4,h5⟩:=h;refine⟨a,m,c,zs,blk_set_other h1 (by omega),h2,?_,h4,h5⟩;rcases h4 with h4|h4
 ·subst h4;exact⟨h3.1,fun i hi=>by omega⟩
 ·have g:w.grownBy (w.setCell ⟨q,j,none⟩ v) (some q):=⟨rfl,rfl,rfl,by simp,fun k _ hk=>heap_setCell_other w ⟨q,j,none⟩ k _ (fun e=>hk (by simp[e]))⟩;exact h3.grown g (fun x hx e=>by have:=h4 x hx;simp at e;omega)
theorem pick_some (b:Nat) (p:Nat) (n:Int) (w:World) (hp:p<2^40) (hn0:1≤n) (hn:n≤1000000000) (h:Rd w b p) :
 Calls Tryz.prog 37 #[.pointer (some ⟨b,0,none⟩),.int .i64 n] w fun e w'=>∃ x:Int,e= .returned (.int .i64 x)∧0≤x∧x<n∧Rd w' b (p+1)∧w.grownBy w' (some b):=by
 obtain⟨a,m,c,zs,h1,h2,h3,h4,h5⟩:=h;obtain⟨g1,g2,g3,g4,g5⟩:=bx2 h1
 by_cases hm:m=0
 ·have hb:((m:Int) == 0)=true:=by simp;omega
  go_enter Tryz.func37,Tryz.ntmps37
  go_wp2;go_ret
  have hr:=set_reader h1 h2 h3 h4 h5;exact⟨0,rfl,by omega,by omega,hr.1,hr.2⟩
 ·have hb:((m:Int) == 0)=false:=by simp;omega
  have hr:=set_reader h1 h2 h3 h4 h5;have hbd:=fun i=>nth_byte h5 i
  by_cases hk:p<m
  ·obtain⟨b1,o1,rfl,c1⟩:=h3.int hk;have hne : ¬ b1=b:=by
    rcases h4 with h4|h4
    ·omega
    ·have:=h4 _ rfl;simp at this;omega
   have hB:=hbd p;have HR:=Lib.hid hr;clear hr h4 hbd h5 h3;go_enter Tryz.func37,Tryz.ntmps37
   go_wp2;go_ret
   exact⟨_,rfl,Int.emod_nonneg _ (by omega),Int.emod_lt_of_pos _ (by omega),HR.out.1,HR.out.2⟩
  ·have hm1:0<m:=by omega
   obtain⟨q,hq⟩:∃ q,q=p%m:=⟨_,rfl⟩;obtain⟨r,hr2⟩:∃ r,r=(p*7+3)%m:=⟨_,rfl⟩;have hqm:q<m:=by rw[hq];exact Nat.mod_lt p hm1
   have hrm:r<m:=by rw[hr2];exact Nat.mod_lt _ hm1
   have hqi:(p:Int)%(m:Int)=(q:Int):=by rw[hq];simp
   have hri:((p:Int)*7+3)%(m:Int)=(r:Int):=by rw[hr2];simp
   obtain⟨d,hdi⟩:∃ d,d=(p:Int)/(m:Int):=⟨_,rfl⟩;have hd0:0≤d:=by rw[hdi];exact Int.ediv_nonneg (by omega) (by omega)
   have hd1:d≤p:=by rw[hdi];exact Int.ediv_le_self _ (by omega)
   obtain⟨b1,o1,rfl,c1⟩:=h3.int hqm;obtain⟨b2,o2,ha2,c2⟩:=h3.int hrm;simp only[Option.some.injEq,Addr.mk.injEq,and_true]at ha2;obtain⟨rfl,rfl⟩:=ha2;have hne : ¬ b1=b:=by
    rcases h4 with h4|h4
    ·omega
    ·have:=h4 _ rfl;simp at this;omega
   obtain⟨hB0,hB1⟩:=hbd q;obtain⟨hC0,hC1⟩:=hbd r;generalize nth zs q=X at c1 hB0 hB1;generalize nth zs r=Y at c2 hC0 hC1;have HR:=Lib.hid hr;have Hqi:=Lib.hid hqi;have Hri:=Lib.hid hri;have Hdi:=Lib.hid hdi;clear hr h4 hbd h5 h3 hq hr2 hqi hri hdi;have K0:=Lib.hid (show(w.setCell ⟨b,1,none⟩ (.int .i64 ((p:Int)+1))).cell? ⟨b,0,none⟩=some (.slice (some ⟨b1,o1,none⟩) m c)from by rw[World.cell?_setCell_other _ _ _ _ (by intro e;simp at e)];exact g2);have K1:=Lib.hid (show(w.setCell ⟨b,1,none⟩ (.int .i64 ((p:Int)+1))).cell? ⟨b1,o1+q,none⟩=some (.int .u8 X)from by rw[World.cell?_setCell_other _ _ _ _ (by intro e;simp at e <;> omega)];exact c1);have K2:=Lib.hid (show(w.setCell ⟨b,1,none⟩ (.int .i64 ((p:Int)+1))).cell? ⟨b1,o1+r,none⟩=some (.int .u8 Y)from by rw[World.cell?_setCell_other _ _ _ _ (by intro e;simp at e <;> omega)];exact c2);go_enter Tryz.func37,Tryz.ntmps37
   go_wp2;generalize w.setCell ⟨b,1,none⟩ (.int .i64 ((p:Int)+1))=W1 at *;have k0:=K0.out;have k1:=K1.out;have k2:=K2.out;clear K0 K1 K2 g1 g2 g3 g4 g5 c1 c2;refine wp_region_inv2 (by kernel_rfl) [(6,45),(47,0),(48,1),(49,2),(50,3),(51,4),(52,5),(53,6),(54,7),(55,8),(56,9),(57,10),(58,11),(59,12),(60,13),(61,14),(62,15),(63,16),(64,17),(65,18),(66,19),(67,20),(68,21),(69,22),(70,23),(71,24),(72,25),(73,26),(74,27),(75,28),(76,29),(77,30),(78,31),(79,32),(80,33),(81,34),(82,35),(83,36),(84,37),(85,38),(86,39),(87,40),(88,41),(89,42),(90,43),(91,44)] [[],[0],[0,1],[0,1,2],[],[],[5],[5,6],[5,6,7],[5,6,7,8],[4,5,6,7,8,9],[0,1,2,3,4,5,6,7,8,9,10],[0,1,2,3,4,5,6,7,8,9,10,11],[0,1,2,3,4,5,6,7,8,9,10,11,12],[0,1,2,3,4,5,6,7,8,9,10,11,12,13],[],[15],[15,16],[15,16,17],[],[19],[19,20],[],[22],[22,23],[22,23,24],[22,23,24,25],[19,20,21,22,23,24,25,26],[15,16,17,18,19,20,21,22,23,24,25,26,27],[15,16,17,18,19,20,21,22,23,24,25,26,27,28],[15,16,17,18,19,20,21,22,23,24,25,26,27,28,29],[15,16,17,18,19,20,21,22,23,24,25,26,27,28,29,30],[0,1,2,3,4,5,6,7,8,9,10,11,12,13,14,15,16,17,18,19,20,21,22,23,24,25,26,27,28,29,30,31],[],[33],[0,1,2,3,4,5,6,7,8,9,10,11,12,13,14,15,16,17,18,19,20,21,22,23,24,25,26,27,28,29,30,31,32,33,34],[],[],[37],[37,38],[37,38,39],[37,38,39,40],[36,37,38,39,40,41],[36,37,38,39,40,41,42],[0,1,2,3,4,5,6,7,8,9,10,11,12,13,14,15,16,17,18,19,20,21,22,23,24,25,26,27,28,29,30,31,32,33,34,35,36,37,38,39,40,41,42,43],[0,1,2,3,4,5,6,7,8,9,10,11,12,13,14,15,16,17,18,19,20,21,22,23,24,25,26,27,28,29,30,31,32,33,34,35,36,37,38,39,40,41,42,43,44]] (fun i own ys wx=>match i with|0=>own= .pointer (some ⟨b,0,none⟩)|1=>own= .pointer (some ⟨b,0,none⟩)|2=>own= .pointer (some ⟨b,0,none⟩)|3=>own= .slice (some ⟨b1,o1,none⟩) m c|4=>own= .int .i64 p|5=>own= .pointer (some ⟨b,0,none⟩)|6=>own= .pointer (some ⟨b,0,none⟩)|7=>own= .pointer (some ⟨b,0,none⟩)|8=>own= .slice (some ⟨b1,o1,none⟩) m c|9=>own= .int .i64 m|10=>own= .int .i64 q|11=>own= .pointer (some ⟨b1,o1+q,none⟩)|12=>own= .int .u8 X|13=>own= .int .i64 X|14=>own= .int .i64 (X*131)|15=>own= .pointer (some ⟨b,0,none⟩)|16=>own= .pointer (some ⟨b,0,none⟩)|17=>own= .pointer (some ⟨b,0,none⟩)|18=>own= .slice (some ⟨b1,o1,none⟩) m c|19=>own= .int .i64 p|20=>own= .int .i64 ((p:Int)*7)|21=>own= .int .i64 ((p:Int)*7+3)|22=>own= .pointer (some ⟨b,0,none⟩)|23=>own= .pointer (some ⟨b,0,none⟩)|24=>own= .pointer (some ⟨b,0,none⟩)|25=>own= .slice (some ⟨b1,o1,none⟩) m c|26=>own= .int .i64 m|27=>own= .int .i64 r|28=>own= .pointer (some ⟨b1,o1+r,none⟩)|29=>own= .int .u8 Y|30=>own= .int .i64 Y|31=>own= .int .i64 (Y*1117)|32=>own= .int .i64 (X*131+Y*1117)|33=>own= .int .i64 p|34=>own= .int .i64 ((p:Int)*29)|35=>own= .int .i64 (X*131+Y*1117+(p:Int)*29)|36=>own= .int .i64 p|37=>own= .pointer (some ⟨b,0,none⟩)|38=>own= .pointer (some ⟨b,0,none⟩)|39=>own= .pointer (some ⟨b,0,none⟩)|40=>own= .slice (some ⟨b1,o1,none⟩) m c|41=>own= .int .i64 m|42=>own= .int .i64 d|43=>own= .int .i64 (d*53)|44=>own= .int .i64 (X*131+Y*1117+(p:Int)*29+d*53)|45=>own= .int .i64 (X*131+Y*1117+(p:Int)*29+d*53)|_=>True) (fun kx wx=>Ext W1 wx) (by kernel_rfl) (by kernel_rfl) (by kernel_rfl) ?g0_r1 ?gop_r1 ?gend_r1
   case g0_r1=>exact Ext.drewN _ 1
   case gop_r1 =>
    refine⟨?_,?o1,?o2,?o3,?_,?_,?o6,?o7,?o8,?o9,?o10,?o11,?o12,?o13,?o14,?_,?o16,?o17,?o18,?_,?o20,?o21,?_,?o23,?o24,?o25,?o26,?o27,?o28,?o29,?o30,?o31,?o32,?_,?o34,?o35,?_,?_,?o38,?o39,?o40,?o41,?o42,?o43,?o44,?o45,trivial⟩ <;> (intro kx xs wx hk hG hD hI Qo Kx hK hQo;simp only[patchS,Nat.reduceAdd,Nat.reduceEqDiff,↓reduceIte]at hQo⊢)
    case o1 =>
     rw[ddq (hD 0 rfl)]at hQo⊢;clear hD hI;go_wp2;exact hK.out _ _ ⟨rfl,hG,kkp⟩
    case o2 =>
     rw[ddq (hD 1 rfl)]at hQo⊢;clear hD hI;go_wp2;exact hK.out _ _ ⟨rfl,hG,kkp⟩
    case o3 =>
     rw[ddq (hD 2 rfl)]at hQo⊢;clear hD hI;have k0':=cell_ext hG k0;go_wp2;exact hK.out _ _ ⟨rfl,hG,kkp⟩
    case o6 =>
     rw[ddq (hD 5 rfl)]at hQo⊢;clear hD hI;go_wp2;exact hK.out _ _ ⟨rfl,hG,kkp⟩
    case o7 =>
     rw[ddq (hD 6 rfl)]at hQo⊢;clear hD hI;go_wp2;exact hK.out _ _ ⟨rfl,hG,kkp⟩
    case o8 =>
     rw[ddq (hD 7 rfl)]at hQo⊢;clear hD hI;have k0':=cell_ext hG k0;go_wp2;exact hK.out _ _ ⟨rfl,hG,kkp⟩
    case o9 =>
     rw[ddq (hD 8 rfl)]at hQo⊢;clear hD hI;go_wp2;exact hK.out _ _ ⟨rfl,hG,kkp⟩
    case o10 =>
     rw[ddq (hD 4 rfl),ddq (hD 9 rfl)]at hQo⊢;clear hD hI;go_wp2;exact hK.out _ _ ⟨by rw[Hqi.out],hG,fun _ _ _ _ _ _ h=>h⟩
    case o11 =>
     rw[ddq (hD 3 rfl),ddq (hD 10 rfl)]at hQo⊢;clear hD hI;go_wp2;exact hK.out _ _ ⟨rfl,hG,kkp⟩
    case o12 =>
     rw[ddq (hD 11 rfl)]at hQo⊢;clear hD hI;have k0':=cell_ext hG k1;go_wp2;exact hK.out _ _ ⟨rfl,hG,kkp⟩
    case o13 =>
     rw[ddq (hD 12 rfl)]at hQo⊢;clear hD hI;go_wp2;exact hK.out _ _ ⟨rfl,hG,kkp⟩
    case o14 =>
     rw[ddq (hD 13 rfl)]at hQo⊢;clear hD hI;go_wp2;exact hK.out _ _ ⟨rfl,hG,kkp⟩
    case o16 =>
     rw[ddq (hD 15 rfl)]at hQo⊢;clear hD hI;go_wp2;exact hK.out _ _ ⟨rfl,hG,kkp⟩
    case o17 =>
     rw[ddq (hD 16 rfl)]at hQo⊢;clear hD hI;go_wp2;exact hK.out _ _ ⟨rfl,hG,kkp⟩
    case o18 =>
     rw[ddq (hD 17 rfl)]at hQo⊢;clear hD hI;have k0':=cell_ext hG k0;go_wp2;exact hK.out _ _ ⟨rfl,hG,kkp⟩
    case o20 =>
     rw[ddq (hD 19 rfl)]at hQo⊢;clear hD hI;go_wp2;exact hK.out _ _ ⟨rfl,hG,kkp⟩
    case o21 =>
     rw[ddq (hD 20 rfl)]at hQo⊢;clear hD hI;go_wp2;exact hK.out _ _ ⟨rfl,hG,kkp⟩
    case o23 =>
     rw[ddq (hD 22 rfl)]at hQo⊢;clear hD hI;go_wp2;exact hK.out _ _ ⟨rfl,hG,kkp⟩
    case o24 =>
     rw[ddq (hD 23 rfl)]at hQo⊢;clear hD hI;go_wp2;exact hK.out _ _ ⟨rfl,hG,kkp⟩
    case o25 =>
     rw[ddq (hD 24 rfl)]at hQo⊢;clear hD hI;have k0':=cell_ext hG k0;go_wp2;exact hK.out _ _ ⟨rfl,hG,kkp⟩
    case o26 =>
     rw[ddq (hD 25 rfl)]at hQo⊢;clear hD hI;go_wp2;exact hK.out _ _ ⟨rfl,hG,kkp⟩
    case o27 =>
     rw[ddq (hD 21 rfl),ddq (hD 26 rfl)]at hQo⊢;clear hD hI;go_wp2;exact hK.out _ _ ⟨by rw[Hri.out],hG,fun _ _ _ _ _ _ h=>h⟩
    case o28 =>
     rw[ddq (hD 18 rfl),ddq (hD 27 rfl)]at hQo⊢;clear hD hI;go_wp2;exact hK.out _ _ ⟨rfl,hG,kkp⟩
    case o29 =>
     rw[ddq (hD 28 rfl)]at hQo⊢;clear hD hI;have k0':=cell_ext hG k2;go_wp2;exact hK.out _ _ ⟨rfl,hG,kkp⟩
    case o30 =>
     rw[ddq (hD 29 rfl)]at hQo⊢;clear hD hI;go_wp2;exact hK.out _ _ ⟨rfl,hG,kkp⟩
    case o31 =>
     rw[ddq (hD 30 rfl)]at hQo⊢;clear hD hI;go_wp2;exact hK.out _ _ ⟨rfl,hG,kkp⟩
    case o32 =>
     rw[ddq (hD 14 rfl),ddq (hD 31 rfl)]at hQo⊢;clear hD hI;go_wp2;exact hK.out _ _ ⟨rfl,hG,kkp⟩
    case o34 =>
     rw[ddq (hD 33 rfl)]at hQo⊢;clear hD hI;go_wp2;exact hK.out _ _ ⟨rfl,hG,kkp⟩
    case o35 =>
     rw[ddq (hD 32 rfl),ddq (hD 34 rfl)]at hQo⊢;clear hD hI;go_wp2;exact hK.out _ _ ⟨rfl,hG,kkp⟩
    case o38 =>
     rw[ddq (hD 37 rfl)]at hQo⊢;clear hD hI;go_wp2;exact hK.out _ _ ⟨rfl,hG,kkp⟩
    case o39 =>
     rw[ddq (hD 38 rfl)]at hQo⊢;clear hD hI;go_wp2;exact hK.out _ _ ⟨rfl,hG,kkp⟩
    case o40 =>
     rw[ddq (hD 39 rfl)]at hQo⊢;clear hD hI;have k0':=cell_ext hG k0;go_wp2;exact hK.out _ _ ⟨rfl,hG,kkp⟩
    case o41 =>
     rw[ddq (hD 40 rfl)]at hQo⊢;clear hD hI;go_wp2;exact hK.out _ _ ⟨rfl,hG,kkp⟩
    case o42 =>
     rw[ddq (hD 36 rfl),ddq (hD 41 rfl)]at hQo⊢;clear hD hI;go_wp2;exact hK.out _ _ ⟨by rw[←Hdi.out];first|rfl|(congr 1;exact IntWalk.wrap64_in d (by omega)),hG,fun _ _ _ _ _ _ h=>h⟩
    case o43 =>
     rw[ddq (hD 42 rfl)]at hQo⊢;clear hD hI;go_wp2;exact hK.out _ _ ⟨rfl,hG,kkp⟩
    case o44 =>
     rw[ddq (hD 35 rfl),ddq (hD 43 rfl)]at hQo⊢;clear hD hI;go_wp2;exact hK.out _ _ ⟨rfl,hG,kkp⟩
    case o45 =>
     rw[ddq (hD 44 rfl)]at hQo⊢;clear hD hI;go_wp2;exact hK.out _ _ ⟨rfl,hG,kkp⟩
    all_goals
     clear hD hI;go_wp2;exact hK.out _ _ ⟨rfl,hG,kkp⟩
   intro xs wx hV hG;have d0:_=_:=hV 0 (by decide);have d1:_=_:=hV 1 (by decide);have d2:_=_:=hV 2 (by decide);have d3:_=_:=hV 3 (by decide);have d4:_=_:=hV 4 (by decide);have d5:_=_:=hV 5 (by decide);have d6:_=_:=hV 6 (by decide);have d7:_=_:=hV 7 (by decide);have d8:_=_:=hV 8 (by decide);have d9:_=_:=hV 9 (by decide);have d10:_=_:=hV 10 (by decide);have d11:_=_:=hV 11 (by decide);have d12:_=_:=hV 12 (by decide);have d13:_=_:=hV 13 (by decide);have d14:_=_:=hV 14 (by decide);have d15:_=_:=hV 15 (by decide);have d16:_=_:=hV 16 (by decide);have d17:_=_:=hV 17 (by decide);have d18:_=_:=hV 18 (by decide);have d19:_=_:=hV 19 (by decide);have d20:_=_:=hV 20 (by decide);have d21:_=_:=hV 21 (by decide);have d22:_=_:=hV 22 (by decide);have d23:_=_:=hV 23 (by decide);have d24:_=_:=hV 24 (by decide);have d25:_=_:=hV 25 (by decide);have d26:_=_:=hV 26 (by decide);have d27:_=_:=hV 27 (by decide);have d28:_=_:=hV 28 (by decide);have d29:_=_:=hV 29 (by decide);have d30:_=_:=hV 30 (by decide);have d31:_=_:=hV 31 (by decide);have d32:_=_:=hV 32 (by decide);have d33:_=_:=hV 33 (by decide);have d34:_=_:=hV 34 (by decide);have d35:_=_:=hV 35 (by decide);have d36:_=_:=hV 36 (by decide);have d37:_=_:=hV 37 (by decide);have d38:_=_:=hV 38 (by decide);have d39:_=_:=hV 39 (by decide);have d40:_=_:=hV 40 (by decide);have d41:_=_:=hV 41 (by decide);have d42:_=_:=hV 42 (by decide);have d43:_=_:=hV 43 (by decide);have d44:_=_:=hV 44 (by decide);have d45:_=_:=hV 45 (by decide);clear hV;simp only[patchS,Nat.reduceAdd,Nat.reduceEqDiff,↓reduceIte];generalize xs 0=y0,xs 1=y1,xs 2=y2,xs 3=y3,xs 4=y4,xs 5=y5,xs 6=y6,xs 7=y7,xs 8=y8,xs 9=y9,xs 10=y10,xs 11=y11,xs 12=y12,xs 13=y13,xs 14=y14,xs 15=y15,xs 16=y16,xs 17=y17,xs 18=y18,xs 19=y19,xs 20=y20,xs 21=y21,xs 22=y22,xs 23=y23,xs 24=y24,xs 25=y25,xs 26=y26,xs 27=y27,xs 28=y28,xs 29=y29,xs 30=y30,xs 31=y31,xs 32=y32,xs 33=y33,xs 34=y34,xs 35=y35,xs 36=y36,xs 37=y37,xs 38=y38,xs 39=y39,xs 40=y40,xs 41=y41,xs 42=y42,xs 43=y43,xs 44=y44,xs 45=y45 at *
   replace hG:Ext W1 wx:=hG
   subst d0 d1 d2 d3 d4 d5 d6 d7 d8 d9 d10 d11 d12 d13 d14 d15 d16 d17 d18 d19 d20 d21 d22 d23 d24 d25 d26 d27 d28 d29 d30 d31 d32 d33 d34 d35 d36 d37 d38 d39 d40 d41 d42 d43 d44 d45;have hS:0≤X*131+Y*1117+(p:Int)*29+d*53∧X*131+Y*1117+(p:Int)*29+d*53<2^50:=by omega
   generalize X*131+Y*1117+(p:Int)*29+d*53=S at hS⊢;clear Hqi Hri Hdi hB0 hB1 hC0 hC1 k0 k1 k2 hd0 hd1;obtain⟨hS0,hS1⟩:=hS;go_wp2;have hx:0≤bits .xor .i64 S (S/64):=i64_xor_range _ _ (by omega) (by omega);have hr:(bits .xor .i64 S (S/64)).tmod n=bits .xor .i64 S (S/64)%n:=Int.tmod_eq_emod_of_nonneg hx;go_ret
   exact⟨_,rfl,by rw[hr];exact Int.emod_nonneg _ (by omega),by rw[hr];exact Int.emod_lt_of_pos _ (by omega),HR.out.1.ext hG,grown_ext HR.out.2 hG⟩
/-- Block b is a reader whose position is at most P. -/
def RdP (w:World) (b P:Nat):Prop:=∃ q,q≤P∧Rd w b q
theorem RdP.ext {w w':World} {b P:Nat} (h:RdP w b P) (e:Ext w w'):RdP w' b P:=by
 obtain⟨q,h1,h2⟩:=h;exact⟨q,h1,h2.ext e⟩
theorem RdP.mono {w:World} {b P P':Nat} (h:RdP w b P) (e:P≤P'):RdP w b P':=by
 obtain⟨q,h1,h2⟩:=h;exact⟨q,by omega,h2⟩
theorem RdP.drew {w:World} {b P:Nat} (h:RdP w b P):RdP w.drew b P:=h
theorem RdP.lt {w:World} {b P:Nat} (h:RdP w b P):b<w.heap.size:=by
 obtain⟨q,h1,h2⟩:=h;exact h2.lt
theorem pick_c (b P:Nat) (n:Int) (w:World) (h:RdP w b P) (hp:P<2^40) (hn0:1≤n) (hn:n≤1000000000) :
 Calls Tryz.prog 37 #[.pointer (some ⟨b,0,none⟩),.int .i64 n] w fun e w'=>∃ x:Int,e= .returned (.int .i64 x)∧0≤x∧x<n∧RdP w' b (P+1)∧w.grownBy w' (some b):=by
 obtain⟨q,h1,h2⟩:=h;refine(pick_some b q n w (by omega) hn0 hn h2).mono ?_
 rintro e w' ⟨x,h3,h4,h5,h6,h7⟩
 exact⟨x,h3,h4,h5,⟨q+1,by omega,h6⟩,h7⟩
/-- What holds in a region that draws with reader b, k operations in, C places each at the most. -/
def DG (w:World) (b P C k:Nat) (wx:World):Prop:=w.grownBy wx (some b)∧RdP wx b (P+k*C)
theorem DG.zero {w:World} {b P C:Nat} (h:RdP w b P):DG w b P C 0 w.drew:=⟨⟨rfl,rfl,rfl,Nat.le_refl _,fun _ _ _=>rfl⟩,by rw[Nat.zero_mul,Nat.add_zero];exact h⟩
theorem DG.zero' {w:World} {b P C:Nat} (h:RdP w b P):DG w b P C 0 w:=⟨⟨rfl,rfl,rfl,Nat.le_refl _,fun _ _ _=>rfl⟩,by rw[Nat.zero_mul,Nat.add_zero];exact h⟩
theorem DG.step {w wx:World} {b P C k:Nat} (h:DG w b P C k wx):DG w b P C (k+1) wx:=⟨h.1,h.2.mono (by rw[Nat.succ_mul];omega)⟩
theorem DG.more {w wx wy:World} {b P C k c:Nat} (h:DG w b P C k wx) (g:wx.grownBy wy (some b)) (r:RdP wy b (P+k*C+c)) (hc:c≤C):DG w b P C (k+1) wy:=⟨grown_trans h.1 g,r.mono (by rw[Nat.succ_mul];omega)⟩
theorem DG.ext {w wx wy:World} {b P C k:Nat} (h:DG w b P C k wx) (e:Ext wx wy):DG w b P C (k+1) wy:=⟨grown_ext h.1 e,(h.2.ext e).mono (by rw[Nat.succ_mul];omega)⟩
theorem RdP.set {w:World} {b P q j:Nat} {v:Value} (h:RdP w b P) (hq:b<q):RdP (w.setCell ⟨q,j,none⟩ v) b P:=by
 obtain⟨p,h1,h2⟩:=h;exact⟨p,h1,h2.set hq⟩
theorem DG.set {w wx:World} {b P C k q j:Nat} {v:Value} (h:DG w b P C k wx) (hq:w.heap.size≤q) (hb:b<q):DG w b P C k (wx.setCell ⟨q,j,none⟩ v):=⟨grown_set h.1 hq,h.2.set hb⟩
theorem grown_drew {w wx:World} {r:Option Nat} (g:w.grownBy wx r):w.grownBy wx.drew r:=⟨g.os,g.tape,g.output,g.size,fun i hi hne=>g.block i hi hne⟩
theorem DG.drew {w wx:World} {b P C k:Nat} (h:DG w b P C k wx):DG w b P C k wx.drew:=⟨grown_drew h.1,h.2.drew⟩
theorem DG.reset {w wx:World} {b P C k P':Nat} (h:DG w b P C k wx) (hP:P+k*C≤P') (C':Nat):DG w b P' C' 0 wx:=⟨h.1,h.2.mono (by omega)⟩
theorem DG.small {k n P C:Nat} (h:k<n) (hn:n≤1000) (hC:C≤100000000) (hP:P<2^39):P+k*C<2^40:=by
 have:k*C≤1000*100000000:=Nat.mul_le_mul (by omega) hC;omega
theorem DG.bd {k n P C:Nat} (h:k<n) (hn:n≤1000) (hC:C≤10000000) (hP:P≤2^37):P+k*C<2^38:=by
 have:k*C≤1000*10000000:=Nat.mul_le_mul (by omega) hC;omega
theorem ext_gr {w w':World} {r:Option Nat} (e:Ext w w'):w.grownBy w' r:=⟨e.os,e.tape,e.output,e.size,fun k hk _=>e.block k hk⟩
/-- The same, with a fact of the world that draws do not touch. -/
def DGI (w:World) (b P C:Nat) (I:World→Prop) (k:Nat) (wx:World):Prop:=DG w b P C k wx∧I wx∧∀ wa wb:World,wa.grownBy wb (some b)→I wa→I wb
theorem DGI.step {w wx:World} {b P C k:Nat} {I:World→Prop} (h:DGI w b P C I k wx):DGI w b P C I (k+1) wx:=⟨h.1.step,h.2⟩
theorem DGI.more {w wx wy:World} {b P C k c:Nat} {I:World→Prop} (h:DGI w b P C I k wx) (g:wx.grownBy wy (some b)) (r:RdP wy b (P+k*C+c)) (hc:c≤C):DGI w b P C I (k+1) wy:=⟨h.1.more g r hc,h.2.2 _ _ g h.2.1,h.2.2⟩
theorem DGI.ext {w wx wy:World} {b P C k:Nat} {I:World→Prop} (h:DGI w b P C I k wx) (e:Ext wx wy):DGI w b P C I (k+1) wy:=⟨h.1.ext e,h.2.2 _ _ (ext_gr e) h.2.1,h.2.2⟩
theorem DGI.drew {w wx:World} {b P C k:Nat} {I:World→Prop} (h:DGI w b P C I k wx):DGI w b P C I k wx.drew:=⟨h.1.drew,h.2.2 _ _ (ext_gr (Ext.drewN _ 1)) h.2.1,h.2.2⟩
theorem DGI.reset {w wx:World} {b P C k P':Nat} {I:World→Prop} (h:DGI w b P C I k wx) (hP:P+k*C≤P') (C':Nat):DGI w b P' C' I 0 wx:=⟨h.1.reset hP C',h.2⟩
/-- A list of n numbers in lo..hi, in a block of its own. -/
def SlR (w:World) (b:Nat) (v:Value) (n:Nat) (lo hi:Int):Prop :=
 ∃(g:Nat) (xs:List Int),v= .slice (some ⟨g,0,none⟩) n n∧b≤g∧Sl w (some ⟨g,0,none⟩) n (xs.map (Value.int .i64))∧∀ x∈xs,lo≤x∧x≤hi
theorem SlR.grown {w w':World} {b B:Nat} {v:Value} {n:Nat} {lo hi:Int} (h:SlR w B v n lo hi) (e:w.grownBy w' (some b)) (hb:b<B):SlR w' B v n lo hi:=by
 obtain⟨g,xs,h1,h2,h3,h4⟩:=h;exact⟨g,xs,h1,h2,h3.grown e (fun x hx he=>by simp at hx he;rw[←hx]at he;simp at he;omega),h4⟩
theorem SlR.set {w:World} {B q j:Nat} {u:Value} {v:Value} {n:Nat} {lo hi:Int} (h:SlR w B v n lo hi) (hq:q<B):SlR (w.setCell ⟨q,j,none⟩ u) B v n lo hi :=
 h.grown ⟨rfl,rfl,rfl,by simp,fun k _ hk=>heap_setCell_other w ⟨q,j,none⟩ k _ (fun e=>hk (by simp[e]))⟩ hq
/-- An address of a number in lo..hi. -/
def PtR (w:World) (b:Nat) (v:Value) (lo hi:Int):Prop :=
 ∃(g j:Nat) (y:Int),v= .pointer (some ⟨g,j,none⟩)∧b≤g∧w.cell? ⟨g,j,none⟩=some (.int .i64 y)∧lo≤y∧y≤hi
theorem PtR.grown {w w':World} {b B:Nat} {v:Value} {lo hi:Int} (h:PtR w B v lo hi) (e:w.grownBy w' (some b)) (hb:b<B):PtR w' B v lo hi:=by
 obtain⟨g,j,y,h1,h2,h3,h4,h5⟩:=h;exact⟨g,j,y,h1,h2,e.cell h3 (by intro he;simp at he;omega),h4,h5⟩
theorem PtR.set {w:World} {B q j:Nat} {u:Value} {v:Value} {lo hi:Int} (h:PtR w B v lo hi) (hq:q<B):PtR (w.setCell ⟨q,j,none⟩ u) B v lo hi :=
 h.grown ⟨rfl,rfl,rfl,by simp,fun k _ hk=>heap_setCell_other w ⟨q,j,none⟩ k _ (fun e=>hk (by simp[e]))⟩ hq
theorem cell_of_blk {w:World} {b:Nat} {arr:Array Value} {T:TypeId} {i:Nat} {v:Value} (h:w.heap[b]?=some (.cells arr T (0,0))) (hi:arr[i]?=some v):w.cell? ⟨b,i,none⟩=some v:=by
 simp[World.cell?,h,hi]
theorem Sl_new (w:World) (vs:List Value) (T:TypeId):Sl (w.alloc (.cells vs.toArray T (0,0))) (some ⟨w.heap.size,0,none⟩) vs.length vs:=by
 refine⟨rfl,fun i hi=>⟨w.heap.size,0,rfl,?_⟩⟩;exact cell_of_blk (blk_new _ _) (by simp[hi])
theorem SlR.at {w:World} {g b n:Nat} {l:List Int} {lo hi:Int} {i:Nat} (hne:b≤g) (s:Sl w (some ⟨g,0,none⟩) n (l.map (Value.int .i64))) (h:∀ x∈l,lo≤x∧x≤hi) (hi':i<n):PtR w b (.pointer (some ⟨g,i,none⟩)) lo hi:=by
 obtain⟨b',o',h1,h2⟩:=s.int hi';simp only[Option.some.injEq,Addr.mk.injEq,and_true]at h1;obtain⟨rfl,rfl⟩:=h1;rw[Nat.zero_add]at h2;have hl:i<l.length:=by rw[s.int_len];exact hi'
 have h3:=h (nth l i) (by rw[nth_eq _ _ hl];exact List.getElem_mem hl);exact⟨_,_,_,rfl,hne,h2,h3.1,h3.2⟩
theorem mod_rng {a b:Int} (h1:0≤a) (h2:1≤b):0≤a%b∧a%b<b∧a%b≤a :=
 ⟨Int.emod_nonneg _ (by omega),Int.emod_lt_of_pos _ (by omega),by
  have h3:=Int.mul_ediv_add_emod a b;have h4:=Int.mul_nonneg (show 0≤b by omega) (Int.ediv_nonneg h1 (show 0≤b by omega));omega⟩
theorem div_rng {a b:Int} (h1:0≤a) (h2:1≤b):0≤a/b∧a/b≤a :=
 ⟨Int.ediv_nonneg h1 (by omega),Int.ediv_le_self _ h1⟩
theorem odd_c (b P:Nat) (n:Int) (w:World) (h:RdP w b P) (hp:P<2^40) (hn0:1≤n) (hn:n≤1000000000) :
 Calls Tryz.prog 88 #[.pointer (some ⟨b,0,none⟩),.int .i64 n] w fun e w'=>∃ x:Bool,e= .returned (.bool x)∧RdP w' b (P+1)∧w.grownBy w' (some b):=by
 go_enter Tryz.func88,Tryz.ntmps88
 go_wp2_with fail
 refine(pick_c b P n _ h hp hn0 hn).mono ?_
 rintro e w1 ⟨x,rfl,x0,x1,r,g⟩
 go_wp2;go_ret
 exact⟨_,rfl,r,g⟩
theorem odd_0 (b:Nat) (n:Int) (w:World) (hn:n≤0) :
 Calls Tryz.prog 88 #[.pointer (some ⟨b,0,none⟩),.int .i64 n] w fun e w'=>e= .returned (.bool false)∧w=w':=by
 go_enter Tryz.func88,Tryz.ntmps88
 go_wp2;go_ret
 exact⟨rfl,rfl⟩
theorem gr_blk {w w':World} {b q:Nat} {o:Obj} (g:w.grownBy w' (some b)) (h:w.heap[q]?=some o) (hne:q≠b):w'.heap[q]?=some o:=by
 rw[g.block q (lt_of_block h) (by simp;exact fun e=>hne e)];exact h
theorem own_gr {w w':World} {base e size n b:Nat} {v:Value} {xs:List Value} (h:w.ownsRow base e size v n xs) (g:w.grownBy w' (some b)) (hb:b<base):w'.ownsRow base e size v n xs:=by
 refine h.kept g ?_;cases hv:v.ownBlock with
 | none=>exact .inl rfl
 | some k=>right;have:=(h.lt k hv).1;simp;omega
theorem own_ne_blk {w:World} {base e size n q:Nat} {v:Value} {xs:List Value} {arr:Array Value} {T:TypeId} (h:w.ownsRow base e size v n xs) (hq:w.heap[q]?=some (.cells arr T (0,0))) (hne:e≠T):v.ownBlock=none∨v.ownBlock≠some q:=by
 rcases h.2 with⟨rfl,-⟩|⟨g,cap,cur,rfl,-,p1,-⟩
 ·exact .inl rfl
 ·right
  intro he;simp[Value.ownBlock]at he;subst he;rw[p1]at hq;simp at hq;exact hne hq.2
theorem blk_gr {w w':World} {b:Nat} {o:Obj} {row:Option Nat} (h:w.heap[b]?=some o) (g:w.grownBy w' row) (hne:row≠some b):w'.heap[b]?=some o:=by
 rw[g.block b (lt_of_block h) (fun e=>hne e.symm)];exact h
/-- A picture: its sides and its samples. -/
structure Pic where
 w:Int
 h:Int
 px:List Int
/-- All numbers are samples. -/
def smp (zs:List Int):Prop:=∀ z∈zs,0≤z∧z≤255
instance decSmp (zs : List Int) : Decidable (smp zs) := by unfold smp; infer_instance
def side (n:Int):Prop:=8≤n∧n≤32∧n%8=0
instance decSide (n : Int) : Decidable (side n) := by unfold side; infer_instance
def Pic.valid (p:Pic):Prop:=side p.w∧side p.h∧(p.px.length:Int)=p.w*p.h∧smp p.px
instance decPicValid (p : Pic) : Decidable p.valid := by unfold Pic.valid; infer_instance
def pic0 : Pic:=⟨0,0,[]⟩
theorem smp_nth {zs:List Int} (h:smp zs) {i:Nat} (hi:i<zs.length):0≤nth zs i∧nth zs i≤255:=by
 rw[nth_eq _ _ hi];exact h _ (List.getElem_mem hi)
theorem smp_of_nth {zs:List Int} (h:∀ i,i<zs.length→0≤nth zs i∧nth zs i≤255):smp zs:=by
 intro z hz;obtain⟨i,hi,rfl⟩:=List.getElem_of_mem hz;rw[←nth_eq _ _ hi];exact h i hi
/-- The number of samples. -/
theorem area_le {a b:Int} (h1:side a) (h2:side b):64≤a*b∧a*b≤1024:=by
 obtain⟨a1,a2,-⟩:=h1;obtain⟨b1,b2,-⟩:=h2
 constructor
 ·have:=Int.mul_le_mul a1 b1 (by omega) (by omega);omega
 ·have:=Int.mul_le_mul a2 b2 (by omega) (by omega);omega
theorem Pic.len_le {p:Pic} (h:p.valid):64≤p.px.length∧p.px.length≤1024:=by
 have:=area_le h.1 h.2.1;have:=h.2.2.1;omega
theorem sl_bound {w:World} {a:Option Addr} {n:Nat} {zs:List Int} (h:Sl w a n (zs.map (Value.int .i64))) (y:Addr) (hy:a=some y) (h0:0<n):y.block<w.heap.size:=by
 obtain⟨b,o,e,c⟩:=h.int h0;rw[hy]at e;simp only[Option.some.injEq]at e;subst e;exact World.block_lt_of_cell? w _ c
theorem size_Picture : (Tryz.prog.info? 25).map (·.size)=some 3:=by kernel_rfl
theorem sideValid_yes (x:Int) (w:World) (h1:8≤x) (h2:x≤32) (h3:x%8=0) :
 Calls Tryz.prog 100 #[.int .i64 x] w fun e w'=>e= .returned (.bool true)∧w=w':=by
 have hm:=Lib.hid h3;clear h3;go_enter Tryz.func100,Tryz.ntmps100
 go_wp2;go_ret
 exact⟨by simp[hm.out],rfl⟩
theorem sampleValid_yes (x:Int) (w:World) (h1:0≤x) (h2:x≤255) :
 Calls Tryz.prog 101 #[.int .i64 x] w fun e w'=>e= .returned (.bool true)∧w=w':=by
 go_enter Tryz.func101,Tryz.ntmps101
 go_wp2;go_ret
 exact⟨by simp,rfl⟩
theorem NewPicture_any (x y v:Int) (n:Nat) (w:World) (hx:8≤x∧x≤32∧x%8=0) (hy:8≤y∧y≤32∧y%8=0) (hv:0≤v∧v≤255) (hn:x*y=n) (hn2:n≤1024) :
 Calls Tryz.prog 44 #[.int .i64 x,.int .i64 y,.int .i64 v] w fun e w'=>∃ a c,e= .returned (.agg #[.int .i64 x,.int .i64 y,.slice a n c])∧w'.ownsRow w.heap.size 3 1 (.slice a n c) n (List.replicate n (.int .i64 v))∧Ext w w':=by
 have Hx:=Lib.hid hx;have Hy:=Lib.hid hy;have Hv:=Lib.hid hv;have Hn:=Lib.hid hn;clear hx hy hv hn;go_enter Tryz.func44,Tryz.ntmps44
 go_wp2_with fail
 refine(sideValid_yes x _ Hx.out.1 Hx.out.2.1 Hx.out.2.2).mono ?_
 rintro e w1 ⟨rfl,rfl⟩
 go_wp2_with fail
 refine(sideValid_yes y _ Hy.out.1 Hy.out.2.1 Hy.out.2.2).mono ?_
 rintro e w1 ⟨rfl,rfl⟩
 go_wp2_with fail
 refine(sampleValid_yes v _ Hv.out.1 Hv.out.2).mono ?_
 rintro e w1 ⟨rfl,rfl⟩
 have hb:x*y≤1024:=by rw[Hn.out];omega
 have hb0:0≤x*y:=by rw[Hn.out];omega
 have p0:=blk_new w (.cells #[.int .i64 0,.int .i64 0,.slice none 0 0] 25);go_wp2_with (at_make;refine wpList_mk _ rfl _ _ 23 rfl 3 (.int .i64 0) 8 Tryz.underlying23 info_int rfl _ n rfl rfl Hn.out (by omega) (by omega) ?_;intro w1 hown hgrow)
 have e1:Ext (w.alloc (.cells #[.int .i64 0,.int .i64 0,.slice none 0 0] 25)) w1:=Ext.grown (Below.refl _ _) hgrow (by simp);simp only[World.size_alloc]at hown;have E1:Ext w w1:=Ext.trans (Ext.alloc _ _) e1;have hB:w.heap.size+1<w1.heap.size:=(hown.lt _ rfl).2;have p1:=e1.blk p0;clear p0 e1 hgrow;have p2:=blk_alloc p1 (.cells #[.int .i64 x,.int .i64 y,.slice (some ⟨w.heap.size+1,0,none⟩) n n] 25);have q2:=blk_new w1 (.cells #[.int .i64 x,.int .i64 y,.slice (some ⟨w.heap.size+1,0,none⟩) n n] 25);have E2:Ext w (w1.alloc (.cells #[.int .i64 x,.int .i64 y,.slice (some ⟨w.heap.size+1,0,none⟩) n n] 25)):=E1.trans (Ext.alloc _ _);have hsz:w.heap.size+1≤w1.heap.size:=by have:=lt_of_block p1;omega
 have own2:=owns_ext hown (Ext.alloc w1 (.cells #[.int .i64 x,.int .i64 y,.slice (some ⟨w.heap.size+1,0,none⟩) n n] 25));have H0:=mix_zero (List.replicate n (.int .i64 v)) (List.replicate n (.int .i64 0));rw[←H0]at own2;clear H0 p1 hown E1;generalize w1.alloc (.cells #[.int .i64 x,.int .i64 y,.slice (some ⟨w.heap.size+1,0,none⟩) n n] 25)=w2 at *;generalize w1.heap.size=B at *;go_loopw [8,33] (fun _ i wr=>∃ k:Nat,k≤n∧i= .int .i64 k∧Ext w wr∧wr.heap[w.heap.size]?=some (.cells #[.int .i64 0,.int .i64 0,.slice none 0 0] 25 (0,0))∧wr.heap[B]?=some (.cells #[.int .i64 x,.int .i64 y,.slice (some ⟨w.heap.size+1,0,none⟩) n n] 25 (0,0))∧wr.ownsRow (w.heap.size+1) 3 1 (.slice (some ⟨w.heap.size+1,0,none⟩) n n) n (mix (List.replicate n (.int .i64 v)) (List.replicate n (.int .i64 0)) k)) (fun _ i _=>n-(intOf i).toNat)
 case atStart=>exact⟨0,by omega,rfl,E2,p2,q2,own2⟩
 case round =>
  obtain⟨k,hk,rfl,E3,p3,q3,own3⟩:=hrel;clear p2 q2 own2 E2;obtain⟨z0,z1,z2,z3,z4,z5,z6⟩:=bx3 q3
  by_cases hlt:k<n
  ·obtain⟨u,g2,-⟩:=owns_get own3 hlt;have g3:=own3.frozenAt k;go_wp2;go_roundw
   case rel =>
    obtain⟨o2,gr⟩:=own3.stored k (.int .i64 v);rw[mix_set _ _ k (by simp) (by simp[hlt]) _ (by simp[hlt])]at o2;exact⟨k+1,by omega,rfl,Ext.grown E3 gr (by simp),by rw[gr.block _ (lt_of_block p3) (by simp)];exact p3,by rw[gr.block _ (lt_of_block q3) (by simp;omega)];exact q3,o2⟩
   case measure=>simp[intOf];omega
  ·obtain rfl:k=n:=by omega
   rw[mix_all _ _ k (by simp) (by simp)]at own3;obtain⟨y0,y1,y2,y3,y4,y5,y6⟩:=bx3 p3;have hne:B≠w.heap.size:=by omega
   go_wp2;have p4:=blk_set3 (x' := .int .i64 x) (y' := .int .i64 y) (z' := .slice (some ⟨w.heap.size+1,0,none⟩) k k) p3;obtain⟨x0,x1,x2,x3,-⟩:=bx3 p4;refine bodyPost_ret (v := .agg #[.int .i64 x,.int .i64 y,.slice (some ⟨w.heap.size+1,0,none⟩) k k]) (by simp[results,Tryz.results44,go_sem,x1,x2,x3]) rfl ⟨_,_,rfl,?_,?_⟩
   ·have hlt:∀ i:Nat,(⟨w.heap.size,i,none⟩:Addr).block<w.heap.size+1:=fun i=>Nat.lt_succ_self _
    exact owns_mono (ownsRow_setCell_below (ownsRow_setCell_below (ownsRow_setCell_below own3 (hlt 0) _) (hlt 1) _) (hlt 2) _) (by omega)
   ·exact(((E3.setCell (Nat.le_refl _) _).setCell (Nat.le_refl _) _).setCell (Nat.le_refl _) _)
theorem alive_any (w:World):Calls Tryz.prog 10 #[] w fun e w'=>e= .returned (.bool true)∧Ext w w':=by
 go_enter Tryz.func10,Tryz.ntmps10
 go_wp2_with fail
 refine(NewPicture_any 8 8 7 64 _ (by decide) (by decide) (by decide) (by decide) (by decide)).mono ?_
 rintro e w1 ⟨a,c,rfl,-,e1⟩
 have hfd:∀ w:World,(Instr.field 25 (.agg #[.int .i64 8,.int .i64 8,.slice a 64 c]) 2).run Tryz.prog w= .ok (.slice a 64 c) w:=fun _=>by kernel_rfl
 go_wp2;go_ret
 exact⟨rfl,e1⟩
theorem smp_no {zs:List Int} {k:Nat} (hk:k<zs.length) (h:nth zs k<0∨255<nth zs k) : ¬ smp zs:=fun hs=>by
 have:=smp_nth hs hk;omega
theorem smp_yes {zs:List Int} (h:∀ j,j<zs.length→0≤nth zs j∧nth zs j≤255):smp zs:=smp_of_nth h
def shaped (W H:Int) (n:Nat):Prop:=side W∧side H∧(n:Int)=W*H
theorem spec_PictureValid_in (W H:Int) (a:Option Addr) (c n:Nat) (zs:List Int) (w:World) (r:Sl w a n (zs.map (Value.int .i64))) (hs:shaped W H n) :
 Calls Tryz.prog 80 #[.agg #[.int .i64 W,.int .i64 H,.slice a n c]] w fun e w'=>e= .returned (.bool (decide (smp zs)))∧Ext w w':=by
 obtain⟨⟨w1,w2,w3⟩,⟨h1,h2,h3⟩,hn⟩:=hs;have hp:=area_le ⟨w1,w2,w3⟩ ⟨h1,h2,h3⟩;have hl:=r.int_len;have Hl:=Lib.hid hl;have hnb:n≤1024:=by omega
 have hd1:((n:Int) != W*H)=false:=by simp[hn]
 have hdw:(W%8 != 0)=false:=by simp[w3]
 have hdh:(H%8 != 0)=false:=by simp[h3]
 have E0:=Ext.alloc w (.cells #[.int .i64 W,.int .i64 H,.slice a n c] 25);have p0:=blk_new w (.cells #[.int .i64 W,.int .i64 H,.slice a n c] 25);clear hn w3 h3 hl;go_enter Tryz.func80,Tryz.ntmps80
 go_wp2_with fail
 refine(l1In_yes _ _ _ _ w1 w2).mono ?_
 rintro e w1' ⟨rfl,rfl⟩
 go_wp2_with fail
 refine(l1In_yes _ _ _ _ h1 h2).mono ?_
 rintro e w1' ⟨rfl,rfl⟩
 go_wp2_with fail
 go_loop [3] (fun i=>∃ k:Nat,k≤n∧i= .int .i64 k∧Hid (∀ j,j<k→0≤nth zs j∧nth zs j≤255)) (fun i=>n-(intOf i).toNat)
 case atStart=>exact⟨0,by omega,rfl,Lib.hid (fun j hj=>by omega)⟩
 case round =>
  obtain⟨k,hk,rfl,hall⟩:=hrel
  by_cases hlt:k<n
  ·obtain⟨b1,o1,rfl,g1⟩:=(r.ext E0).int hlt
   by_cases hin:0≤nth zs k∧nth zs k≤255
   ·have hall2:=Lib.hid (show ∀ j,j<k+1→0≤nth zs j∧nth zs j≤255 from fun j hj=>by
     rcases Nat.lt_succ_iff_lt_or_eq.1 hj with h|rfl
     ·exact hall.out j h
     ·exact hin)
    generalize nth zs k=z at *;go_wp2_with fail
    refine(l1In_yes _ _ _ _ hin.1 hin.2).mono ?_
    rintro e w2' ⟨rfl,rfl⟩
    go_wp2;go_round
    case rel=>exact⟨k+1,by omega,by go_num,hall2⟩
    case measure=>simp[intOf];omega
   ·have hno:=Lib.hid (smp_no (zs:=zs) (k:=k) (by rw[Hl.out];exact hlt) (by omega));generalize nth zs k=z at *;go_wp2_with fail
    refine(l1In_no _ _ _ _ (by omega)).mono ?_
    rintro e w2' ⟨rfl,rfl⟩
    go_wp2;go_ret
    exact⟨(ret_bool (decide_eq_false hno.out)).symm,E0⟩
  ·obtain rfl:k=n:=by omega
   go_wp2;go_ret
   exact⟨(ret_bool (decide_eq_true (smp_yes (fun j hj=>hall.out j (by rw[Hl.out]at hj;exact hj))))).symm,E0⟩
theorem spec_PictureValid_out (W H:Int) (a:Option Addr) (c n:Nat) (w:World) (hc:n≤9223372036854775807) (hs : ¬ shaped W H n) :
 Calls Tryz.prog 80 #[.agg #[.int .i64 W,.int .i64 H,.slice a n c]] w fun e w'=>e= .returned (.bool false)∧Ext w w':=by
 have E0:=Ext.alloc w (.cells #[.int .i64 W,.int .i64 H,.slice a n c] 25);have p0:=blk_new w (.cells #[.int .i64 W,.int .i64 H,.slice a n c] 25)
 by_cases hw:8≤W∧W≤32
 ·by_cases hh:8≤H∧H≤32
  ·by_cases hw8:W%8=0
   ·have hdw:(W%8 != 0)=false:=by simp[hw8]
    by_cases hh8:H%8=0
    ·have hdh:(H%8 != 0)=false:=by simp[hh8]
     have hp:=area_le ⟨hw.1,hw.2,hw8⟩ ⟨hh.1,hh.2,hh8⟩;have hd1:((n:Int) != W*H)=true:=by
      simp;intro he;exact hs ⟨⟨hw.1,hw.2,hw8⟩,⟨hh.1,hh.2,hh8⟩,he⟩
     clear hw8 hh8 hs;go_enter Tryz.func80,Tryz.ntmps80
     go_wp2_with fail
     refine(l1In_yes _ _ _ _ hw.1 hw.2).mono ?_
     rintro e w1' ⟨rfl,rfl⟩
     go_wp2_with fail
     refine(l1In_yes _ _ _ _ hh.1 hh.2).mono ?_
     rintro e w1' ⟨rfl,rfl⟩
     go_wp2;go_ret
     exact⟨rfl,E0⟩
    ·have hdh:(H%8 != 0)=true:=by simp[hh8]
     clear hw8 hs;go_enter Tryz.func80,Tryz.ntmps80
     go_wp2_with fail
     refine(l1In_yes _ _ _ _ hw.1 hw.2).mono ?_
     rintro e w1' ⟨rfl,rfl⟩
     go_wp2_with fail
     refine(l1In_yes _ _ _ _ hh.1 hh.2).mono ?_
     rintro e w1' ⟨rfl,rfl⟩
     go_wp2;go_ret
     exact⟨rfl,E0⟩
   ·have hdw:(W%8 != 0)=true:=by simp[hw8]
    clear hs;go_enter Tryz.func80,Tryz.ntmps80
    go_wp2_with fail
    refine(l1In_yes _ _ _ _ hw.1 hw.2).mono ?_
    rintro e w1' ⟨rfl,rfl⟩
    go_wp2_with fail
    refine(l1In_yes _ _ _ _ hh.1 hh.2).mono ?_
    rintro e w1' ⟨rfl,rfl⟩
    go_wp2;go_ret
    exact⟨rfl,E0⟩
  ·clear hs;go_enter Tryz.func80,Tryz.ntmps80
   go_wp2_with fail
   refine(l1In_yes _ _ _ _ hw.1 hw.2).mono ?_
   rintro e w1' ⟨rfl,rfl⟩
   go_wp2_with fail
   refine(l1In_no _ _ _ _ (by omega)).mono ?_
   rintro e w1' ⟨rfl,rfl⟩
   go_wp2;go_ret
   exact⟨rfl,E0⟩
 ·clear hs;go_enter Tryz.func80,Tryz.ntmps80
  go_wp2_with fail
  refine(l1In_no _ _ _ _ (by omega)).mono ?_
  rintro e w1' ⟨rfl,rfl⟩
  go_wp2;go_ret
  exact⟨rfl,E0⟩
theorem spec_PictureValid_any (p:Pic) (a:Option Addr) (c n:Nat) (w:World) (hn:n=p.px.length) (hc:n≤9223372036854775807) (r:Sl w a n (p.px.map (Value.int .i64))) :
 Calls Tryz.prog 80 #[.agg #[.int .i64 p.w,.int .i64 p.h,.slice a n c]] w fun e w'=>e= .returned (.bool (decide p.valid))∧Ext w w':=by
 subst hn
 by_cases hs:shaped p.w p.h p.px.length
 ·have h:=spec_PictureValid_in p.w p.h a c _ p.px w r hs;rw[show decide (smp p.px)=decide p.valid from decide_eq_decide.2 ⟨fun h=>⟨hs.1,hs.2.1,hs.2.2,h⟩,fun h=>h.2.2.2⟩]at h;exact h
 ·rw[decide_eq_false (fun h=>hs ⟨h.1,h.2.1,h.2.2.1⟩)];exact spec_PictureValid_out p.w p.h a c _ w hc hs
theorem sideValid_dec (x:Int) (w:World):Calls Tryz.prog 100 #[.int .i64 x] w fun e w'=>e= .returned (.bool (decide (side x)))∧w=w':=by
 by_cases h1:8≤x
 ·have d1:decide (8≤x)=true:=by simpa using h1
  by_cases h2:x≤32
  ·have d2:decide (x≤32)=true:=by simpa using h2
   by_cases h3:x%8=0
   ·have d3:(x%8 == 0)=true:=by simp[h3]
    have H:=Lib.hid (show decide (side x)=true from decide_eq_true ⟨h1,h2,h3⟩);clear h3;go_enter Tryz.func100,Tryz.ntmps100
    go_wp2;go_ret
    exact⟨(ret_bool H.out).symm,rfl⟩
   ·have d3:(x%8 == 0)=false:=by simp[h3]
    have H:=Lib.hid (show decide (side x)=false from decide_eq_false (fun h=>h3 h.2.2));clear h3;go_enter Tryz.func100,Tryz.ntmps100
    go_wp2;go_ret
    exact⟨(ret_bool H.out).symm,rfl⟩
  ·have d2:decide (x≤32)=false:=by simpa using h2
   have H:=Lib.hid (show decide (side x)=false from decide_eq_false (fun h=>h2 h.2.1));go_enter Tryz.func100,Tryz.ntmps100
   go_wp2;go_ret
   exact⟨(ret_bool H.out).symm,rfl⟩
 ·have d1:decide (8≤x)=false:=by simpa using h1
  have H:=Lib.hid (show decide (side x)=false from decide_eq_false (fun h=>h1 h.1));go_enter Tryz.func100,Tryz.ntmps100
  go_wp2;go_ret
  exact⟨(ret_bool H.out).symm,rfl⟩
theorem sampleValid_no (x:Int) (w:World) (h:x<0∨255<x):Calls Tryz.prog 101 #[.int .i64 x] w fun e w'=>e= .returned (.bool false)∧w=w':=by
 by_cases h1:0≤x
 ·have d1:decide (0≤x)=true:=by simpa using h1
  have d2:decide (x≤255)=false:=by simp;omega
  go_enter Tryz.func101,Tryz.ntmps101
  go_wp2;go_ret
  exact⟨rfl,rfl⟩
 ·have d1:decide (0≤x)=false:=by simpa using h1
  go_enter Tryz.func101,Tryz.ntmps101
  go_wp2;go_ret
  exact⟨rfl,rfl⟩
theorem samplesIn_any (a:Option Addr) (c n:Nat) (zs:List Int) (w:World) (hn:n<2^47) (r:Sl w a n (zs.map (Value.int .i64))) :
 Calls Tryz.prog 103 #[.slice a n c] w fun e w'=>e= .returned (.bool (decide (smp zs)))∧w=w':=by
 have Hl:=Lib.hid r.int_len;go_enter Tryz.func103,Tryz.ntmps103
 go_wp2;go_loop [7] (fun i=>∃ k:Nat,k≤n∧i= .int .i64 k∧Hid (∀ j,j<k→0≤nth zs j∧nth zs j≤255)) (fun i=>n-(intOf i).toNat)
 case atStart=>exact⟨0,by omega,rfl,Lib.hid (fun j hj=>by omega)⟩
 case round =>
  obtain⟨k,hk,rfl,hall⟩:=hrel
  by_cases hlt:k<n
  ·obtain⟨b1,o1,rfl,g1⟩:=r.int hlt
   by_cases hin:0≤nth zs k∧nth zs k≤255
   ·have hall2:=Lib.hid (show ∀ j,j<k+1→0≤nth zs j∧nth zs j≤255 from fun j hj=>by
     rcases Nat.lt_succ_iff_lt_or_eq.1 hj with h|rfl
     ·exact hall.out j h
     ·exact hin)
    generalize nth zs k=z at *;go_wp2_with fail
    refine(sampleValid_yes z _ hin.1 hin.2).mono ?_
    rintro e w2' ⟨rfl,rfl⟩
    go_wp2;go_round
    case rel=>exact⟨k+1,by omega,by go_num,hall2⟩
    case measure=>simp[intOf];omega
   ·have hno:=Lib.hid (smp_no (zs:=zs) (k:=k) (by rw[Hl.out];exact hlt) (by omega));generalize nth zs k=z at *;go_wp2_with fail
    refine(sampleValid_no z _ (by omega)).mono ?_
    rintro e w2' ⟨rfl,rfl⟩
    go_wp2;go_ret
    exact⟨(ret_bool (decide_eq_false hno.out)).symm,rfl⟩
  ·obtain rfl:k=n:=by omega
   go_wp2;go_ret
   exact⟨(ret_bool (decide_eq_true (smp_yes (fun j hj=>hall.out j (by rw[Hl.out]at hj;exact hj))))).symm,rfl⟩
theorem impl_PictureValid_any (p:Pic) (a:Option Addr) (c n:Nat) (w:World) (hn:n=p.px.length) (hc:n≤9223372036854775807) (r:Sl w a n (p.px.map (Value.int .i64))) :
 Calls Tryz.prog 47 #[.agg #[.int .i64 p.w,.int .i64 p.h,.slice a n c]] w fun e w'=>e= .returned (.bool (decide p.valid))∧Ext w w':=by
 obtain⟨W,H,zs⟩:=p;have E0:=Ext.alloc w (.cells #[.int .i64 W,.int .i64 H,.slice a n c] 25);have p0:=blk_new w (.cells #[.int .i64 W,.int .i64 H,.slice a n c] 25);have HN:=Lib.hid hn;clear hn;go_enter Tryz.func47,Tryz.ntmps47
 go_wp2_with fail
 refine(sideValid_dec W _).mono ?_
 rintro e w1' ⟨rfl,rfl⟩
 by_cases hw:side W
 ·rw[decide_eq_true hw];go_wp2_with fail
  refine(sideValid_dec H _).mono ?_
  rintro e w1' ⟨rfl,rfl⟩
  by_cases hh:side H
  ·rw[decide_eq_true hh];have hp:=area_le hw hh;have hw1:=hw.1;have hw2:=hw.2.1;have hh1:=hh.1;have hh2:=hh.2.1
   by_cases hd:(n:Int)=W*H
   ·have hd1:((n:Int) != W*H)=false:=by simp[hd]
    have hnb:n≤1024:=by omega
    have H2:=Lib.hid (show smp zs↔Pic.valid ⟨W,H,zs⟩from ⟨fun h=>⟨hw,hh,by rw[←hd,HN.out],h⟩,fun h=>h.2.2.2⟩);clear hw hh hd;go_wp2_with fail
    refine(samplesIn_any a c n zs _ (by omega) (r.ext E0)).mono ?_
    rintro e w1' ⟨rfl,rfl⟩
    go_wp2;go_ret
    exact⟨ret_bool (decide_eq_decide.2 H2.out),E0⟩
   ·have hd1:((n:Int) != W*H)=true:=by simpa using hd
    have H2:=Lib.hid (show ¬ Pic.valid ⟨W,H,zs⟩from fun h=>hd (by rw[HN.out];exact h.2.2.1));clear hw hh hd;go_wp2;go_ret
    exact⟨(ret_bool (decide_eq_false H2.out)).symm,E0⟩
  ·rw[decide_eq_false hh];have H2:=Lib.hid (show ¬ Pic.valid ⟨W,H,zs⟩from fun h=>hh h.2.1);clear hw hh;go_wp2;go_ret
   exact⟨(ret_bool (decide_eq_false H2.out)).symm,E0⟩
 ·rw[decide_eq_false hw];have H2:=Lib.hid (show ¬ Pic.valid ⟨W,H,zs⟩from fun h=>hw h.1);clear hw;go_wp2;go_ret
  exact⟨(ret_bool (decide_eq_false H2.out)).symm,E0⟩
section
variable {P : Program} (w : World)
theorem run_app_nil (base:Nat) (t ty e:TypeId) (i:TypeInfo) (size:Nat) (ht:P.underlying t=some (.slice e)) (hi:P.info? e=some i)
 (v:Value) (n:Nat) (xs:List Value) (hown:w.ownsRow base e size v n xs) (c:Nat):(Builtin.append_ #[t,t] ty #[v,.slice none 0 c]).run P w= .ok v w:=by
 rcases hown.2 with⟨rfl,rfl⟩|⟨g,cap,cur,rfl,_,_,hnc,_⟩
 ·simp[Builtin.append_,run_underlying ht,sizeOf,typeInfo,hi,Builtin.lenOf,Builtin.firstCells]
 ·simp[Builtin.append_,run_underlying ht,sizeOf,typeInfo,hi,Builtin.lenOf,Builtin.firstCells,hnc,storeCells]
theorem Sl.cellsOf {a:Addr} {m:Nat} {us:List Value} (h:Sl w (some a) m us) (hm:0<m):∀ j u,us[j]?=some u→w.cell? (a.add j)=some u:=by
 intro j u hu;have hj:j<us.length:=(List.getElem?_eq_some_iff.1 hu).1;obtain⟨b,off,ha,hc⟩:=h.2 j (by rw[←h.1];exact hj);simp only[Option.some.injEq]at ha;subst ha;rw[Addr.add_lit,hc];simp[List.getD,hu]
theorem wpList_apps {ops:Array Oper} {rest:List Oper} {o:Oper} {a:Act} {Q:Exit→Act→World→Prop} {base e:Nat} {v:Value} {n:Nat} {xs:List Value}
 (hown:w.ownsRow base e 1 v n xs) (hbase:base≤w.heap.size)
 (hg:o.guard=none) (s x:Operand) (t:TypeId) (ho:o.op= .call { callee := .builtin .append,args := #[s,x],argTypes := #[t,t] })
 (z:Value) (bytes:Nat) (h1:P.underlying t=some (.slice e)) (h2:(P.info? e).map (fun i=>(i.zero,i.size,i.bytes))=some (some z,1,bytes)) (hz1:z.cells.size=1)
 (hs:a.eval s=v) (A:Option Addr) (m c:Nat) (us:List Value) (hx:a.eval x= .slice A m c) (src:Sl w A m us) (hu1:∀ u∈us,u.oneCell'=true)
 (hb:(n+m)*bytes≤140737488355328) (hn:n+m<2^62)
 (h:∀ v' w',w'.ownsRow base e 1 v' (n+m) (xs++us)→w.grownBy w' v.ownBlock→wpList P ops Q rest (a.put o.dst v') w'):wpList P ops Q (o::rest) a w:=by
 obtain⟨i0,hi,hz0,hz1',hz2⟩:=info_parts h2;cases A with
 | none =>
  have hm:m=0:=by
   refine Classical.byContradiction fun h0 => ?_
   obtain⟨b,off,ha,-⟩:=src.2 0 (by omega);cases ha
  subst hm;have hus:us = []:=List.eq_nil_of_length_eq_zero src.1;subst hus;refine wpList_plain hg fun _ hK => ?_
  have hrun:=run_app_nil (P:=P) w base t o.type e i0 1 h1 hi v n xs hown c;unfold Oper.wp execOp;simp only[ho,resolve,invoke,builtin,Sem.run_bind,Sem.run_pure,Result.andThen_ok,List.map_toArray,List.map_cons,List.map_nil,hs,hx,hrun];exact hK _ _ (h v w (by simpa using hown) (World.grownBy.refl w _))
 | some ad =>
  refine wpList_append_own _ hg s x t ho base e i0 z 1 bytes h1 hi hz0 hz1' hz2 hz1 (by decide) v n xs hs hown ad m c us hx (by rw[src.1];omega) ?_ hu1 (by unfold maxLen;omega) hb hbase ?_
  ·by_cases hm:0<m
   ·exact src.cellsOf _ hm
   ·have hus:us = []:=List.eq_nil_of_length_eq_zero (by rw[src.1];omega);subst hus;intro j u hj;simp at hj
  ·intro v' w' a1 a2 _;exact h v' w' a1 a2
end
end Go.Proofs.YtbnhaegidfbgbaaGreatDoor
