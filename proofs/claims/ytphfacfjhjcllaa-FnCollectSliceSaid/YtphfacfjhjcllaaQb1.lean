/- Vocabulary for the walks of this seat: what a slice reads as, what a call owns. | Rows of the call's own, kept. | Arrays and structs of integers as values and as blocks: load, store, index, equality, whatever their length. | The helper functions of the exact laws, over lists of integers, bytes and bools: copy, compare, mark, hold. | Contracts: RefreshSchedule. | Macroblocks: their validity, plain; blocks within a bound; vectors. | Equality of arrays of integers (nested too); zero arrays. | Macroblocks: what is valid; the program's and the reference's tests. | MacroValid: the reference's. | A region whose operations may come in any order: what each operation does, said by invariants. | Bit operations of i64 numbers that are not negative. -/
import Derived.Test.YtphfacfjhjcllaaRows
import Derived.WalkKit
import Derived.WalkSpells
import Derived.WalkLawsBesides
import Derived.Lib.Hide
import Derived.BigQuiet
import Derived.Deep.QuietTactic
import Derived.Deep.LoopGhost
import Derived.Deep.RegionHeld3
import Derived.Deep.RegionWith
import Derived.ChangeKeysEq
import Derived.Laws.Tables
import Derived.Laws.StructEq
import Derived.Laws.Bits64
set_option linter.unusedVariables false
set_option linter.unusedSimpArgs false
set_option maxRecDepth 100000
set_option maxHeartbeats 16000000
namespace Go.Proofs.Ytphfacfjhjcllaa
open Go.RowKit
/-- The i-th number of a list, 0 past its end. -/
def nth (zs:List Int) (i:Nat):Int:=zs.getD i 0
def nthB (zs:List Bool) (i:Nat):Bool:=zs.getD i false
theorem nth_eq (zs:List Int) (i:Nat) (h:i<zs.length):nth zs i=zs[i]:=by simp[nth,h]
/-- The slice at address a of n one-cell elements reads as xs. -/
def Sl (w:World) (a:Option Addr) (n:Nat) (xs:List Value):Prop :=
 xs.length=n∧∀ i,i<n→∃ b off,a=some ⟨b,off,none⟩∧w.cell? ⟨b,off+i,none⟩=some (xs.getD i undef)
/-- What was there stays as it was. -/
abbrev Ext (w w' : World) : Prop := Below w.heap.size w w'
theorem Ext.trans {a b c:World} (h:Ext a b) (k:Ext b c):Ext a c:=Below.trans h (Below.mono k h.size)
theorem Ext.drewN (w:World) (n:Nat):Ext w (w.drewN n):=⟨rfl,rfl,rfl,Nat.le_refl _,fun _ _=>rfl⟩
theorem Ext.trans_drewN {a b:World} (h:Ext a b) (n:Nat):Ext a (b.drewN n):=Ext.trans h (Ext.drewN b n)
theorem Ext.grown {a w w':World} {row:Option Nat} (h:Ext a w) (hg:w.grownBy w' row) (hr:∀ k,row=some k→a.heap.size≤k):Ext a w' :=
 Below.grown h hg h.size hr
theorem Ext.alloc (w:World) (o:Obj):Ext w (w.alloc o):=Below.alloc (Below.refl _ _) (Nat.le_refl _) _
theorem cell_ext {w w':World} {a:Addr} {v:Value} (e:Ext w w') (h:w.cell? a=some v):w'.cell? a=some v:=by
 rw[Below.cell e (World.block_lt_of_cell? w _ h)];exact h
/-- A block known whole. -/
theorem Ext.blk {w w':World} {b:Nat} {o:Obj} (e:Ext w w') (h:w.heap[b]?=some o):w'.heap[b]?=some o:=by
 rw[e.block b (lt_of_block h)];exact h
theorem blk_alloc {w:World} {b:Nat} {o:Obj} (h:w.heap[b]?=some o) (x:Obj):(w.alloc x).heap[b]?=some o:=by
 rw[Below.heap_alloc _ _ _ (lt_of_block h)];exact h
theorem blk_new (w:World) (o:Obj):(w.alloc o).heap[w.heap.size]?=some o:=heap_alloc_new w o
theorem blk_set3 {w:World} {b:Nat} {x y z x' y' z':Value} {T:TypeId} (h:w.heap[b]?=some (.cells #[x,y,z] T (0,0))):(((w.setCell ⟨b,0,none⟩ x').setCell ⟨b,1,none⟩ y').setCell ⟨b,2,none⟩ z').heap[b]?=some (.cells #[x',y',z'] T (0,0)):=by
 have h1:=heap_setCell_same w b 0 _ _ x' h;have h2:=heap_setCell_same _ b 1 _ _ y' h1;have h3:=heap_setCell_same _ b 2 _ _ z' h2
 simpa using h3
theorem blk_set_other {w:World} {b c i:Nat} {v:Value} {o:Obj} (h:w.heap[b]?=some o) (hne:b≠c):(w.setCell ⟨c,i,none⟩ v).heap[b]?=some o:=by
 rw[Below.heap_setCell _ _ _ _ hne];exact h
theorem bx2 {w:World} {b:Nat} {x y:Value} {T:TypeId} (h:w.heap[b]?=some (.cells #[x,y] T (0,0))):b<w.heap.size∧w.cell? ⟨b,0,none⟩=some x∧w.cell? ⟨b,1,none⟩=some y∧w.frozen? ⟨b,0,none⟩=false∧w.frozen? ⟨b,1,none⟩=false :=
 ⟨lt_of_block h,by simp[World.cell?,h],by simp[World.cell?,h],by simp[World.frozen?,h],by simp[World.frozen?,h]⟩
theorem bx3 {w:World} {b:Nat} {x y z:Value} {T:TypeId} (h:w.heap[b]?=some (.cells #[x,y,z] T (0,0))):b<w.heap.size∧w.cell? ⟨b,0,none⟩=some x∧w.cell? ⟨b,1,none⟩=some y∧w.cell? ⟨b,2,none⟩=some z∧w.frozen? ⟨b,0,none⟩=false∧w.frozen? ⟨b,1,none⟩=false∧w.frozen? ⟨b,2,none⟩=false :=
 ⟨lt_of_block h,by simp[World.cell?,h],by simp[World.cell?,h],by simp[World.cell?,h],by simp[World.frozen?,h],by simp[World.frozen?,h],by simp[World.frozen?,h]⟩
theorem Sl.len {w:World} {a:Option Addr} {n:Nat} {xs:List Value} (h:Sl w a n xs):xs.length=n:=h.1
theorem Sl.ext {w w':World} {a:Option Addr} {n:Nat} {xs:List Value} (h:Sl w a n xs) (e:Ext w w'):Sl w' a n xs:=by
 refine⟨h.1,fun i hi => ?_⟩;obtain⟨b,off,ha,hc⟩:=h.2 i hi;exact⟨b,off,ha,by rw[Below.cell e (World.block_lt_of_cell? w _ hc)];exact hc⟩
theorem Sl.drewN {w:World} {a:Option Addr} {n:Nat} {xs:List Value} (h:Sl w a n xs) (m:Nat):Sl (w.drewN m) a n xs:=h
theorem Sl.grown {w w':World} {a:Option Addr} {n:Nat} {xs:List Value} {row:Option Nat} (h:Sl w a n xs) (hg:w.grownBy w' row) (hr:∀ x,a=some x→some x.block≠row):Sl w' a n xs:=by
 refine⟨h.1,fun i hi => ?_⟩;obtain⟨b,off,ha,hc⟩:=h.2 i hi;exact⟨b,off,ha,hg.cell hc (hr ⟨b,off,none⟩ ha)⟩
theorem Sl.nil (w:World) (a:Option Addr):Sl w a 0 []:=⟨rfl,fun i hi=>by omega⟩
theorem Sl.int {k:IntKind} {w:World} {a:Option Addr} {n:Nat} {zs:List Int} (h:Sl w a n (zs.map (Value.int k))) {i:Nat} (hi:i<n) :
 ∃ b off,a=some ⟨b,off,none⟩∧w.cell? ⟨b,off+i,none⟩=some (.int k (nth zs i)):=by
 obtain⟨b,off,ha,hc⟩:=h.2 i hi;have hl:i<zs.length:=by have:=h.1;simp at this;omega
 refine⟨b,off,ha,?_⟩;rw[hc];simp[nth,hl]
theorem Sl.bool {w:World} {a:Option Addr} {n:Nat} {zs:List Bool} (h:Sl w a n (zs.map Value.bool)) {i:Nat} (hi:i<n) :
 ∃ b off,a=some ⟨b,off,none⟩∧w.cell? ⟨b,off+i,none⟩=some (.bool (nthB zs i)):=by
 obtain⟨b,off,ha,hc⟩:=h.2 i hi;have hl:i<zs.length:=by have:=h.1;simp at this;omega
 refine⟨b,off,ha,?_⟩;rw[hc];simp[nthB,hl]
theorem Sl.int_len {k:IntKind} {w:World} {a:Option Addr} {n:Nat} {zs:List Int} (h:Sl w a n (zs.map (Value.int k))):zs.length=n:=by
 have:=h.1;simpa using this
/-- An owned row reads as what is owned. -/
theorem Sl.of_owns {w:World} {base e n:Nat} {a:Option Addr} {cap:Nat} {xs:List Value} (h:w.ownsRow base e 1 (.slice a n cap) n xs):Sl w a n xs:=by
 refine⟨by have:=h.1;omega,fun i hi => ?_⟩;rcases h.2 with⟨_,h0⟩|⟨g,c,cur,hv,_⟩
 ·omega
 ·simp only[Value.slice.injEq]at hv;obtain⟨rfl,_,rfl⟩:=hv;refine⟨g,0,rfl,?_⟩;have hl:i<xs.length:=by have:=h.1;omega
  rw[Nat.zero_add,h.cellAt i (by omega)];simp[hl]
theorem ext_nth {xs ys:List Int} (hl:xs.length=ys.length) (h:∀ i,i<xs.length→nth xs i=nth ys i):xs=ys:=by
 apply List.ext_getElem hl;intro i h1 h2;have:=h i h1;rw[nth_eq _ _ h1,nth_eq _ _ h2]at this;exact this
theorem ret_bool {a b:Bool} (h:a=b):Ending.returned (.bool a) = .returned (.bool b):=by rw[h]
/-- The first k of xs, behind them what ys has. -/
def mix (xs ys:List Value) (k:Nat):List Value:=xs.take k++ys.drop k
theorem mix_zero (xs ys:List Value):mix xs ys 0=ys:=by simp[mix]
theorem mix_all (xs ys:List Value) (k:Nat) (h1:xs.length=k) (h2:ys.length=k):mix xs ys k=xs:=by
 unfold mix;rw[List.take_of_length_le (by omega),List.drop_of_length_le (by omega),List.append_nil]
theorem mix_set (xs ys:List Value) (k:Nat) (h:xs.length=ys.length) (hk:k<xs.length) (u:Value) (hu:xs.getD k undef=u):(mix xs ys k).set k u=mix xs ys (k+1):=by
 subst hu;have hl:(xs.take k).length=k:=by simp;omega
 have hk':k<ys.length:=by omega
 unfold mix;rw[List.drop_eq_getElem_cons hk',List.set_append_right _ _ (by omega),hl,Nat.sub_self,List.set_cons_zero,List.take_succ_eq_append_getElem hk,List.append_assoc];simp[hk]
theorem getD_map_int (k:IntKind) (zs:List Int) (i:Nat) (h:i<zs.length):(zs.map (Value.int k)).getD i undef= .int k (nth zs i):=by simp[nth,h]
/-- A row of which n elements are owned is a slice of length n. -/
theorem owns_form {w:World} {base e size:Nat} {v:Value} {n:Nat} {xs:List Value} (h:w.ownsRow base e size v n xs):∃ a cap,v= .slice a n cap:=by
 rcases h.2 with⟨rfl,rfl⟩|⟨g,c,cur,rfl,_⟩
 ·exact⟨none,0,rfl⟩
 ·exact⟨_,_,rfl⟩
theorem owns_get {w:World} {base e g n cap:Nat} {xs:List Value} (h:w.ownsRow base e 1 (.slice (some ⟨g,0,none⟩) n cap) n xs) {j:Nat} (hj:j<n):∃ u,w.cell? ⟨g,j,none⟩=some u∧xs[j]?=some u:=by
 have hl:j<xs.length:=by have:=h.1;omega
 exact⟨xs[j],by rw[h.cellAt j (by omega)];simp[hl],by simp[hl]⟩
theorem owns_mono {w:World} {base base' e size:Nat} {v:Value} {n:Nat} {xs:List Value} (h:w.ownsRow base e size v n xs) (hb:base'≤base):w.ownsRow base' e size v n xs:=by
 obtain⟨h1,h2⟩:=h;refine⟨h1,?_⟩;rcases h2 with h2|⟨g,cap,cur,hv,hg,r⟩
 ·exact .inl h2
 ·exact .inr ⟨g,cap,cur,hv,by omega,r⟩
theorem owns_ext {w w':World} {base e size:Nat} {v:Value} {n:Nat} {xs:List Value} (h:w.ownsRow base e size v n xs) (x:Ext w w'):w'.ownsRow base e size v n xs:=by
 obtain⟨h1,h2⟩:=h;refine⟨h1,?_⟩;rcases h2 with h2|⟨g,cap,cur,hv,hg,r1,r2⟩
 ·exact .inl h2
 ·exact .inr ⟨g,cap,cur,hv,hg,x.blk r1,r2⟩
theorem owns_drewN {w:World} {base e size:Nat} {v:Value} {n:Nat} {xs:List Value} (h:w.ownsRow base e size v n xs) (m:Nat):(w.drewN m).ownsRow base e size v n xs:=h
theorem grownBy_trans {a b c:World} {row:Option Nat} (h:a.grownBy b row) (k:b.grownBy c row):a.grownBy c row :=
 ⟨k.os.trans h.os,k.tape.trans h.tape,k.output.trans h.output,Nat.le_trans h.size k.size,fun i hi hne=>(k.block i (Nat.lt_of_lt_of_le hi h.size) hne).trans (h.block i hi hne)⟩
theorem owns_ge {w:World} {base e size:Nat} {v:Value} {n:Nat} {xs:List Value} (h:w.ownsRow base e size v n xs):∀ k,v.ownBlock=some k→base≤k:=fun k hk=>(h.lt k hk).1
theorem owns_cap {w:World} {base e size n cap:Nat} {a:Option Addr} {xs:List Value} (h:w.ownsRow base e size (.slice a n cap) n xs):n≤cap∧cap≤maxLen:=by
 rcases h.2 with⟨h1,h2⟩|⟨g,c,cur,hv,_,_,h1,h2,_⟩
 ·simp at h1;obtain⟨-,rfl,rfl⟩:=h1;exact⟨Nat.le_refl _,by simp⟩
 ·simp at hv;obtain⟨-,rfl⟩:=hv;exact⟨h1,h2⟩
/-- make([]T, n), T of one cell: n zeros are owned. -/
theorem wpList_mk {P:Program} (w:World) {ops:Array Oper} {rest:List Oper} {o:Oper} {a:Act} {Q:Exit→Act→World→Prop}
 (hg:o.guard=none) (l c:Operand) (t:TypeId) (hop:o.op=Op.makeSlice t l c)
 (e:TypeId) (z:Value) (bytes:Nat) (h1:P.underlying t=some (.slice e)) (h2:(P.info? e).map (fun i=>(i.zero,i.size,i.bytes))=some (some z,1,bytes)) (hz1:z.cells = #[z])
 (L:Int) (n:Nat) (hl:a.eval l= .int .i64 L) (hc:a.eval c= .int .i64 L) (hL:L=(n:Int)) (b2:n*bytes≤281474976710656) (b3:n<2^62)
 (hK:∀ w',w'.ownsRow w.heap.size e 1 (.slice (some ⟨w.heap.size,0,none⟩) n n) n (List.replicate n z)→w.grownBy w' none→wpList P ops Q rest (a.put o.dst (.slice (some ⟨w.heap.size,0,none⟩) n n)) w') :
 wpList P ops Q (o::rest) a w:=by
 obtain⟨i0,hi,hz0,hz1',hz2⟩:=info_parts h2;refine wpList_make_full w hg l c t hop w.heap.size e i0 z 1 h1 hi hz0 hz1' .i64 .i64 L L n hl hc hL hL ?_ ?_ (Nat.le_refl _) ?_
 ·rw[hz2,Nat.mul_comm];exact b2
 ·unfold maxLen;omega
 ·intro w' h3 h4;refine hK w' ?_ h4;rw[Nat.mul_one,hz1,toList_madeCells_one]at h3;exact h3
/-- append(s, x), x one new value of one cell in the block just laid. -/
theorem wpList_app {P:Program} (wr:World) {ops:Array Oper} {rest:List Oper} {o:Oper} {a:Act} {Q:Exit→Act→World→Prop} {base e:Nat} {v:Value} {n:Nat} {xs:List Value}
 (hown:wr.ownsRow base e 1 v n xs) (hbase:base≤wr.heap.size) (u:Value)
 (hg:o.guard=none) (s x:Operand) (t:TypeId) (ho:o.op= .call { callee := .builtin .append,args := #[s,x],argTypes := #[t,t] })
 (z:Value) (bytes:Nat) (h1:P.underlying t=some (.slice e)) (h2:(P.info? e).map (fun i=>(i.zero,i.size,i.bytes))=some (some z,1,bytes)) (hz1:z.cells.size=1)
 (hs:a.eval s=v) (hx:a.eval x= .slice (some ⟨wr.heap.size,0,none⟩) 1 1) (hu1:u.oneCell'=true)
 (hb:(n+1)*bytes≤140737488355328) (hn:n<2^62)
 (h:∀ v' w',w'.ownsRow base e 1 v' (n+1) (xs ++ [u])→wr.grownBy w' v.ownBlock→v' ≠ .slice none 0 0→wpList P ops Q rest (a.put o.dst v') w'):wpList P ops Q (o::rest) a (wr.alloc (.cells #[u] e)):=by
 obtain⟨i0,hi,hz0,hz1',hz2⟩:=info_parts h2;refine wpList_append_own _ hg s x t ho base e i0 z 1 bytes h1 hi hz0 hz1' hz2 hz1 (by decide) v n xs hs (hown.alloc _) ⟨wr.heap.size,0,none⟩ 1 1 [u] hx rfl ?_ ?_ ?_ hb ?_ ?_
 ·intro j q hq
  match j,hq with
  | 0,hq =>
   simp at hq;subst hq;simp[Addr.add,World.cell?_alloc_at]
 ·intro q hq;simp at hq;subst hq;exact hu1
 ·unfold maxLen;omega
 ·simp;omega
 ·intro v' w' a1 a2 a3;exact h v' w' a1 (grownBy_trans (World.grownBy_alloc _ _ _) a2) (fun hv=>by have:=a3.1 hv;omega)
theorem own_gr {w w':World} {base e size n b:Nat} {v:Value} {xs:List Value} (h:w.ownsRow base e size v n xs) (g:w.grownBy w' (some b)) (hb:b<base):w'.ownsRow base e size v n xs:=by
 refine h.kept g ?_;cases hv:v.ownBlock with
 | none=>exact .inl rfl
 | some k=>right;have:=(h.lt k hv).1;simp;omega
theorem own_ne_blk {w:World} {base e size n q:Nat} {v:Value} {xs:List Value} {arr:Array Value} {T:TypeId} (h:w.ownsRow base e size v n xs) (hq:w.heap[q]?=some (.cells arr T (0,0))) (hne:e≠T):v.ownBlock=none∨v.ownBlock≠some q:=by
 rcases h.2 with⟨rfl,-⟩|⟨g,cap,cur,rfl,-,p1,-⟩
 ·exact .inl rfl
 ·right
  intro he;simp[Value.ownBlock]at he;subst he;rw[p1]at hq;simp at hq;exact hne hq.2
theorem blk_gr {w w':World} {b:Nat} {o:Obj} {row:Option Nat} (h:w.heap[b]?=some o) (g:w.grownBy w' row) (hne:row≠some b):w'.heap[b]?=some o:=by
 rw[g.block b (lt_of_block h) (fun e=>hne e.symm)];exact h
/-- The cells of a list of integers. -/
def ic (zs:List Int):Array Value:=(zs.map (Value.int .i64)).toArray
theorem ic_size (zs:List Int):(ic zs).size=zs.length:=by simp[ic]
theorem ic_toList (zs:List Int):(ic zs).toList=zs.map (Value.int .i64):=by simp[ic]
theorem ic_get (zs:List Int) (i:Nat) (h:i<zs.length):(ic zs)[i]?=some (.int .i64 (nth zs i)):=by simp[ic,nth,h]
/-- n of zs from off on. -/
def sub (zs:List Int) (off n:Nat):List Int:=(zs.drop off).take n
theorem sub_len (zs:List Int) (off n:Nat) (h:off+n≤zs.length):(sub zs off n).length=n:=by simp[sub];omega
theorem sub_all (zs:List Int) (n:Nat) (h:zs.length=n):sub zs 0 n=zs:=by subst h;simp[sub]
theorem nth_sub (zs:List Int) (off n i:Nat) (h:i<n):nth (sub zs off n) i=nth zs (off+i):=by
 simp[nth,sub,List.getD,List.getElem?_take,h,List.getElem?_drop]
theorem sub_one (zs:List Int) (i:Nat) (h:i<zs.length):sub zs i 1 = [nth zs i]:=by
 refine List.ext_getElem (by simp[sub];omega) fun j h1 h2 => ?_
 have:j=0:=by simp at h2;omega
 subst this;simp[sub,nth,h]
theorem ic_extract (zs:List Int) (off n:Nat):(ic zs).extract off (off+n)=ic (sub zs off n):=by
 apply Array.toList_inj.1;rw[ic_toList];simp[ic,sub,List.extract,List.map_take,List.map_drop]
/-- ys laid over zs from off on. -/
def spl (zs:List Int) (off:Nat) (ys:List Int):List Int:=zs.take off++ys++zs.drop (off+ys.length)
theorem spl_len {zs ys:List Int} {off:Nat} (h:off+ys.length≤zs.length):(spl zs off ys).length=zs.length:=by simp[spl];omega
theorem spl_all {zs ys:List Int} (h:ys.length=zs.length):spl zs 0 ys=ys:=by simp[spl,h]
theorem spl_nil (zs:List Int) (off:Nat):spl zs off []=zs:=by simp[spl]
theorem spl_cons {zs ys:List Int} {off:Nat} {y:Int} (h:off<zs.length):spl (zs.set off y) (off+1) ys=spl zs off (y::ys):=by
 unfold spl;rw[List.take_set,List.drop_set_of_lt (by omega),List.take_succ_eq_append_getElem h,List.set_append_right _ _ (by simp;omega)];have e:off-(List.take off zs).length=0:=by simp;omega
 rw[e];simp[Nat.add_assoc,Nat.add_comm 1]
theorem nth_spl_in {zs ys:List Int} {off i:Nat} (h:off+ys.length≤zs.length) (h1:off≤i) (h2:i<off+ys.length):nth (spl zs off ys) i=nth ys (i-off):=by
 have hl:(List.take off zs).length=off:=by simp;omega
 unfold nth spl;rw[List.append_assoc,List.getD_eq_getElem?_getD,List.getElem?_append_right (by rw[hl];exact h1),hl,List.getElem?_append_left (by omega),←List.getD_eq_getElem?_getD]
theorem nth_spl_out {zs ys:List Int} {off i:Nat} (h:off+ys.length≤zs.length) (h1:i<off∨off+ys.length≤i):nth (spl zs off ys) i=nth zs i:=by
 have hl:(List.take off zs).length=off:=by simp;omega
 unfold nth spl;rw[List.append_assoc];rcases h1 with h1|h1
 ·rw[List.getD_eq_getElem?_getD,List.getElem?_append_left (by rw[hl];exact h1),List.getElem?_take_of_lt h1,←List.getD_eq_getElem?_getD]
 ·rw[List.getD_eq_getElem?_getD,List.getElem?_append_right (by rw[hl];omega),hl,List.getElem?_append_right (by omega),List.getElem?_drop,←List.getD_eq_getElem?_getD]
  congr 1;omega
theorem nth_set_same (zs:List Int) (i:Nat) (v:Int) (h:i<zs.length):nth (zs.set i v) i=v:=by simp[nth,h]
theorem nth_set_ne (zs:List Int) (i j:Nat) (v:Int) (h:i≠j):nth (zs.set i v) j=nth zs j:=by simp[nth,List.getD,h]
/-- Block b holds just the integers zs. -/
def IB (w:World) (b T:Nat) (zs:List Int):Prop:=w.heap[b]?=some (.cells (ic zs) T (0,0))
theorem IB.lt {w:World} {b T:Nat} {zs:List Int} (h:IB w b T zs):b<w.heap.size:=lt_of_block h
theorem IB.cell {w:World} {b T:Nat} {zs:List Int} (h:IB w b T zs) {i:Nat} (hi:i<zs.length):w.cell? ⟨b,i,none⟩=some (.int .i64 (nth zs i)):=by
 have:w.heap[b]?=some (.cells (ic zs) T (0,0)):=h;simp only[World.cell?,this]
 simpa using ic_get zs i hi
theorem IB.frozen {w:World} {b T:Nat} {zs:List Int} (h:IB w b T zs) (i:Nat):w.frozen? ⟨b,i,none⟩=false:=by
 have:w.heap[b]?=some (.cells (ic zs) T (0,0)):=h;simp[World.frozen?,this]
theorem IB.ext {w w':World} {b T:Nat} {zs:List Int} (h:IB w b T zs) (e:Ext w w'):IB w' b T zs:=e.blk h
theorem IB.alloc {w:World} {b T:Nat} {zs:List Int} (h:IB w b T zs) (o:Obj):IB (w.alloc o) b T zs:=blk_alloc h o
theorem IB.new (w:World) (T:Nat) (zs:List Int):IB (w.alloc (.cells (ic zs) T)) w.heap.size T zs:=blk_new w _
theorem IB.gr {w w':World} {b T:Nat} {zs:List Int} {row:Option Nat} (h:IB w b T zs) (g:w.grownBy w' row) (hne:row≠some b):IB w' b T zs:=blk_gr h g hne
theorem IB.drewN {w:World} {b T:Nat} {zs:List Int} (h:IB w b T zs) (n:Nat):IB (w.drewN n) b T zs:=h
theorem IB.set {w:World} {b T:Nat} {zs:List Int} (h:IB w b T zs) (i:Nat) (v:Int):IB (w.setCell ⟨b,i,none⟩ (.int .i64 v)) b T (zs.set i v):=by
 have h1:=heap_setCell_same w b i (ic zs) T (.int .i64 v) h;have h2:(ic zs).setIfInBounds i (.int .i64 v)=ic (zs.set i v):=by
  apply Array.toList_inj.1;rw[ic_toList,Array.toList_setIfInBounds,ic_toList,List.map_set]
 rw[h2]at h1;exact h1
theorem IB.set_other {w:World} {b c i T:Nat} {v:Value} {zs:List Int} (h:IB w b T zs) (hne:b≠c):IB (w.setCell ⟨c,i,none⟩ v) b T zs:=blk_set_other h hne
theorem gr_set (w:World) (B i:Nat) (v:Value):w.grownBy (w.setCell ⟨B,i,none⟩ v) (some B):=⟨rfl,rfl,rfl,by simp,fun k _ hk=>heap_setCell_other w ⟨B,i,none⟩ k v (fun e=>hk (by simp[e]))⟩
section
variable {P : Program}
theorem wpList_wanted {ops:Array Oper} {rest:List Oper} {o:Oper} {a:Act} {Q:Exit→Act→World→Prop} {w:World} (hw:Region.wanted o (yielded ops a.tmps)=true)
 (h:∀ K:Act→World→Prop,(∀ a w,wpList P ops Q rest a w→K a w)→o.wp P a w K Q):wpList P ops Q (o::rest) a w :=
 wpList_step fun K hK=>by rw[if_pos hw];exact h K hK
theorem isAgg_of {ty:TypeId} {d:TypeDesc} (w:World) (hu:P.underlying ty=some d) (hd:(match d with | .struct _ | .array _ _=>true|_=>false)=true):(isAgg ty).run P w= .ok true w:=by
 unfold isAgg;rw[Sem.run_bind,run_underlying hu w];cases d <;> simp_all
theorem run_loadVar_ib (w:World) {b T:Nat} {zs:List Int} (h:IB w b T zs) (ty:TypeId) (off n:Nat) (d:TypeDesc) (hu:P.underlying ty=some d) (hd:(match d with | .struct _ | .array _ _=>true|_=>false)=true) (hi:(P.info? ty).map (·.size)=some n) (hb:off+n≤zs.length) :
 (loadVar ty ⟨b,off,none⟩).run P w= .ok (.agg (ic (sub zs off n))) w:=by
 have hl:(loadCells ⟨b,off,none⟩ ((sub zs off n).map (Value.int .i64)).length).run P w= .ok ((sub zs off n).map (Value.int .i64)).toArray w :=
  run_loadCells_list (P:=P) w ⟨b,off,none⟩ _ (fun j v hv=>by
   have hj:j<n:=by
    have:=(List.getElem?_eq_some_iff.1 hv).1;simp[sub]at this;omega
   have hadd:(⟨b,off,none⟩:Addr).add j=⟨b,off+j,none⟩:=by rw[Addr.add_lit]
   rw[hadd,h.cell (by omega)];have e:((sub zs off n).map (Value.int .i64))[j]?=some (.int .i64 (nth (sub zs off n) j)):=by
    have:j<(sub zs off n).length:=by rw[sub_len _ _ _ hb];exact hj
    simp[nth,this]
   rw[e,nth_sub _ _ _ _ hj]at hv;exact hv)
 cases hq:P.info? ty with
 | none=>simp[hq]at hi
 | some i =>
  have hs:i.size=n:=by simpa [hq] using hi
  rw[List.length_map,sub_len _ _ _ hb]at hl;simp[loadVar,Sem.run_bind,isAgg_of w hu hd,sizeOf,typeInfo,hq,hs,hl,ic]
/-- x := *p, p at off in a block of integers, the type an array or a struct of n cells. -/
theorem wpList_iload {ops:Array Oper} {rest:List Oper} {o:Oper} {a:Act} {w:World} {Q:Exit→Act→World→Prop} (ty:TypeId) (x:Operand) (ho:o.op= .load ty x) (hgd:Region.wanted o (yielded ops a.tmps)=true)
 {b T:Nat} {zs:List Int} (h:IB w b T zs) (off n:Nat) (hx:a.eval x= .pointer (some ⟨b,off,none⟩)) (d:TypeDesc)
 (hu:P.underlying ty=some d) (hd:(match d with | .struct _ | .array _ _=>true|_=>false)=true) (hi:(P.info? ty).map (·.size)=some n) (hb:off+n≤zs.length) (cs:Array Value) (hc:ic (sub zs off n)=cs)
 (hK:wpList P ops Q rest (a.put o.dst (.agg cs)) w):wpList P ops Q (o::rest) a w:=by
 subst hc;refine wpList_wanted hgd fun _ hK' => ?_
 unfold Oper.wp execOp;simp only[ho,hx,Instr.loadAt,Instr.sureAddr,Sem.run_bind,Sem.run_pure,Result.andThen_ok,run_loadVar_ib w h ty off n d hu hd hi hb];exact hK' _ _ hK
theorem run_storeCells_ib {b T off:Nat} : ∀(ys:List Int) (i:Nat) (zs:List Int) (w:World),IB w b T zs→off+i+ys.length≤zs.length →
 ∃ w',(storeCells ⟨b,off,none⟩ (ys.map (Value.int .i64)) i).run P w= .ok () w'∧IB w' b T (spl zs (off+i) ys)∧w.grownBy w' (some b)
 | [],i,zs,w,h,hl=>⟨w,by simp[storeCells],by rw[spl_nil];exact h,World.grownBy.refl _ _⟩
 | y::ys,i,zs,w,h,hl=>by
  have hlt:off+i<zs.length:=by simp at hl;omega
  have hadd:(⟨b,off,none⟩:Addr).add i=⟨b,off+i,none⟩:=by rw[Addr.add_lit]
  have hst:(store ((⟨b,off,none⟩:Addr).add i) (.int .i64 y)).run P w= .ok () (w.setCell ⟨b,off+i,none⟩ (.int .i64 y)):=by
   rw[hadd,run_store P w _ (.int .i64 y) _ rfl,h.cell hlt];simp[h.frozen]
  obtain⟨w',h1,h2,h3⟩:=run_storeCells_ib (off:=off) ys (i+1) (zs.set (off+i) y) _ (h.set (off+i) y) (by simp at hl⊢;omega);refine⟨w',?_,?_,grownBy_trans (gr_set _ _ _ _) h3⟩
  ·simp only[List.map_cons,storeCells,Sem.run_bind,hst,Result.andThen_ok,h1]
  ·rw[←spl_cons hlt];exact h2
/-- *p = y. -/
theorem wpList_istore {ops:Array Oper} {rest:List Oper} {o:Oper} {a:Act} {w:World} {Q:Exit→Act→World→Prop} (ty:TypeId) (x y:Operand) (ho:o.op= .store ty x y) (hgd:Region.wanted o (yielded ops a.tmps)=true)
 {b T:Nat} {zs:List Int} (h:IB w b T zs) (off n:Nat) (hx:a.eval x= .pointer (some ⟨b,off,none⟩)) (cs:Array Value) (hy:a.eval y= .agg cs) (ys:List Int) (hc:cs=ic ys)
 (hi:(P.info? ty).map (·.size)=some n) (hn:ys.length=n) (hb:off+n≤zs.length)
 (hK:∀ w',IB w' b T (spl zs off ys)→w.grownBy w' (some b)→wpList P ops Q rest (a.put o.dst undef) w'):wpList P ops Q (o::rest) a w:=by
 subst hc hn;refine wpList_wanted hgd fun _ hK' => ?_
 obtain⟨w',h1,h2,h3⟩:=run_storeCells_ib (P:=P) (off:=off) ys 0 zs w h (by omega);have hs:(storeVar ty ⟨b,off,none⟩ (.agg (ic ys))).run P w= .ok () w':=by
  cases hq:P.info? ty with
  | none=>simp[hq]at hi
  | some i =>
   have hs:i.size=ys.length:=by simpa [hq] using hi
   simp[storeVar,sizeOf,typeInfo,hq,Value.cells,hs,ic_size,ic_toList,h1]
 unfold Oper.wp execOp;simp only[ho,hx,hy,Instr.storeAt,Instr.sureAddr,Sem.run_bind,Sem.run_pure,Result.andThen_ok,hs];exact hK' _ _ (hK w' h2 h3)
end
end Go.Proofs.Ytphfacfjhjcllaa
namespace Go.Proofs.Ytphfacfjhjcllaa
open Go.RowKit
theorem info_int : (Try.prog.info? 3).map (fun i=>(i.zero,i.size,i.bytes))=some (some (.int .i64 0),1,8):=by kernel_rfl
theorem info_uint8 : (Try.prog.info? 5).map (fun i=>(i.zero,i.size,i.bytes))=some (some (.int .u8 0),1,1):=by kernel_rfl
/-- The numbers from k on. -/
def marks (k:Int) (n:Nat):List Int:=(List.range n).map fun(i:Nat)=>k+(i:Int)
theorem l1In_yes (n lo hi:Int) (w:World) (h1:lo≤n) (h2:n≤hi) :
 Calls Try.prog 28 #[.int .i64 n,.int .i64 lo,.int .i64 hi] w fun e w'=>e= .returned (.bool true)∧w=w':=by
 go_enter Try.func28,Try.ntmps28
 go_wp2;go_ret
 exact⟨by simp,rfl⟩
theorem l1In_no (n lo hi:Int) (w:World) (h1:n<lo∨hi<n) :
 Calls Try.prog 28 #[.int .i64 n,.int .i64 lo,.int .i64 hi] w fun e w'=>e= .returned (.bool false)∧w=w':=by
 by_cases h:lo≤n
 ·have h2 : ¬ n≤hi:=by omega
  go_enter Try.func28,Try.ntmps28
  go_wp2;go_ret
  exact⟨by simp,rfl⟩
 ·go_enter Try.func28,Try.ntmps28
  go_wp2;go_ret
  exact⟨rfl,rfl⟩
/-- Every number is in -B..B. -/
def inB (B:Int) (zs:List Int):Bool:=zs.all fun z=>decide (-B≤z) && decide (z≤B)
theorem inB_yes {B:Int} {zs:List Int} (h:∀ j,j<zs.length → -B≤nth zs j∧nth zs j≤B):inB B zs=true:=by
 unfold inB;rw[List.all_eq_true];intro z hz;obtain⟨j,hj,rfl⟩:=List.getElem_of_mem hz;have:=h j hj;rw[nth_eq zs j hj]at this;simp[this]
theorem inB_no {B:Int} {zs:List Int} {j:Nat} (hj:j<zs.length) (h:nth zs j < -B∨B<nth zs j):inB B zs=false:=by
 unfold inB;rw[List.all_eq_false];refine⟨zs[j],List.getElem_mem hj,?_⟩;rw[nth_eq zs j hj]at h;simp;omega
theorem inB_iff {B:Int} {zs:List Int} : inB B zs=true↔∀ j,j<zs.length → -B≤nth zs j∧nth zs j≤B:=by
 constructor
 ·intro h j hj;refine Classical.byContradiction fun hn => ?_
  rw[inB_no hj (by omega)]at h;cases h
 ·exact inB_yes
theorem size_A16 : (Try.prog.info? 81).map (·.size)=some 16:=by kernel_rfl
theorem size_int : (Try.prog.info? 3).map (·.size)=some 1:=by kernel_rfl
section
variable {P : Program}
/-- Elements of type e, of c integers each, are compared as lists. -/
def EqE (P:Program) (e:TypeId) (c:Nat) (d:Nat):Prop:=∀(w:World) (xs ys:List Int) (off:Nat),off+c≤xs.length→off+c≤ys.length →
 ∃ a b,(part e (ic xs) off).run P w= .ok a w∧(part e (ic ys) off).run P w= .ok b w∧(Op.equalIn d e a b).run P w= .ok (decide (sub xs off c=sub ys off c)) w
theorem EqE.int {e:TypeId} (he:P.underlying e=some (.int .i64)) (d:Nat):EqE P e 1 (d+1):=by
 intro w xs ys off h1 h2;have hag:(isAgg e).run P w= .ok false w:=by
  unfold isAgg;rw[Sem.run_bind,run_underlying he w];simp
 refine⟨.int .i64 (nth xs off),.int .i64 (nth ys off),?_,?_,?_⟩
 ·simp[part,Sem.run_bind,hag,ic_get xs off (by omega)]
 ·simp[part,Sem.run_bind,hag,ic_get ys off (by omega)]
 ·rw[run_equalIn_int w d e .i64 .i64 _ _ he,sub_one xs off (by omega),sub_one ys off (by omega)]
  congr 1
  by_cases h:nth xs off=nth ys off
  ·simp[h]
  ·simp[h]
theorem eqItems_run {e:TypeId} {c d:Nat} (hE:EqE P e c d) (w:World) (xs ys:List Int):∀(is:List Nat),(∀ i∈is,i*c+c≤xs.length∧i*c+c≤ys.length) →
 (Op.eqItems d e c (ic xs) (ic ys) is).run P w= .ok (decide (∀ i∈is,sub xs (i*c) c=sub ys (i*c) c)) w
 | [],_=>by simp[Op.eqItems]
 | i::is,h=>by
  obtain⟨a,b,h1,h2,h3⟩:=hE w xs ys (i*c) (h i (by simp)).1 (h i (by simp)).2;have ih:=eqItems_run hE w xs ys is (fun j hj=>h j (by simp[hj]));simp only[Op.eqItems,Sem.run_bind,h1,h2,h3,Result.andThen_ok]
  by_cases hs:sub xs (i*c) c=sub ys (i*c) c
  ·simp only[hs,decide_true,Bool.not_true,Bool.false_eq_true,if_false,ih]
   congr 1
   simp[hs]
  ·simp only[hs,decide_false,Bool.not_false,if_true,Sem.run_pure]
   congr 1
   simp[hs]
theorem sub_sub (zs:List Int) (o n p m:Nat) (h:p+m≤n):sub (sub zs o n) p m=sub zs (o+p) m:=by
 unfold sub;rw[List.drop_take,List.drop_drop,List.take_take]
 congr 1
 omega
theorem sub_ext {xs ys:List Int} {o n c:Nat} (h1:o+n*c≤xs.length) (h2:o+n*c≤ys.length):(∀ i∈List.range n,sub (sub xs o (n*c)) (i*c) c=sub (sub ys o (n*c)) (i*c) c)↔sub xs o (n*c)=sub ys o (n*c):=by
 constructor
 ·intro h;refine ext_nth (by rw[sub_len _ _ _ h1,sub_len _ _ _ h2]) fun j hj => ?_
  rw[sub_len _ _ _ h1]at hj;have hc:0<c:=by
   rcases Nat.eq_zero_or_pos c with h0|h0
   ·subst h0;simp at hj
   ·exact h0
  have hd:j/c<n:=Nat.div_lt_of_lt_mul (by rw[Nat.mul_comm];exact hj);have hm:j%c<c:=Nat.mod_lt _ hc;have e:=h (j/c) (by simpa using hd);have e1:j/c*c+j%c=j:=by rw[Nat.mul_comm];exact Nat.div_add_mod j c
  have e2:nth (sub (sub xs o (n*c)) (j/c*c) c) (j%c)=nth (sub (sub ys o (n*c)) (j/c*c) c) (j%c):=by rw[e]
  rw[nth_sub _ _ _ _ hm,nth_sub _ _ _ _ hm,e1]at e2;exact e2
 ·intro h i _;rw[h]
theorem EqE.arr {t e:TypeId} {n c d:Nat} (ht:P.underlying t=some (.array n e)) (hi:(P.info? e).map (·.size)=some c) (hti:(P.info? t).map (·.size)=some (n*c)) (hE:EqE P e c d):EqE P t (n*c) (d+1):=by
 intro w xs ys off h1 h2;cases hq:P.info? e with
 | none=>simp[hq]at hi
 | some ii =>
  have hs:ii.size=c:=by simpa [hq] using hi
  have hce:P.cellsOf e=c:=by simp[Program.cellsOf,hq,hs]
  have hag:=isAgg_of (P:=P) w ht rfl;cases hqt:P.info? t with
  | none=>simp[hqt]at hti
  | some jj =>
   have hst:jj.size=n*c:=by simpa [hqt] using hti
   refine⟨.agg (ic (sub xs off (n*c))),.agg (ic (sub ys off (n*c))),?_,?_,?_⟩
   ·simp[part,Sem.run_bind,hag,sizeOf,typeInfo,hqt,hst,ic_extract]
   ·simp[part,Sem.run_bind,hag,sizeOf,typeInfo,hqt,hst,ic_extract]
   ·rw[run_equalIn_array w d _ _ ht hq,hce,eqItems_run hE w _ _ (List.range n) (fun i hi'=>by
     rw[sub_len _ _ _ h1,sub_len _ _ _ h2];have hin:i<n:=by simpa using hi'
     have:(i+1)*c≤n*c:=Nat.mul_le_mul_right _ hin;rw[Nat.succ_mul]at this;exact⟨this,this⟩)]
    congr 1
    exact decide_eq_decide.2 (sub_ext h1 h2)
/-- x == y, arrays of integers. -/
theorem run_eql_ints {t:TypeId} {n c:Nat} {e:TypeId} (ht:P.underlying t=some (.array n e)) (hi:(P.info? e).map (·.size)=some c) (hE:EqE P e c 9999) (w:World) (xs ys:List Int) (h1:xs.length=n*c) (h2:ys.length=n*c) :
 (Op.equalIn 10000 t (.agg (ic xs)) (.agg (ic ys))).run P w= .ok (decide (xs=ys)) w:=by
 cases hq:P.info? e with
 | none=>simp[hq]at hi
 | some ii =>
  have hs:ii.size=c:=by simpa [hq] using hi
  have hce:P.cellsOf e=c:=by simp[Program.cellsOf,hq,hs]
  rw[run_equalIn_array w 9999 _ _ ht hq,hce,eqItems_run hE w _ _ (List.range n) (fun i hi'=>by
   rw[h1,h2];have hin:i<n:=by simpa using hi'
   have:(i+1)*c≤n*c:=Nat.mul_le_mul_right _ hin;rw[Nat.succ_mul]at this;exact⟨this,this⟩)]
  congr 1
  have e:=sub_ext (xs:=xs) (ys:=ys) (o:=0) (n:=n) (c:=c) (by omega) (by omega);rw[sub_all xs _ h1,sub_all ys _ h2]at e;exact decide_eq_decide.2 e
theorem wpList_ieql {ops:Array Oper} {rest:List Oper} {o:Oper} {a:Act} {w:World} {Q:Exit→Act→World→Prop} (t:TypeId) (x y:Operand) (t2:TypeId) (ho:o.op= .binOp .eql t x y t2) (hgd:Region.wanted o (yielded ops a.tmps)=true)
 (cs ds:Array Value) (hx:a.eval x= .agg cs) (hy:a.eval y= .agg ds) (xs ys:List Int) (hcs:cs=ic xs) (hds:ds=ic ys) {n c:Nat} {e:TypeId} (ht:P.underlying t=some (.array n e)) (hi:(P.info? e).map (·.size)=some c) (hE:EqE P e c 9999) (h1:xs.length=n*c) (h2:ys.length=n*c)
 (hm:P.eqGuardType P.depth t=false) (r:Bool) (hr:decide (xs=ys)=r) (hK:wpList P ops Q rest (a.put o.dst (.bool r)) w):wpList P ops Q (o::rest) a w:=by
 subst hcs hds hr;refine wpList_wanted hgd fun _ hK' => ?_
 unfold Oper.wp execOp;simp[ho,hx,hy,Sem.run_bind,run_eqGuard_agg w .eql t x y _ _ hm,run_eql_struct w t,run_eql_ints ht hi hE w xs ys h1 h2,Result.andThen];exact hK' _ _ hK
theorem wpList_ineq {ops:Array Oper} {rest:List Oper} {o:Oper} {a:Act} {w:World} {Q:Exit→Act→World→Prop} (t:TypeId) (x y:Operand) (t2:TypeId) (ho:o.op= .binOp .neq t x y t2) (hgd:Region.wanted o (yielded ops a.tmps)=true)
 (cs ds:Array Value) (hx:a.eval x= .agg cs) (hy:a.eval y= .agg ds) (xs ys:List Int) (hcs:cs=ic xs) (hds:ds=ic ys) {n c:Nat} {e:TypeId} (ht:P.underlying t=some (.array n e)) (hi:(P.info? e).map (·.size)=some c) (hE:EqE P e c 9999) (h1:xs.length=n*c) (h2:ys.length=n*c)
 (hm:P.eqGuardType P.depth t=false) (r:Bool) (hr:decide (xs=ys)=r) (hK:wpList P ops Q rest (a.put o.dst (.bool (!r))) w):wpList P ops Q (o::rest) a w:=by
 subst hcs hds hr;refine wpList_wanted hgd fun _ hK' => ?_
 unfold Oper.wp execOp;simp[ho,hx,hy,Sem.run_bind,run_eqGuard_agg w .neq t x y _ _ hm,run_neq_struct w t,run_eql_ints ht hi hE w xs ys h1 h2,Result.andThen];exact hK' _ _ (by simpa using hK)
/-- [n]T{}, T an array of integers or an integer. -/
theorem wpList_izero {ops:Array Oper} {rest:List Oper} {o:Oper} {a:Act} {w:World} {Q:Exit→Act→World→Prop} (t:TypeId) (ho:o.op= .build t #[]) (hgd:Region.wanted o (yielded ops a.tmps)=true)
 {n c:Nat} {e:TypeId} (ht:P.underlying t=some (.array n e)) (hi:(P.info? e).map (·.size)=some c) (N:Nat) (hz:(P.info? t).map (·.zero)=some (some (.agg (ic (List.replicate N 0)))))
 (hK:wpList P ops Q rest (a.put o.dst (.agg (ic (List.replicate N 0)))) w):wpList P ops Q (o::rest) a w:=by
 refine wpList_wanted hgd fun _ hK' => ?_
 cases hq:P.info? e with
 | none=>simp[hq]at hi
 | some ii =>
  cases hqt:P.info? t with
  | none=>simp[hqt]at hz
  | some jj =>
   have hzz:jj.zero=some (.agg (ic (List.replicate N 0))):=by simpa [hqt] using hz
   unfold Oper.wp execOp;simp[ho,Instr.build,zeroValue,typeInfo,hqt,hzz,run_underlying ht,sizeOf,hq,Instr.fill,Value.cells,Sem.run_bind,Result.andThen];exact hK' _ _ hK
/-- n zeros. -/
def zl (n:Nat):List Int:=List.replicate n 0
theorem zl_len (n:Nat):(zl n).length=n:=by simp[zl]
/-- [n]T{}, T an array of integers or an integer. -/
theorem wpList_izeroz {ops:Array Oper} {rest:List Oper} {o:Oper} {a:Act} {w:World} {Q:Exit→Act→World→Prop} (t:TypeId) (ho:o.op= .build t #[]) (hgd:Region.wanted o (yielded ops a.tmps)=true)
 {n c:Nat} {e:TypeId} (ht:P.underlying t=some (.array n e)) (hi:(P.info? e).map (·.size)=some c) (N:Nat) (hz:(P.info? t).map (·.zero)=some (some (.agg (ic (zl N)))))
 (hK:wpList P ops Q rest (a.put o.dst (.agg (ic (zl N)))) w):wpList P ops Q (o::rest) a w:=by
 refine wpList_wanted hgd fun _ hK' => ?_
 cases hq:P.info? e with
 | none=>simp[hq]at hi
 | some ii =>
  cases hqt:P.info? t with
  | none=>simp[hqt]at hz
  | some jj =>
   have hzz:jj.zero=some (.agg (ic (zl N))):=by simpa [hqt] using hz
   unfold Oper.wp execOp;simp[ho,Instr.build,zeroValue,typeInfo,hqt,hzz,run_underlying ht,sizeOf,hq,Instr.fill,Value.cells,Sem.run_bind,Result.andThen];exact hK' _ _ hK
/-- new(T), T of integers alone. -/
theorem wpList_iallocz {ops:Array Oper} {rest:List Oper} {o:Oper} {a:Act} {w:World} {Q:Exit→Act→World→Prop} (t:TypeId) (ho:o.op= .alloc t) (hgd:Region.wanted o (yielded ops a.tmps)=true)
 (N:Nat) (hz:(P.info? t).map (·.zero)=some (some (.agg (ic (zl N)))))
 (hK:wpList P ops Q rest (a.put o.dst (.pointer (some ⟨w.heap.size,0,none⟩))) (w.alloc (.cells (ic (zl N)) t))):wpList P ops Q (o::rest) a w:=by
 refine wpList_wanted hgd fun _ hK' => ?_
 cases hqt:P.info? t with
 | none=>simp[hqt]at hz
 | some jj =>
  have hzz:jj.zero=some (.agg (ic (zl N))):=by simpa [hqt] using hz
  unfold Oper.wp execOp;simp[ho,Instr.alloc,zeroValue,typeInfo,hqt,hzz,Value.cells,newVar,newRow,Sem.run_bind,Result.andThen];exact hK' _ _ hK
end
end Go.Proofs.Ytphfacfjhjcllaa
namespace Go.Proofs.Ytphfacfjhjcllaa
open Go.RowKit
structure Mac where
 kind:Int
 x:Int
 y:Int
 modes:List Int
 lv:List Int
/-- Four modes, four blocks of sixteen levels. -/
structure Mac.ok (m : Mac) : Prop where
 modes:m.modes.length=4
 lv:m.lv.length=64
/-- The 71 integers of a macroblock. -/
def Mac.zs (m:Mac):List Int:=m.kind::m.x::m.y::(m.modes++m.lv)
def mac0 : Mac:=⟨0,0,0,List.replicate 4 0,List.replicate 64 0⟩
theorem mac0_ok : mac0.ok:=⟨rfl,rfl⟩
theorem Mac.zs_len {m:Mac} (h:m.ok):m.zs.length=71:=by simp[Mac.zs,h.modes,h.lv]
theorem Mac.zs_kind (m:Mac):nth m.zs 0=m.kind:=rfl
theorem Mac.zs_x (m:Mac):nth m.zs 1=m.x:=rfl
theorem Mac.zs_y (m:Mac):nth m.zs 2=m.y:=rfl
theorem Mac.zs_mv {m:Mac} : ic (sub m.zs 1 2) = #[.int .i64 m.x,.int .i64 m.y]:=rfl
theorem Mac.zs_modes {m:Mac} (h:m.ok):sub m.zs 3 4=m.modes:=by
 simp only[Mac.zs,sub,List.drop_succ_cons,List.drop_zero];rw[List.take_append_of_le_length (by rw[h.modes];exact Nat.le_refl _),List.take_of_length_le (by rw[h.modes];exact Nat.le_refl _)]
theorem Mac.zs_lv {m:Mac} (h:m.ok):sub m.zs 7 64=m.lv:=by
 simp only[Mac.zs,sub,List.drop_succ_cons];rw[List.drop_append_of_le_length (by rw[h.modes];exact Nat.le_refl _),List.drop_of_length_le (by rw[h.modes];exact Nat.le_refl _),List.nil_append,List.take_of_length_le (by rw[h.lv];exact Nat.le_refl _)]
theorem Mac.zs_blk {m:Mac} (h:m.ok) (k:Nat) (hk:k<4):sub m.zs (7+k*16) 16=sub m.lv (k*16) 16:=by
 rw[←Mac.zs_lv h,sub_sub _ _ _ _ _ (by omega)]
theorem Mac.nth_mode {m:Mac} (h:m.ok) (k:Nat) (hk:k<4):nth m.zs (3+k)=nth m.modes k:=by
 rw[←Mac.zs_modes h,nth_sub _ _ _ _ hk]
def zero4 : List Int:=List.replicate 4 0
def zero64 : List Int:=List.replicate 64 0
/-- What MacroValid asks. -/
def Mac.valid (m:Mac):Prop:=(0≤m.kind∧m.kind≤2)∧(-16≤m.x∧m.x≤16 ∧ -16≤m.y∧m.y≤16)∧(m.kind≠1→m.x=0∧m.y=0)∧(m.kind≠2→m.modes=zero4)∧(m.kind=2→∀ j,j<4→0≤nth m.modes j∧nth m.modes j≤4)∧(m.kind=0→m.lv=zero64)∧inB 4080 m.lv=true
noncomputable instance (m : Mac) : Decidable m.valid := Classical.propDecidable _
/-- Blocks of sixteen: all within the bound. -/
theorem inB_blocks {B:Int} {zs:List Int} (h:zs.length=64):inB B zs=true↔∀ k,k<4→inB B (sub zs (k*16) 16)=true:=by
 constructor
 ·intro hb k hk;refine inB_yes fun j hj => ?_
  rw[sub_len _ _ _ (by omega)]at hj;rw[nth_sub _ _ _ _ hj];exact inB_iff.1 hb _ (by omega)
 ·intro hb;refine inB_yes fun j hj => ?_
  have h1:=inB_iff.1 (hb (j/16) (by omega)) (j%16) (by rw[sub_len _ _ _ (by omega)];omega);rw[nth_sub _ _ _ _ (by omega),show j/16*16+j%16=j by omega]at h1;exact h1
theorem nth_zero4 {j:Nat} (h:j<4):nth zero4 j=0:=by
 match j,h with
 | 0,_=>rfl
 | 1,_=>rfl
 | 2,_=>rfl
 | 3,_=>rfl
section
variable {P : Program}
theorem wpList_vneq {ops:Array Oper} {rest:List Oper} {o:Oper} {a:Act} {w:World} {Q:Exit→Act→World→Prop} (t:TypeId) (x y:Operand) (t2:TypeId) (ho:o.op= .binOp .neq t x y t2) (hgd:Region.wanted o (yielded ops a.tmps)=true)
 (cs ds:Array Value) (hx:a.eval x= .agg cs) (hy:a.eval y= .agg ds) (r:Bool) (hrun:∀ w,(Op.equalIn 10000 t (.agg cs) (.agg ds)).run P w= .ok r w) (hm:P.eqGuardType P.depth t=false)
 (hK:wpList P ops Q rest (a.put o.dst (.bool (!r))) w):wpList P ops Q (o::rest) a w:=by
 refine wpList_wanted hgd fun _ hK' => ?_
 unfold Oper.wp execOp;simp[ho,hx,hy,Sem.run_bind,run_eqGuard_agg w .neq t x y _ _ hm,run_neq_struct w t,hrun,Result.andThen];exact hK' _ _ (by simpa using hK)
end
/-- A valid vector. -/
def vv (x y:Int):Prop := -16≤x∧x≤16 ∧ -16≤y∧y≤16
theorem vec_eq (x y:Int) (r:Bool) (hr:decide (x=0∧y=0)=r) (w:World):(Op.equalIn 10000 79 (.agg #[.int .i64 x,.int .i64 y]) (.agg #[.int .i64 0,.int .i64 0])).run Try.prog w= .ok r w:=by
 have hf:Try.prog.underlying 79=some (.struct (Try.prog.fieldsOf 79)):=by kernel_rfl
 have hp:Try.prog.stoodInHeld 79=false:=by kernel_rfl
 subst hr;rw[run_equalIn_struct w 9999 _ _ _ hf hp];have hag:(isAgg 3).run Try.prog w= .ok false w:=by
  unfold isAgg;rw[Sem.run_bind,run_underlying Try.underlying3 w];simp
 have p1:∀(u v:Int),(part 3 #[.int .i64 u,.int .i64 v] 0).run Try.prog w= .ok (.int .i64 u) w:=fun u v=>by simp[part,Sem.run_bind,hag]
 have p2:∀(u v:Int),(part 3 #[.int .i64 u,.int .i64 v] 1).run Try.prog w= .ok (.int .i64 v) w:=fun u v=>by simp[part,Sem.run_bind,hag]
 have q:∀(u v:Int),(Op.equalIn 9999 3 (.int .i64 u) (.int .i64 v)).run Try.prog w= .ok (u == v) w:=fun u v=>run_equalIn_int w 9998 _ _ _ _ _ Try.underlying3
 simp only[Program.fieldsOf,Try.underlying79,Op.eqFields,Sem.run_bind,p1,p2,q,Result.andThen_ok]
 by_cases hx:x=0
 ·subst hx
  by_cases hy:y=0
  ·subst hy;simp[p1,p2,q,Result.andThen]
  ·simp[p1,p2,q,Result.andThen,hy]
 ·simp[p1,p2,q,Result.andThen,hx]
theorem guard_Vector : Try.prog.eqGuardType Try.prog.depth 79=false:=by kernel_rfl
theorem guard_A4 : Try.prog.eqGuardType Try.prog.depth 80=false:=by kernel_rfl
theorem guard_A16A4 : Try.prog.eqGuardType Try.prog.depth 82=false:=by kernel_rfl
theorem size_A4 : (Try.prog.info? 80).map (·.size)=some 4:=by kernel_rfl
theorem size_A16A4 : (Try.prog.info? 82).map (·.size)=some 64:=by kernel_rfl
theorem size_Vector : (Try.prog.info? 79).map (·.size)=some 2:=by kernel_rfl
theorem size_Macro : (Try.prog.info? 84).map (·.size)=some 71:=by kernel_rfl
theorem zero_A4 : (Try.prog.info? 80).map (·.zero)=some (some (.agg (ic (List.replicate 4 0)))):=by kernel_rfl
theorem zero_A16A4 : (Try.prog.info? 82).map (·.zero)=some (some (.agg (ic (List.replicate 64 0)))):=by kernel_rfl
theorem eqE_int : EqE Try.prog 3 1 9999:=EqE.int Try.underlying3 9998
theorem eqE_A16 : EqE Try.prog 81 16 9999:=EqE.arr (n:=16) Try.underlying81 size_int size_A16 (EqE.int Try.underlying3 9997)
end Go.Proofs.Ytphfacfjhjcllaa
namespace Go.Proofs.Ytphfacfjhjcllaa
open Go.RowKit
theorem spec_VectorValid_yes (x y:Int) (w:World) (h:vv x y) :
 Calls Try.prog 49 #[.agg #[.int .i64 x,.int .i64 y]] w fun e w'=>e= .returned (.bool true)∧Ext w w':=by
 obtain⟨h1,h2,h3,h4⟩:=h;go_enter Try.func49,Try.ntmps49
 go_wp2_with fail
 refine(l1In_yes _ _ _ _ h1 h2).mono ?_
 rintro e w1 ⟨rfl,rfl⟩
 go_wp2_with fail
 refine(l1In_yes _ _ _ _ h3 h4).mono ?_
 rintro e w1 ⟨rfl,rfl⟩
 go_wp2;go_ret
 exact⟨rfl,Ext.alloc _ _⟩
theorem spec_VectorValid_no (x y:Int) (w:World) (h : ¬ vv x y) :
 Calls Try.prog 49 #[.agg #[.int .i64 x,.int .i64 y]] w fun e w'=>e= .returned (.bool false)∧Ext w w':=by
 unfold vv at h
 by_cases h1 : -16≤x∧x≤16
 ·have h2:=Lib.hid (show y < -16∨16<y by omega);clear h;go_enter Try.func49,Try.ntmps49
  go_wp2_with fail
  refine(l1In_yes _ _ _ _ h1.1 h1.2).mono ?_
  rintro e w1 ⟨rfl,rfl⟩
  go_wp2_with fail
  refine(l1In_no _ _ _ _ h2.out).mono ?_
  rintro e w1 ⟨rfl,rfl⟩
  go_wp2;go_ret
  exact⟨rfl,Ext.alloc _ _⟩
 ·have h2:=Lib.hid (show x < -16∨16<x by omega);clear h h1;go_enter Try.func49,Try.ntmps49
  go_wp2_with fail
  refine(l1In_no _ _ _ _ h2.out).mono ?_
  rintro e w1 ⟨rfl,rfl⟩
  go_wp2;go_ret
  exact⟨rfl,Ext.alloc _ _⟩
theorem spec_l3Ok_any (zs:List Int) (B:Int) (w:World) (hl:zs.length=16) (hB:0≤B) (hB2:B≤1099511627776) :
 Calls Try.prog 50 #[.agg (ic zs),.int .i64 B] w fun e w'=>e= .returned (.bool (inB B zs))∧Ext w w':=by
 have H:=IB.new w 81 zs;have Hl:=Lib.hid hl;clear hl;go_enter Try.func50,Try.ntmps50
 go_wp2;go_loopw [5] (fun i wr=>∃ k:Nat,k≤16∧i= .int .i64 k∧Ext w wr∧IB wr w.heap.size 81 zs∧Hid (∀ j,j<k → -B≤nth zs j∧nth zs j≤B)) (fun i _=>16-(intOf i).toNat)
 case atStart=>exact⟨0,by omega,rfl,Ext.alloc _ _,H,Lib.hid (fun j hj=>by omega)⟩
 case round =>
  obtain⟨k,hk,rfl,E2,H2,hall⟩:=hrel;clear H
  by_cases hlt:k<16
  ·have hc:=H2.cell (i:=k) (by rw[Hl.out];exact hlt)
   by_cases h1 : -B≤nth zs k∧nth zs k≤B
   ·have hall2:=Lib.hid (show ∀ j,j<k+1 → -B≤nth zs j∧nth zs j≤B from fun j hj=>by
     by_cases hjk:j=k
     ·subst hjk;exact h1
     ·exact hall.out j (by omega))
    go_wp2_with fail
    refine(l1In_yes _ _ _ _ h1.1 h1.2).mono ?_
    rintro e w1 ⟨rfl,rfl⟩
    clear h1;go_wp2;go_roundw
    case rel=>exact⟨k+1,by omega,by go_num,E2,H2,hall2⟩
    case measure=>simp[intOf];omega
   ·have hno:=Lib.hid (inB_no (B:=B) (j:=k) (by rw[Hl.out];exact hlt) (by omega));have h2:=Lib.hid (show nth zs k < -B∨B<nth zs k by omega);clear h1;go_wp2_with fail
    refine(l1In_no _ _ _ _ h2.out).mono ?_
    rintro e w1 ⟨rfl,rfl⟩
    go_wp2;go_ret
    exact⟨(ret_bool hno.out).symm,E2⟩
  ·obtain rfl:k=16:=by omega
   have hy:=Lib.hid (inB_yes (B:=B) (zs:=zs) (by rw[Hl.out];exact hall.out));go_wp2;go_ret
   exact⟨(ret_bool hy.out).symm,E2⟩
theorem spec_MacroValid_any (m:Mac) (w:World) (h:m.ok) :
 Calls Try.prog 42 #[.agg (ic m.zs)] w fun e w'=>e= .returned (.bool (decide m.valid))∧Ext w w':=by
 have H:=IB.new w 84 m.zs;have Hl:=Lib.hid (Mac.zs_len h);have Hm:=Lib.hid h;have hkc:=H.cell (i:=0) (by rw[Hl.out];omega);rw[Mac.zs_kind]at hkc;clear h
 by_cases hk:0≤m.kind∧m.kind≤2
 ·have Hk:=Lib.hid hk
  by_cases hv:vv m.x m.y
  ·have Hvv:=Lib.hid hv;clear hk hv;go_enter Try.func42,Try.ntmps42
   go_wp2_with fail
   refine(l1In_yes _ _ _ _ Hk.out.1 Hk.out.2).mono ?_
   rintro e w1 ⟨rfl,rfl⟩
   go_wp2_with (refine wpList_iload 79 _ rfl rfl H 1 2 rfl _ Try.underlying79 rfl size_Vector (by rw[Hl.out];omega) _ Mac.zs_mv ?_)
   refine(spec_VectorValid_yes m.x m.y _ Hvv.out).mono ?_
   rintro e w2 ⟨rfl,e2⟩
   have H2:=H.ext e2;have E2:=(Ext.alloc w (.cells (ic m.zs) 84)).trans e2;clear H e2 hkc;go_wp2_with fail
   go_loopw [3] (fun i wr=>∃ k:Nat,k≤4∧i= .int .i64 k∧Ext w wr∧IB wr w.heap.size 84 m.zs∧Hid (∀ j,j<k→(0≤nth m.modes j∧nth m.modes j≤4)∧inB 4080 (sub m.lv (j*16) 16)=true)) (fun i _=>4-(intOf i).toNat)
   case atStart=>exact⟨0,by omega,rfl,E2,H2,Lib.hid (fun j hj=>by omega)⟩
   case round =>
    obtain⟨k,hk,rfl,E4,H4,hall⟩:=hrel;clear H2 E2
    by_cases hlt:k<4
    ·have hmc:=H4.cell (i:=3+k) (by rw[Hl.out];omega);rw[Mac.nth_mode Hm.out k hlt]at hmc
     by_cases h1:0≤nth m.modes k∧nth m.modes k≤4
     ·have hbl:=sub_len m.lv (k*16) 16 (by rw[Hm.out.lv];omega);have Hbl:=Lib.hid hbl;have Hsb:=Lib.hid (Mac.zs_blk Hm.out k hlt);clear hbl;go_wp2_with fail
      refine(l1In_yes _ _ _ _ h1.1 h1.2).mono ?_
      rintro e w5 ⟨rfl,rfl⟩
      have H1:=Lib.hid h1;clear h1 hmc;go_wp2_with (refine wpList_iload 81 _ rfl rfl H4 (7+k*16) 16 rfl _ Try.underlying81 rfl size_A16 (by rw[Hl.out];omega) _ (by rw[Hsb.out]) ?_)
      refine(spec_l3Ok_any _ 4080 _ Hbl.out (by omega) (by omega)).mono ?_
      rintro e w6 ⟨rfl,e6⟩
      have E6:=E4.trans e6;have H6:=H4.ext e6;clear E4 H4 e6;cases hb:inB 4080 (sub m.lv (k*16) 16)
      ·have hr:=Lib.hid (show decide m.valid=false from decide_eq_false (fun h=>by
        have:=(inB_blocks Hm.out.lv).1 h.2.2.2.2.2.2 k hlt;rw[hb]at this;cases this))
       clear hb;go_wp2;go_ret
       exact⟨(ret_bool hr.out).symm,E6⟩
      ·have hall2:=Lib.hid (show ∀ j,j<k+1→(0≤nth m.modes j∧nth m.modes j≤4)∧inB 4080 (sub m.lv (j*16) 16)=true from fun j hj=>by
        by_cases hjk:j=k
        ·subst hjk;exact⟨H1.out,hb⟩
        ·exact hall.out j (by omega))
       clear hb;go_wp2;go_roundw
       case rel=>exact⟨k+1,by omega,by go_num,E6,H6,hall2⟩
       case measure=>simp[intOf];omega
     ·have h2:=Lib.hid (show nth m.modes k<0∨4<nth m.modes k by omega);have hr:=Lib.hid (show decide m.valid=false from decide_eq_false (fun h=>h1 (by
       by_cases hk2:m.kind=2
       ·exact h.2.2.2.2.1 hk2 k hlt
       ·rw[h.2.2.2.1 hk2,nth_zero4 hlt];omega)))
      clear h1;go_wp2_with fail
      refine(l1In_no _ _ _ _ h2.out).mono ?_
      rintro e w5 ⟨rfl,rfl⟩
      go_wp2;go_ret
      exact⟨(ret_bool hr.out).symm,E4⟩
    ·obtain rfl:k=4:=by omega
     have hLv:inB 4080 m.lv=true:=(inB_blocks Hm.out.lv).2 (fun k hk=>(hall.out k hk).2);have hMo:∀ j,j<4→0≤nth m.modes j∧nth m.modes j≤4:=fun j hj=>(hall.out j hj).1
     obtain hk0|hk1|hk2:m.kind=0∨m.kind=1∨m.kind=2:=by have:=Hk.out;omega
     ·have k0:=H4.cell (i:=0) (by rw[Hl.out];omega);rw[Mac.zs_kind,hk0]at k0
      by_cases hxy:m.x=0∧m.y=0
      ·by_cases hmo:m.modes=zero4
       ·by_cases hlz:m.lv=zero64
        ·have Hv:=Lib.hid (vec_eq m.x m.y true (by simpa using hxy));have Hd2:=Lib.hid (show decide (m.modes=List.replicate 4 0)=true by simpa [zero4] using hmo);have Hd3:=Lib.hid (show decide (m.lv=List.replicate 64 0)=true by simpa [zero64] using hlz);have hr:=Lib.hid (show decide m.valid=true from decide_eq_true ⟨Hk.out,Hvv.out,fun _=>hxy,fun _=>hmo,fun h=>(by omega),fun _=>hlz,hLv⟩);clear hxy hmo hlz hk0 hall hLv hMo;go_wp2_with (first|go_skip|(refine wpList_iload 79 _ rfl rfl H4 1 2 rfl _ Try.underlying79 rfl size_Vector (by rw[Hl.out];omega) _ Mac.zs_mv ?_)|(refine wpList_iload 80 _ rfl rfl H4 3 4 rfl _ Try.underlying80 rfl size_A4 (by rw[Hl.out];omega) _ (by rw[Mac.zs_modes Hm.out]) ?_)|(refine wpList_iload 82 _ rfl rfl H4 7 64 rfl _ Try.underlying82 rfl size_A16A4 (by rw[Hl.out];omega) _ (by rw[Mac.zs_lv Hm.out]) ?_)|(refine wpList_izero 80 rfl rfl Try.underlying80 size_int 4 zero_A4 ?_)|(refine wpList_izero 82 rfl rfl Try.underlying82 size_A16 64 zero_A16A4 ?_)|(refine wpList_vneq 79 _ _ _ rfl rfl _ _ rfl rfl _ Hv.out guard_Vector ?_)|(refine wpList_ineq 80 _ _ _ rfl rfl _ _ rfl rfl _ _ rfl rfl Try.underlying80 size_int eqE_int Hm.out.modes (by simp) guard_A4 _ Hd2.out ?_)|(refine wpList_ieql 82 _ _ _ rfl rfl _ _ rfl rfl _ _ rfl rfl Try.underlying82 size_A16 eqE_A16 Hm.out.lv (by simp) guard_A16A4 _ Hd3.out ?_))
         go_ret
         exact⟨(ret_bool hr.out).symm,E4⟩
        ·have Hv:=Lib.hid (vec_eq m.x m.y true (by simpa using hxy));have Hd2:=Lib.hid (show decide (m.modes=List.replicate 4 0)=true by simpa [zero4] using hmo);have Hd3:=Lib.hid (show decide (m.lv=List.replicate 64 0)=false by simpa [zero64] using hlz);have hr:=Lib.hid (show decide m.valid=false from decide_eq_false (fun h=>hlz (h.2.2.2.2.2.1 hk0)));clear hxy hmo hlz hk0 hall hLv hMo;go_wp2_with (first|go_skip|(refine wpList_iload 79 _ rfl rfl H4 1 2 rfl _ Try.underlying79 rfl size_Vector (by rw[Hl.out];omega) _ Mac.zs_mv ?_)|(refine wpList_iload 80 _ rfl rfl H4 3 4 rfl _ Try.underlying80 rfl size_A4 (by rw[Hl.out];omega) _ (by rw[Mac.zs_modes Hm.out]) ?_)|(refine wpList_iload 82 _ rfl rfl H4 7 64 rfl _ Try.underlying82 rfl size_A16A4 (by rw[Hl.out];omega) _ (by rw[Mac.zs_lv Hm.out]) ?_)|(refine wpList_izero 80 rfl rfl Try.underlying80 size_int 4 zero_A4 ?_)|(refine wpList_izero 82 rfl rfl Try.underlying82 size_A16 64 zero_A16A4 ?_)|(refine wpList_vneq 79 _ _ _ rfl rfl _ _ rfl rfl _ Hv.out guard_Vector ?_)|(refine wpList_ineq 80 _ _ _ rfl rfl _ _ rfl rfl _ _ rfl rfl Try.underlying80 size_int eqE_int Hm.out.modes (by simp) guard_A4 _ Hd2.out ?_)|(refine wpList_ieql 82 _ _ _ rfl rfl _ _ rfl rfl _ _ rfl rfl Try.underlying82 size_A16 eqE_A16 Hm.out.lv (by simp) guard_A16A4 _ Hd3.out ?_))
         go_ret
         exact⟨(ret_bool hr.out).symm,E4⟩
       ·have Hv:=Lib.hid (vec_eq m.x m.y true (by simpa using hxy));have Hd2:=Lib.hid (show decide (m.modes=List.replicate 4 0)=false by simpa [zero4] using hmo);have hr:=Lib.hid (show decide m.valid=false from decide_eq_false (fun h=>hmo (h.2.2.2.1 (by omega))));clear hxy hmo hk0 hall hLv hMo;go_wp2_with (first|go_skip|(refine wpList_iload 79 _ rfl rfl H4 1 2 rfl _ Try.underlying79 rfl size_Vector (by rw[Hl.out];omega) _ Mac.zs_mv ?_)|(refine wpList_iload 80 _ rfl rfl H4 3 4 rfl _ Try.underlying80 rfl size_A4 (by rw[Hl.out];omega) _ (by rw[Mac.zs_modes Hm.out]) ?_)|(refine wpList_izero 80 rfl rfl Try.underlying80 size_int 4 zero_A4 ?_)|(refine wpList_vneq 79 _ _ _ rfl rfl _ _ rfl rfl _ Hv.out guard_Vector ?_)|(refine wpList_ineq 80 _ _ _ rfl rfl _ _ rfl rfl _ _ rfl rfl Try.underlying80 size_int eqE_int Hm.out.modes (by simp) guard_A4 _ Hd2.out ?_))
        go_ret
        exact⟨(ret_bool hr.out).symm,E4⟩
      ·have Hv:=Lib.hid (vec_eq m.x m.y false (by simpa using hxy));have hr:=Lib.hid (show decide m.valid=false from decide_eq_false (fun h=>hxy (h.2.2.1 (by omega))));clear hxy hk0 hall hLv hMo;go_wp2_with (first|go_skip|(refine wpList_iload 79 _ rfl rfl H4 1 2 rfl _ Try.underlying79 rfl size_Vector (by rw[Hl.out];omega) _ Mac.zs_mv ?_)|(refine wpList_vneq 79 _ _ _ rfl rfl _ _ rfl rfl _ Hv.out guard_Vector ?_))
       go_ret
       exact⟨(ret_bool hr.out).symm,E4⟩
     ·have k0:=H4.cell (i:=0) (by rw[Hl.out];omega);rw[Mac.zs_kind,hk1]at k0
      by_cases hmo:m.modes=zero4
      ·have Hd2:=Lib.hid (show decide (m.modes=List.replicate 4 0)=true by simpa [zero4] using hmo);have hr:=Lib.hid (show decide m.valid=true from decide_eq_true ⟨Hk.out,Hvv.out,fun h=>absurd hk1 h,fun _=>hmo,fun h=>(by omega),fun h=>(by omega),hLv⟩);clear hmo hk1 hall hLv hMo;go_wp2_with (first|go_skip|(refine wpList_iload 80 _ rfl rfl H4 3 4 rfl _ Try.underlying80 rfl size_A4 (by rw[Hl.out];omega) _ (by rw[Mac.zs_modes Hm.out]) ?_)|(refine wpList_izero 80 rfl rfl Try.underlying80 size_int 4 zero_A4 ?_)|(refine wpList_ineq 80 _ _ _ rfl rfl _ _ rfl rfl _ _ rfl rfl Try.underlying80 size_int eqE_int Hm.out.modes (by simp) guard_A4 _ Hd2.out ?_))
       go_ret
       exact⟨(ret_bool hr.out).symm,E4⟩
      ·have Hd2:=Lib.hid (show decide (m.modes=List.replicate 4 0)=false by simpa [zero4] using hmo);have hr:=Lib.hid (show decide m.valid=false from decide_eq_false (fun h=>hmo (h.2.2.2.1 (by omega))));clear hmo hk1 hall hLv hMo;go_wp2_with (first|go_skip|(refine wpList_iload 80 _ rfl rfl H4 3 4 rfl _ Try.underlying80 rfl size_A4 (by rw[Hl.out];omega) _ (by rw[Mac.zs_modes Hm.out]) ?_)|(refine wpList_izero 80 rfl rfl Try.underlying80 size_int 4 zero_A4 ?_)|(refine wpList_ineq 80 _ _ _ rfl rfl _ _ rfl rfl _ _ rfl rfl Try.underlying80 size_int eqE_int Hm.out.modes (by simp) guard_A4 _ Hd2.out ?_))
       go_ret
       exact⟨(ret_bool hr.out).symm,E4⟩
     ·have k0:=H4.cell (i:=0) (by rw[Hl.out];omega);rw[Mac.zs_kind,hk2]at k0
      by_cases hxy:m.x=0∧m.y=0
      ·have Hv:=Lib.hid (vec_eq m.x m.y true (by simpa using hxy));have hr:=Lib.hid (show decide m.valid=true from decide_eq_true ⟨Hk.out,Hvv.out,fun _=>hxy,fun h=>absurd hk2 h,fun _=>hMo,fun h=>(by omega),hLv⟩);clear hxy hk2 hall hLv hMo;go_wp2_with (first|go_skip|(refine wpList_iload 79 _ rfl rfl H4 1 2 rfl _ Try.underlying79 rfl size_Vector (by rw[Hl.out];omega) _ Mac.zs_mv ?_)|(refine wpList_vneq 79 _ _ _ rfl rfl _ _ rfl rfl _ Hv.out guard_Vector ?_))
       go_ret
       exact⟨(ret_bool hr.out).symm,E4⟩
      ·have Hv:=Lib.hid (vec_eq m.x m.y false (by simpa using hxy));have hr:=Lib.hid (show decide m.valid=false from decide_eq_false (fun h=>hxy (h.2.2.1 (by omega))));clear hxy hk2 hall hLv hMo;go_wp2_with (first|go_skip|(refine wpList_iload 79 _ rfl rfl H4 1 2 rfl _ Try.underlying79 rfl size_Vector (by rw[Hl.out];omega) _ Mac.zs_mv ?_)|(refine wpList_vneq 79 _ _ _ rfl rfl _ _ rfl rfl _ Hv.out guard_Vector ?_))
       go_ret
       exact⟨(ret_bool hr.out).symm,E4⟩
  ·have hr:=Lib.hid (show decide m.valid=false from decide_eq_false (fun h=>hv h.2.1));clear hk;go_enter Try.func42,Try.ntmps42
   go_wp2_with fail
   refine(l1In_yes _ _ _ _ Hk.out.1 Hk.out.2).mono ?_
   rintro e w1 ⟨rfl,rfl⟩
   go_wp2_with (refine wpList_iload 79 _ rfl rfl H 1 2 rfl _ Try.underlying79 rfl size_Vector (by rw[Hl.out];omega) _ Mac.zs_mv ?_)
   refine(spec_VectorValid_no m.x m.y _ hv).mono ?_
   rintro e w2 ⟨rfl,e2⟩
   clear hv hkc H;go_wp2;go_ret
   exact⟨(ret_bool hr.out).symm,(Ext.alloc _ _).trans e2⟩
 ·have hr:=Lib.hid (show decide m.valid=false from decide_eq_false (fun h=>hk h.1));have h2:=Lib.hid (show m.kind<0∨2<m.kind by omega);clear hk;go_enter Try.func42,Try.ntmps42
  go_wp2_with fail
  refine(l1In_no _ _ _ _ h2.out).mono ?_
  rintro e w1 ⟨rfl,rfl⟩
  go_wp2;go_ret
  exact⟨(ret_bool hr.out).symm,Ext.alloc _ _⟩
/-- What the texts of regions say again and again. -/
theorem kkp {A:Sort _} {B:A→Sort _} {C:∀ a,B a→Sort _} {D:∀ a b,C a b→Sort _} {E:∀ a b c,D a b c→Sort _} {F:∀ a b c d,E a b c d→Sort _} {p:∀ a b c d e,F a b c d e→Prop} : ∀ a b c d e f,p a b c d e f→p a b c d e f:=fun _ _ _ _ _ _ h=>h
theorem ddq {A:Sort _} {a b:A} (h:a=b):a=b:=h
/-- Values that stay as they are said to be where E leads from one world to the next. -/
def Stab (E:World→World→Prop) (V:Nat→Value→(Nat→Value)→World→Prop):Prop :=
 ∀(i:Nat) (own:Value) (ys:Nat→Value) (wa wb:World),E wa wb→V i own ys wa→V i own ys wb
/-- The same for a store: all values but that of operation i and of those behind it. -/
def Stbn (n i:Nat) (anc:List (List Nat)) (V:Nat→Value→(Nat→Value)→World→Prop) (wx wy:World):Prop :=
 ∀(ii:Nat),ii<n→ii≠i→(anc.getD ii []).contains i=false→∀(own:Value) (ys:Nat→Value),V ii own ys wx→V ii own ys wy
/-- The frame of a region: slot d holds xs i for each (d, i) of ds (ds ascends). -/
def patchS : Nat→List Value→List (Nat×Nat)→(Nat→Value)→List Value
 | _,[],_,_ => []
 | _,v::l,[],_=>v::l
 | p,v::l,(d,i)::ds,xs=>if p=d then xs i::patchS (p+1) l ds xs else v::patchS (p+1) l ((d,i)::ds) xs
def upd (xs:Nat→Value) (j:Nat) (v:Value):Nat→Value:=fun i=>if i=j then v else xs i
def ascends : Nat→List (Nat×Nat)→Bool
 | _,[]=>true
 | p,(d,_)::ds=>decide (p≤d) && ascends (d+1) ds
theorem ascends_ge {p:Nat} : ∀ {ds:List (Nat×Nat)},ascends p ds=true→∀ x∈ds,p≤x.1
 | [],_,x,hx=>by cases hx
 | (d,i)::ds,ha,x,hx=>by
  simp[ascends]at ha;rcases List.mem_cons.1 hx with rfl|hx
  ·exact ha.1
  ·have:=ascends_ge ha.2 x hx;omega
theorem patchS_same (xs:Nat→Value):∀(l:List Value) (p:Nat) (ds:List (Nat×Nat)),ascends p ds=true →
 (∀ x∈ds,x.1<p+l.length→xs x.2=l.getD (x.1-p) undef)→patchS p l ds xs=l
 | [],p,ds,_,_=>by simp[patchS]
 | v::l,p,[],_,_=>by simp[patchS]
 | v::l,p,(d,i)::ds,ha,h=>by
  simp[ascends]at ha;simp only[patchS]
  by_cases hp:p=d
  ·subst hp;rw[if_pos rfl];have h1:=h (p,i) (by simp) (by simp);simp at h1;rw[h1,patchS_same xs l (p+1) ds ha.2 (fun x hx hlt=>by
    have h2:=h x (by simp[hx]) (by simp;omega);have h3:=ascends_ge ha.2 x hx;rw[h2,show x.1-p=(x.1-(p+1))+1 by omega];simp)]
  ·rw[if_neg hp,patchS_same xs l (p+1) ((d,i)::ds) (by simp[ascends];exact⟨by omega,ha.2⟩) (fun x hx hlt=>by
    have h2:=h x hx (by simp;omega);have h3:p+1≤x.1:=by
     rcases List.mem_cons.1 hx with rfl|hx
     ·show p+1≤d;omega
     ·have:=ascends_ge ha.2 x hx;omega
    rw[h2,show x.1-p=(x.1-(p+1))+1 by omega];simp)]
theorem patchS_set (xs:Nat→Value) (v:Value):∀(l:List Value) (p:Nat) (ds:List (Nat×Nat)) (d j:Nat),ascends p ds=true→(ds.map (·.2)).Nodup→(d,j)∈ds →
 (patchS p l ds xs).set (d-p) v=patchS p l ds (upd xs j v)
 | [],p,ds,d,j,_,_,_=>by simp[patchS]
 | u::l,p,[],d,j,_,_,hm=>by cases hm
 | u::l,p,(e,i)::ds,d,j,ha,hn,hm=>by
  have ha':=ha;simp[ascends]at ha;simp only[List.map_cons,List.nodup_cons]at hn;have rest:∀(q:Nat) (l:List Value) (ds:List (Nat×Nat)),j∉ds.map (·.2)→patchS q l ds (upd xs j v)=patchS q l ds xs:=by
   intro q l
   induction l generalizing q with
   | nil=>intro ds _;simp[patchS]
   | cons u l ih =>
    intro ds hj;cases ds with
    | nil=>simp[patchS]
    | cons e ds =>
     obtain⟨e1,e2⟩:=e;simp only[patchS];simp at hj;have:upd xs j v e2=xs e2:=by unfold upd;rw[if_neg (fun h=>hj.1 h.symm)]
     rw[this,ih (q+1) ds (by simpa using hj.2),ih (q+1) ((e1,e2)::ds) (by simpa using hj)]
  simp only[patchS];rcases List.mem_cons.1 hm with he|hm2
  ·simp only[Prod.mk.injEq]at he;obtain⟨rfl,rfl⟩:=he
   by_cases hp:p=d
   ·subst hp;rw[if_pos rfl,if_pos rfl,Nat.sub_self,List.set_cons_zero,rest _ _ _ hn.1];simp[upd]
   ·rw[if_neg hp,if_neg hp,show d-p=(d-(p+1))+1 by omega,List.set_cons_succ,
     patchS_set xs v l (p+1) ((d,j)::ds) d j (by simp[ascends];exact⟨by omega,ha.2⟩) (by simp[hn.2];simpa using hn.1) (by simp)]
  ·have hge:=ascends_ge ha.2 _ hm2;have hji:j≠i:=fun h=>hn.1 (h▸List.mem_map.2 ⟨(d,j),hm2,rfl⟩)
   by_cases hp:p=e
   ·subst hp;simp only at hge;rw[if_pos rfl,if_pos rfl,show d-p=(d-(p+1))+1 by omega,List.set_cons_succ,patchS_set xs v l (p+1) ds d j ha.2 hn.2 hm2];have:upd xs j v i=xs i:=by unfold upd;rw[if_neg (Ne.symm hji)]
    rw[this]
   ·simp only at hge;rw[if_neg hp,if_neg hp,show d-p=(d-(p+1))+1 by omega,List.set_cons_succ,
     patchS_set xs v l (p+1) ((e,i)::ds) d j (by simp[ascends];exact⟨by omega,ha.2⟩) (by simp[hn.2];simpa using hn.1) (by simp[hm2])]
/-- One operation, run from the frame act: whatever comes next holds behind it. -/
def OpGoal (P:Program) (ops:Array Oper) (o:Oper) (act:Act) (w:World) (Post:Value→World→Prop):Prop :=
 ∀(Qo:Exit→Act→World→Prop) (K:Value→World→Prop),Hid (∀ v w',Post v w'→K v w')→(∀ v w',K v w'→Qo .normal (act.put o.dst v) w')→wpList P ops Qo [o] act w
theorem OpGoal.plain {P:Program} {ops:Array Oper} {o:Oper} {act:Act} {w:World} {Post:Value→World→Prop} (h:OpGoal P ops o act w Post) (Qo:Exit→Act→World→Prop) (hQ:∀ v w',Post v w'→Qo .normal (act.put o.dst v) w'):wpList P ops Qo [o] act w :=
 h Qo Post (fun _ _ hp=>hp) hQ
theorem wp_then {P:Program} {o:Oper} {a:Act} {w:World} {K K':Act→World→Prop} {Q:Exit→Act→World→Prop} (h:o.wp P a w K (Exit.then K' Q)):o.wp P a w K Q:=by
 unfold Oper.wp at *;generalize (execOp a.eval o).run P w=r at *;cases r with
 | ok n w'=>cases n <;> exact h
 | halt x w'=>cases x <;> exact h
theorem wpOp_of_goal {P:Program} {ops:Array Oper} {Q:Exit→Act→World→Prop} {i:Nat} {o:Oper} {a:Act} {w:World} {K:Act→World→Prop} {Post:Value→World→Prop} (hi:ops[i]?=some o)
 (h:OpGoal P ops o a w Post) (hK:∀ v w',Post v w'→K (a.put o.dst v) w'):wpOp P ops Q i K a w:=by
 have h1:=h.plain (Exit.then K Q) (fun v w' hp=>hK v w' hp);unfold wpOp;simp only[hi];unfold wpList at h1
 by_cases hw:Region.wanted o (yielded ops a.tmps)=true
 ·rw[if_pos hw]at h1⊢;rcases h1 with h1|⟨h2,h3⟩
  ·exact .inl (wp_then h1)
  ·exact .inr ⟨h2,h3⟩
 ·rw[if_neg hw]at h1⊢;exact h1
/-- ds lists the slots that the operations write. -/
def dsOk (ol:List Oper) (ds:List (Nat×Nat)) (n:Nat):Bool :=
 ascends 0 ds && ds.all (fun x=>decide (x.1<n) && ((ol[x.2]?).bind (·.dst) == some x.1)) && (ds.map (·.2)).Nodup &&
 (List.range ol.length).all (fun i=>match (ol[i]?).bind (·.dst)with|some d=>ds.contains (d,i)|none=>true)
def direct (o:Oper):List Nat:=(o.after.toList.filter (Region.binds .any)).map (·.on)
/-- anc lists, of each operation, some that come before it in every order; every edge leads back. -/
def ancOk (ol:List Oper) (anc:List (List Nat)):Bool :=
 anc.length == ol.length && (List.range ol.length).all fun i=>match ol[i]? with
  | none=>true
  | some o=>(direct o).all (fun j=>decide (j<i)) && (anc.getD i []).all fun j=>(direct o).contains j || (direct o).any fun d=>(anc.getD d []).contains j
/-- What every operation must do. -/
structure ObOk (P : Program) (ol : List Oper) (l : List Value) (df : List Deferred) (ds : List (Nat × Nat)) (anc : List (List Nat)) (V : Nat → (Nat → Value) → World → Prop) (G : Nat → World → Prop) (j : Nat) (o : Oper) : Prop where
 run:∀ k xs w,k<ol.length→G k w→(∀ i,(anc.getD j []).contains i=true→V i xs w)→(∀ i d,(anc.getD i []).contains j=true→(ol.toArray[i]?).bind (·.dst)=some d→xs i=l.getD d undef) →
  OpGoal P ol.toArray o ⟨(patchS 0 l ds xs).toArray,df⟩ w (fun v w'=>V j (upd xs j v) w'∧G (k+1) w'∧∀ i,i<ol.length→i≠j→(anc.getD i []).contains j=false→V i xs w→V i (upd xs j v) w')
theorem wp_region_inv {P:Program} {id:Nat} {ol:List Oper} {Q:Exit→Act→World→Prop} {l:List Value} {df:List Deferred} {w0:World}
 (hm:P.follows .mixedOrders=true) (ds:List (Nat×Nat)) (anc:List (List Nat)) (V:Nat→(Nat→Value)→World→Prop) (G:Nat→World→Prop)
 (hds:dsOk ol ds l.length=true) (hanc:ancOk ol anc=true) (h0:G 0 w0.drew)
 (hop:∀ j o,ol[j]?=some o→ObOk P ol l df ds anc V G j o)
 (hend:∀ xs w',(∀ i,i<ol.length→V i xs w')→G ol.length w'→Q .normal ⟨(patchS 0 l ds xs).toArray,df⟩ w') :
 (Code.region id ol.toArray true).wp P Q ⟨l.toArray,df⟩ w0:=by
 simp only[dsOk,Bool.and_eq_true,List.all_eq_true,decide_eq_true_eq,beq_iff_eq,List.mem_range]at hds;obtain⟨⟨⟨ha,hd1⟩,hnd⟩,hd2⟩:=hds;simp only[ancOk,Bool.and_eq_true,List.all_eq_true,beq_iff_eq,List.mem_range]at hanc;obtain⟨hal,hanc⟩:=hanc
 -- the states that are met
 have key:∀(fuel:Nat) (listed:Array Bool) (xs:Nat→Value) (w:World),listed.size=ol.length→listed.toList.count true+fuel=ol.length →
  (∀ i,listed.getD i false=true→∀ j,(anc.getD i []).contains j=true→listed.getD j false=true) →
  (∀ i,i<ol.length→listed.getD i false=true→V i xs w)→G (listed.toList.count true) w →
  (∀ i d,listed.getD i false=false→(ol.toArray[i]?).bind (·.dst)=some d→xs i=l.getD d undef) →
  wpAny P .any ol.toArray Q fuel listed ⟨(patchS 0 l ds xs).toArray,df⟩ w:=by
  intro fuel;have full:∀(listed:Array Bool),listed.size=ol.length→listed.toList.count true=ol.length→∀ i,i<ol.length→listed.getD i false=true:=by
   intro listed hs hc i hi;have h1:∀ b∈listed.toList,true=b:=List.count_eq_length.1 (by rw[hc];simp[hs]);have h2:=h1 listed[i] (by simp);simp[Array.getD,hs,hi,←h2]
  have none_ready:∀(listed:Array Bool),listed.size=ol.length→listed.toList.count true<ol.length→Region.ready .any ol.toArray listed ≠ []:=by
   intro listed hs hc hr
   -- the least that is not listed
   have hex:∃ i,i<ol.length∧listed.getD i false=false:=by
    refine Classical.byContradiction fun hno => ?_
    have:listed.toList.count true=ol.length:=by
     rw[←hs,←Array.length_toList,List.count_eq_length];intro b hb;obtain⟨i,hi,rfl⟩:=List.getElem_of_mem hb;simp at hi;refine Classical.byContradiction fun hne=>hno ⟨i,by omega,?_⟩
     simp[Array.getD,hi]
     simpa using hne
    omega
   obtain⟨i,⟨hi,hli⟩,hmin⟩:=exists_least hex;have:i∈Region.ready .any ol.toArray listed:=by
    rw[mem_ready];refine⟨?_,ol[i],by simp[hi],fun e he hb => ?_⟩
    ·simp[Array.getD,hs,hi]at hli⊢;exact hli
    ·have h1:=(hanc i hi);simp only[List.getElem?_eq_getElem hi,Bool.and_eq_true,List.all_eq_true,decide_eq_true_eq]at h1;have h2:=h1.1 e.on (List.mem_map.2 ⟨e,List.mem_filter.2 ⟨by simpa using he,hb⟩,rfl⟩);cases hle:listed.getD e.on false with
     | true=>rfl
     | false=>have:=hmin e.on ⟨by omega,hle⟩;omega
   rw[hr]at this;cases this
  induction fuel with
  | zero =>
   intro listed xs w hs hc hcl hV hG _;have hf:=full listed hs (by omega);refine⟨?_,?_⟩
   ·refine List.eq_nil_iff_forall_not_mem.2 fun i hi => ?_
    obtain⟨h1,o,h2,-⟩:=mem_ready.1 hi;have hlt:i<ol.length:=by
     have:=(Array.getElem?_eq_some_iff.1 h2).1
     simpa using this
    have:=hf i hlt;simp[Array.getD,hs,hlt]at this h1;rw[this]at h1;cases h1
   ·refine hend xs w (fun i hi=>hV i hi (hf i hi)) ?_;rw[show ol.length=listed.toList.count true by omega];exact hG
  | succ fuel ih =>
   intro listed xs w hs hc hcl hV hG hI;refine⟨fun hr=>absurd hr (none_ready listed hs (by omega)),fun i hi => ?_⟩;obtain⟨h1,o,h2,h3⟩:=mem_ready.1 hi;have hlt:i<ol.length:=by
    have:=(Array.getElem?_eq_some_iff.1 h2).1
    simpa using this
   have h2':ol[i]?=some o:=by simpa using h2
   have hun:listed.getD i false=false:=by simp[Array.getD,hs,hlt]at h1⊢;exact h1
   have hA:=hanc i hlt;rw[h2']at hA;simp only[Bool.and_eq_true,List.all_eq_true,decide_eq_true_eq,Bool.or_eq_true,List.any_eq_true]at hA;have dirL:∀ d∈direct o,listed.getD d false=true:=by
    intro d hd;obtain⟨e,he,rfl⟩:=List.mem_map.1 hd;obtain⟨he1,he2⟩:=List.mem_filter.1 he;exact h3 e (by simpa using he1) he2
   have ancL:∀ j,(anc.getD i []).contains j=true→listed.getD j false=true:=by
    intro j hj;rcases hA.2 j (by simpa using hj)with h|⟨d,hd,h⟩
    ·exact dirL j (by simpa using h)
    ·exact hcl d (dirL d hd) j h
   have ltL:∀ j,listed.getD j false=true→j<ol.length:=by
    intro j hj;refine Classical.byContradiction fun hge => ?_
    simp[Array.getD,show ¬ j<listed.size by omega]at hj
   have goal:=(hop i o h2').run (listed.toList.count true) xs w (by omega) hG (fun j hj=>hV j (ltL j (ancL j hj)) (ancL j hj)) (fun j d hj hd=>hI j d (by
    cases hc2:listed.getD j false with
    | false=>rfl
    | true=>have:=hcl j hc2 i hj;rw[hun]at this;cases this) hd)
   refine wpOp_of_goal h2 goal fun v w' hp => ?_
   obtain⟨hp1,hp2,hp3⟩:=hp;have hcount:(listed.setIfInBounds i true).toList.count true=listed.toList.count true+1:=by
    rw[Array.toList_setIfInBounds,List.count_set (by simp;omega)];have:listed.toList[i]'(by simp;omega)=false:=by
     simp[Array.getD,hs,hlt]at hun
     simpa using hun
    simp[this]
   have hput:(⟨(patchS 0 l ds xs).toArray,df⟩:Act).put o.dst v=⟨(patchS 0 l ds (upd xs i v)).toArray,df⟩:=by
    cases hd:o.dst with
    | none =>
     have hni:i∉ds.map (·.2):=by
      intro hmem;obtain⟨x,hx,rfl⟩:=List.mem_map.1 hmem;have:=(hd1 x hx).2;rw[h2']at this;simp[hd]at this
     have rest:∀(q:Nat) (l:List Value) (ds:List (Nat×Nat)),i∉ds.map (·.2)→patchS q l ds (upd xs i v)=patchS q l ds xs:=by
      intro q l
      induction l generalizing q with
      | nil=>intro ds _;simp[patchS]
      | cons u l ih2 =>
       intro ds hj;cases ds with
       | nil=>simp[patchS]
       | cons e ds =>
        obtain⟨e1,e2⟩:=e;simp only[patchS];simp at hj;have:upd xs i v e2=xs e2:=by unfold upd;rw[if_neg (fun h=>hj.1 h.symm)]
        rw[this,ih2 (q+1) ds (by simpa using hj.2),ih2 (q+1) ((e1,e2)::ds) (by simpa using hj)]
     rw[rest _ _ _ hni];rfl
    | some d =>
     have hmem:(d,i)∈ds:=by
      have:=hd2 i hlt;rw[h2']at this
      simpa [hd] using this
     have h5:=patchS_set xs v l 0 ds d i ha (by simpa using hnd) hmem;simp only[Nat.sub_zero]at h5;rw[←h5];simp[Act.put]
   rw[hput];refine ih _ _ _ (by simpa using hs) (by rw[hcount];omega) ?_ ?_ (by rw[hcount];exact hp2) (fun q d hq hd => ?_)
   rotate_right
   ·by_cases hqi:q=i
    ·subst hqi;rw[Array.getD_eq_getD_getElem?,Array.getElem?_setIfInBounds,if_pos rfl,if_pos (by omega)]at hq;simp at hq
    ·rw[getD_set_ne false (Ne.symm hqi)]at hq;rw[show upd xs i v q=xs q by simp[upd,hqi]];exact hI q d hq hd
   ·intro q hq j hj
    by_cases hqi:q=i
    ·subst hqi;exact getD_set_true (ancL j hj)
    ·rw[getD_set_ne false (Ne.symm hqi)]at hq;exact getD_set_true (hcl q hq j hj)
   ·intro q hq hl
    by_cases hqi:q=i
    ·subst hqi;exact hp1
    ·rw[getD_set_ne false (Ne.symm hqi)]at hl;refine hp3 q hq hqi ?_ (hV q hq hl);cases hc2:(anc.getD q []).contains i with
     | false=>rfl
     | true=>have:=hcl q hl i hc2;rw[hun]at this;cases this
 refine wp_region_any hm ?_;have init:=key ol.length (Array.replicate ol.length false) (fun i=>(((ol[i]?).bind (·.dst)).map (fun d=>l.getD d undef)).getD undef) w0.drew (by simp) (by simp[List.count_replicate]) (fun i hi=>by simp[Array.getD]at hi) (fun i _ hi=>by simp[Array.getD]at hi) (by simpa [List.count_replicate] using h0) (fun i d _ hd=>by
  have hd':(ol[i]?).bind (·.dst)=some d:=by simpa using hd
  simp[hd'])
 have hsame:=patchS_same (fun i=>(((ol[i]?).bind (·.dst)).map (fun d=>l.getD d undef)).getD undef) l 0 ds ha (fun x hx _=>by
  have:=(hd1 x hx).2;rw[this];simp)
 rw[hsame]at init
 simpa using init
/-- xs, as far as operation i may look: at what comes before it. -/
def mask (anc:List (List Nat)) (i:Nat) (xs:Nat→Value):Nat→Value:=fun q=>if(anc.getD i []).contains q then xs q else undef
theorem mask_upd {anc:List (List Nat)} {i j:Nat} {xs:Nat→Value} {v:Value} (h:(anc.getD i []).contains j=false):mask anc i (upd xs j v)=mask anc i xs:=by
 funext q
 unfold mask upd
 by_cases hq:q=j
 ·subst hq;rw[if_neg (by rw[h];simp),if_neg (by rw[h];simp)]
 ·simp[hq]
/-- What operation j must do: own value v, what is kept of the others. -/
def Ob (P:Program) (n:Nat) (ops:Array Oper) (l:List Value) (df:List Deferred) (ds:List (Nat×Nat)) (anc:List (List Nat)) (W:Nat→Value→(Nat→Value)→World→Prop) (G:Nat→World→Prop) (j:Nat) (o:Oper):Prop :=
 ∀ k xs w,k<n→G k w→(∀ i,(anc.getD j []).contains i=true→W i (xs i) (mask anc i xs) w)→(∀ i d,(anc.getD i []).contains j=true→(ops[i]?).bind (·.dst)=some d→xs i=l.getD d undef) →
  OpGoal P ops o ⟨(patchS 0 l ds xs).toArray,df⟩ w (fun v w'=>W j v (mask anc j xs) w'∧G (k+1) w'∧∀ i,i<n→i≠j→(anc.getD i []).contains j=false→∀ own ys,W i own ys w→W i own ys w')
def Obs (P:Program) (n:Nat) (ops:Array Oper) (l:List Value) (df:List Deferred) (ds:List (Nat×Nat)) (anc:List (List Nat)) (W:Nat→Value→(Nat→Value)→World→Prop) (G:Nat→World→Prop):Nat→List Oper→Prop
 | _,[]=>True
 | j,o::os=>Ob P n ops l df ds anc W G j o∧Obs P n ops l df ds anc W G (j+1) os
theorem Obs.get {P:Program} {n:Nat} {ops:Array Oper} {l:List Value} {df:List Deferred} {ds:List (Nat×Nat)} {anc:List (List Nat)} {W:Nat→Value→(Nat→Value)→World→Prop} {G:Nat→World→Prop} :
 ∀ {os:List Oper} {p:Nat},Obs P n ops l df ds anc W G p os→∀ j o,os[j]?=some o→Ob P n ops l df ds anc W G (p+j) o
 | [],_,_,j,o,h=>by simp at h
 | u::os,p,h,j,o,hj=>by
  cases j with
  | zero=>simp at hj;subst hj;exact h.1
  | succ j =>
   simp at hj;have:=h.2.get j o hj
   rwa [show p+1+j=p+(j+1) by omega]at this
theorem wp_region_inv2 {P:Program} {id:Nat} {ol:List Oper} {Q:Exit→Act→World→Prop} {l:List Value} {df:List Deferred} {w0:World}
 (hm:P.follows .mixedOrders=true) (ds:List (Nat×Nat)) (anc:List (List Nat)) (W:Nat→Value→(Nat→Value)→World→Prop) (G:Nat→World→Prop)
 (hds:dsOk ol ds l.length=true) (hanc:ancOk ol anc=true) (hself:(List.range ol.length).all (fun i => !(anc.getD i []).contains i)=true) (h0:G 0 w0.drew)
 (hop:Obs P ol.length ol.toArray l df ds anc W G 0 ol)
 (hend:∀ xs w',(∀ i,i<ol.length→W i (xs i) (mask anc i xs) w')→G ol.length w'→Q .normal ⟨(patchS 0 l ds xs).toArray,df⟩ w') :
 (Code.region id ol.toArray true).wp P Q ⟨l.toArray,df⟩ w0:=by
 refine wp_region_inv hm ds anc (fun i xs w=>W i (xs i) (mask anc i xs) w) G hds hanc h0 (fun j o hj=>⟨fun k xs w hk hG hD hI => ?_⟩) hend;have h1:=hop.get j o hj;rw[Nat.zero_add]at h1;have hjl:j<ol.length:=(List.getElem?_eq_some_iff.1 hj).1;have hs:(anc.getD j []).contains j=false:=by
  simp only[List.all_eq_true,List.mem_range]at hself
  simpa using hself j hjl
 have h2:=h1 k xs w hk hG hD hI;intro Qo K hK hQo;refine h2 Qo K (fun v w' ⟨p1,p2,p3⟩=>hK v w' ⟨?_,p2,fun i hi hne hc hV => ?_⟩) hQo
 ·rw[mask_upd hs,show upd xs j v j=v by simp[upd]];exact p1
 ·rw[mask_upd hc,show upd xs j v i=xs i by simp[upd,hne]];exact p3 i hi hne hc _ _ hV
/-- The order of the text: what each operation of a region that draws nothing does. -/
def ancAll (n:Nat):List (List Nat):=(List.range n).map List.range
theorem i64_nat_ofInt (a:Nat) (ha:a<9223372036854775808):(BitVec.ofInt 64 (a:Int)).toNat=a:=by
 rw[BitVec.ofInt_natCast,BitVec.toNat_ofNat];exact Nat.mod_eq_of_lt (by omega)
theorem i64_xor_nat (a b:Nat) (ha:a<2^63) (hb:b<2^63):bits .xor .i64 (a:Int) (b:Int)=((a ^^^ b:Nat):Int):=by
 have hx:a ^^^ b<2^63:=Nat.xor_lt_two_pow ha hb;show IntKind.i64.wrap ((BitVec.ofInt 64 (a:Int) ^^^ BitVec.ofInt 64 (b:Int)).toNat:Int)=_;rw[BitVec.toNat_xor,i64_nat_ofInt a (by omega),i64_nat_ofInt b (by omega),IntKind.wrap_i64];omega
theorem i64_xor_range (x y:Int) (hx:0≤x∧x<9223372036854775808) (hy:0≤y∧y<9223372036854775808):0≤bits .xor .i64 x y:=by
 have:=i64_xor_nat x.toNat y.toNat (by omega) (by omega);rw[Int.toNat_of_nonneg hx.1,Int.toNat_of_nonneg hy.1]at this;rw[this];omega
theorem grown_ext {w w1 w2:World} {row:Option Nat} (h:w.grownBy w1 row) (e:Ext w1 w2):w.grownBy w2 row :=
 ⟨e.os.trans h.os,e.tape.trans h.tape,e.output.trans h.output,Nat.le_trans h.size e.size,fun k hk hr=>(e.block k (Nat.lt_of_lt_of_le hk h.size)).trans (h.block k hk hr)⟩
theorem grown_trans {w w1 w2:World} {row:Option Nat} (h:w.grownBy w1 row) (e:w1.grownBy w2 row):w.grownBy w2 row :=
 ⟨e.os.trans h.os,e.tape.trans h.tape,e.output.trans h.output,Nat.le_trans h.size e.size,fun k hk hr=>(e.block k (Nat.lt_of_lt_of_le hk h.size) hr).trans (h.block k hk hr)⟩
theorem grown_refl (w:World) (row:Option Nat):w.grownBy w row:=⟨rfl,rfl,rfl,Nat.le_refl _,fun _ _ _=>rfl⟩
end Go.Proofs.Ytphfacfjhjcllaa
