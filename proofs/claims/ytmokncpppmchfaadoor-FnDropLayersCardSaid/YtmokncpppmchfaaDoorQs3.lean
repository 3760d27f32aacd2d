/- The exact laws' helpers over byte strings and lists of them: size, copy, compare, mark, hold. | Coded pictures and lists of them: what they read as; rows of the call's own, one behind the other. | The exact laws' helpers over lists of byte strings, once more: exact sizes, own copies, marks. | The exact laws' helpers over coded pictures and lists of them. | append onto a row of the call's own keeps each row no longer than it. | append(dst, src...) onto a row of the call's own, whatever the source. | Ranges over functions: entering and leaving a function that holds one. | A region whose operations may come in any order, the invariant told which of them have run; the same within a round of a range over a function. | Copies of coded pictures: the program's. | Cutting and joining lists of coded pictures: the program's. -/
import Derived.Test.YtmokncpppmchfaaDoorQs2
import Derived.RegionTactic
import Derived.RangeFuncNested
import Derived.RangeFuncBound
import Derived.RangeFuncCalls
import Derived.RangeFuncLeaves
import Derived.Shelf.Abstract
import Derived.Shelf.RegionOpen
import Derived.WalkKit
import Derived.OwnWalkIn
import Derived.TacticsInMore
import Derived.LoopNIn
import Derived.LoopIn
import Derived.OrdersIn
import Derived.Deep.Cut
set_option linter.unusedVariables false
set_option linter.unusedSimpArgs false
set_option maxRecDepth 100000
set_option maxHeartbeats 4000000
namespace Go.Proofs.YtmokncpppmchfaaDoor
open Go.RowKit
/-- Between w and w' only blocks of lo..hi-1 have changed. -/
structure Tch (w w' : World) (lo hi : Nat) : Prop where
 os:w'.os=w.os
 tape:w'.tape=w.tape
 output:w'.output=w.output
 size:w.heap.size≤w'.heap.size
 block:∀ k,k<w.heap.size→(k<lo∨hi≤k)→w'.heap[k]?=w.heap[k]?
theorem Tch.refl (w:World) (lo hi:Nat):Tch w w lo hi:=⟨rfl,rfl,rfl,Nat.le_refl _,fun _ _ _=>rfl⟩
theorem Tch.trans {a b c:World} {lo hi:Nat} (h:Tch a b lo hi) (k:Tch b c lo hi):Tch a c lo hi :=
 ⟨k.os.trans h.os,k.tape.trans h.tape,k.output.trans h.output,Nat.le_trans h.size k.size,fun i hi ho=>(k.block i (Nat.lt_of_lt_of_le hi h.size) ho).trans (h.block i hi ho)⟩
theorem Tch.of_grown {w w':World} {lo hi:Nat} {row:Option Nat} (g:w.grownBy w' row) (h:∀ k,row=some k→lo≤k∧k<hi):Tch w w' lo hi :=
 ⟨g.os,g.tape,g.output,g.size,fun k hk ho=>g.block k hk (fun e=>by have:=h k e.symm;omega)⟩
theorem Tch.ext {w w1 w2:World} {lo hi:Nat} (h:Tch w w1 lo hi) (e:Ext w1 w2):Tch w w2 lo hi :=
 ⟨e.os.trans h.os,e.tape.trans h.tape,e.output.trans h.output,Nat.le_trans h.size e.size,fun k hk ho=>(e.block k (Nat.lt_of_lt_of_le hk h.size)).trans (h.block k hk ho)⟩
theorem Ext.tch {a w w':World} {lo hi:Nat} (e:Ext a w) (h:Tch w w' lo hi) (hl:a.heap.size≤lo):Ext a w' :=
 ⟨h.os.trans e.os,h.tape.trans e.tape,h.output.trans e.output,Nat.le_trans e.size h.size,fun k hk=>(h.block k (Nat.lt_of_lt_of_le hk e.size) (by omega)).trans (e.block k hk)⟩
theorem Tch.cell {w w':World} {lo hi:Nat} (t:Tch w w' lo hi) {p:Addr} {v:Value} (h:w.cell? p=some v) (ho:p.block<lo∨hi≤p.block):w'.cell? p=some v:=by
 have hb:=t.block p.block (World.block_lt_of_cell? w _ h) ho;obtain⟨b,o,s⟩:=p;simp only[World.cell?]at h⊢;simp only at hb;rw[hb];exact h
theorem Sl.tch {w w':World} {lo hi n:Nat} {a:Option Addr} {xs:List Value} (h:Sl w a n xs) (t:Tch w w' lo hi) (ho:∀ x,a=some x→x.block<lo∨hi≤x.block):Sl w' a n xs:=by
 refine⟨h.1,fun i hi => ?_⟩;obtain⟨b,off,ha,hc⟩:=h.2 i hi;have h2:=ho _ ha;exact⟨b,off,ha,t.cell hc h2⟩
/-- The bytes from k on. -/
def marksB (k:Int) (n:Nat):List Int:=tab n fun i=>(k+(i:Int))%256
/-- A list of byte strings of the call's own: the rows lie one behind the other. -/
def SSo (w:World) (B hi:Nat) (a:Option Addr) (n:Nat) (L:List (List Int)):Prop :=
 L.length=n∧a=some ⟨B,0,none⟩∧∃ bs:Nat→Nat,B+1≤bs 0∧bs n≤hi∧(∀ i,i<n→bs i≤bs (i+1))∧∀ i,i<n→∃(a':Option Addr) (c':Nat),w.cell? ⟨B,i,none⟩=some (.slice a' (lget L i).length c')∧w.ownsRow (bs i) 5 1 (.slice a' (lget L i).length c') (lget L i).length ((lget L i).map (Value.int .u8))∧∀ y,a'=some y→y.block<bs (i+1)
theorem SSo.toSS {w:World} {B hi:Nat} {a:Option Addr} {n:Nat} {L:List (List Int)} (h:SSo w B hi a n L):SS w a n L:=by
 obtain⟨h1,rfl,bs,-,-,-,h5⟩:=h;refine⟨h1,fun i hi => ?_⟩;obtain⟨a',c',g1,g2,-⟩:=h5 i hi;exact⟨B,0,rfl,a',c',by rw[Nat.zero_add];exact g1,Sl.of_owns g2,(owns_cap g2).1,(owns_cap g2).2⟩
theorem SSo.ext {w w':World} {B hi:Nat} {a:Option Addr} {n:Nat} {L:List (List Int)} (h:SSo w B hi a n L) (e:Ext w w'):SSo w' B hi a n L:=by
 obtain⟨h1,h2,bs,h3,h4,hm,h5⟩:=h;refine⟨h1,h2,bs,h3,h4,hm,fun i hi => ?_⟩;obtain⟨a',c',g1,g2,g3⟩:=h5 i hi;exact⟨a',c',cell_ext e g1,owns_ext g2 e,g3⟩
theorem info_ByteS : (Tryd.prog.info? 30).map (fun i=>(i.zero,i.size,i.bytes))=some (some (.slice none 0 0),1,24):=by kernel_rfl
theorem bx5 {w:World} {b:Nat} {x0 x1 x2 x3 x4:Value} {T:TypeId} (h:w.heap[b]?=some (.cells #[x0,x1,x2,x3,x4] T (0,0))):b<w.heap.size∧w.cell? ⟨b,0,none⟩=some x0∧w.cell? ⟨b,1,none⟩=some x1∧w.cell? ⟨b,2,none⟩=some x2∧w.cell? ⟨b,3,none⟩=some x3∧w.cell? ⟨b,4,none⟩=some x4 :=
 ⟨lt_of_block h,by simp[World.cell?,h],by simp[World.cell?,h],by simp[World.cell?,h],by simp[World.cell?,h],by simp[World.cell?,h]⟩
theorem fz5 {w:World} {b:Nat} {x0 x1 x2 x3 x4:Value} {T:TypeId} (h:w.heap[b]?=some (.cells #[x0,x1,x2,x3,x4] T (0,0))):w.frozen? ⟨b,0,none⟩=false∧w.frozen? ⟨b,1,none⟩=false∧w.frozen? ⟨b,2,none⟩=false∧w.frozen? ⟨b,3,none⟩=false∧w.frozen? ⟨b,4,none⟩=false :=
 ⟨by simp[World.frozen?,h],by simp[World.frozen?,h],by simp[World.frozen?,h],by simp[World.frozen?,h],by simp[World.frozen?,h]⟩
theorem blk_set5 {w:World} {b:Nat} {x0 x1 x2 x3 x4 y0 y1 y2 y3 y4:Value} {T:TypeId} (h:w.heap[b]?=some (.cells #[x0,x1,x2,x3,x4] T (0,0))):(((((w.setCell ⟨b,0,none⟩ y0).setCell ⟨b,1,none⟩ y1).setCell ⟨b,2,none⟩ y2).setCell ⟨b,3,none⟩ y3).setCell ⟨b,4,none⟩ y4).heap[b]?=some (.cells #[y0,y1,y2,y3,y4] T (0,0)):=by
 have h1:=heap_setCell_same w b 0 _ _ y0 h;have h2:=heap_setCell_same _ b 1 _ _ y1 h1;have h3:=heap_setCell_same _ b 2 _ _ y2 h2;have h4:=heap_setCell_same _ b 3 _ _ y3 h3;have h5:=heap_setCell_same _ b 4 _ _ y4 h4
 simpa using h5
theorem gs1 (w:World) (g o:Nat) (u:Value):w.grownBy (w.setCell ⟨g,o,none⟩ u) (some g):=⟨rfl,rfl,rfl,by simp,fun k _ hk=>heap_setCell_other w ⟨g,o,none⟩ k u (fun e=>hk (by simp[e]))⟩
theorem gs5 (w:World) (B i0 i1 i2 i3 i4:Nat) (u0 u1 u2 u3 u4:Value):w.grownBy (((((w.setCell ⟨B,i0,none⟩ u0).setCell ⟨B,i1,none⟩ u1).setCell ⟨B,i2,none⟩ u2).setCell ⟨B,i3,none⟩ u3).setCell ⟨B,i4,none⟩ u4) (some B) :=
 grownBy_trans (grownBy_trans (grownBy_trans (grownBy_trans (gs1 _ _ _ _) (gs1 _ _ _ _)) (gs1 _ _ _ _)) (gs1 _ _ _ _)) (gs1 _ _ _ _)
theorem own_ne2 {w:World} {b1 b2 e1 e2 s1 s2 n1 n2:Nat} {v1 v2:Value} {x1 x2:List Value} (h1:w.ownsRow b1 e1 s1 v1 n1 x1) (h2:w.ownsRow b2 e2 s2 v2 n2 x2) (hne:e1≠e2):v1.ownBlock=none∨v1.ownBlock≠v2.ownBlock:=by
 rcases h1.2 with⟨rfl,-⟩|⟨g,cap,cur,rfl,-,p1,-⟩
 ·exact .inl rfl
 ·right
  intro he;rcases h2.2 with⟨rfl,-⟩|⟨g',cap',cur',rfl,-,p2,-⟩
  ·simp[Value.ownBlock]at he
  ·simp[Value.ownBlock]at he;subst he;rw[p1]at p2;simp at p2;exact hne p2.2
/-- Sums. -/
def sumN (g:Nat→Nat):Nat→Nat
 | 0=>0
 | n+1=>sumN g n+g n
theorem sumN_mono {g:Nat→Nat} {i n:Nat} (h:i≤n):sumN g i≤sumN g n:=by
 induction n with
 | zero =>
  obtain rfl:i=0:=by omega
  exact Nat.le_refl _
 | succ n ih =>
  by_cases hi:i=n+1
  ·subst hi;exact Nat.le_refl _
  ·have:=ih (by omega);simp only[sumN];omega
theorem sumN_mem {g:Nat→Nat} {i n:Nat} (h:i<n):g i≤sumN g n:=by
 have:=sumN_mono (g:=g) (show i+1≤n from h);simp only[sumN]at this;omega
theorem seq_le {bs:Nat→Nat} {n:Nat} (h:∀ i,i<n→bs i≤bs (i+1)):∀ {j i:Nat},i≤j→j≤n→bs i≤bs j:=by
 intro j
 induction j with
 | zero =>
  intro i hi _;obtain rfl:i=0:=by omega
  exact Nat.le_refl _
 | succ j ih =>
  intro i hi hj
  by_cases e:i=j+1
  ·subst e;exact Nat.le_refl _
  ·exact Nat.le_trans (ih (by omega) (by omega)) (h j (by omega))
theorem seq_snoc {us:Nat→Nat} {k lo hi hi':Nat} (h2:lo≤us 0) (h4:us k≤hi) (h5:∀ i,i<k→us i≤us (i+1)) (hh:hi≤hi') :
 ∃ vs:Nat→Nat,(∀ i,i<k→vs i=us i)∧vs k=hi∧vs (k+1)=hi'∧lo≤vs 0∧(∀ i,i<k+1→vs i≤vs (i+1))∧∀ i,i<k→us (i+1)≤vs (i+1):=by
 obtain⟨vs,v1,v2,v3⟩:∃ vs:Nat→Nat,(∀ i,i<k→vs i=us i)∧vs k=hi∧vs (k+1)=hi' :=
  ⟨fun i=>if i<k then us i else if i=k then hi else hi',fun i hi=>by simp[hi],by simp,by simp;omega⟩
 have hle:∀ i,i<k→us (i+1)≤vs (i+1):=fun i hi3=>by
  by_cases e:i+1=k
  ·rw[e,v2];exact h4
  ·rw[v1 _ (by omega)];exact Nat.le_refl _
 refine⟨vs,v1,v2,v3,?_,fun i hi2 => ?_,hle⟩
 ·by_cases h0:k=0
  ·subst h0;rw[v2];omega
  ·rw[v1 0 (by omega)];exact h2
 ·by_cases e:i=k
  ·subst e;rw[v2,v3];exact hh
  ·rw[v1 i (by omega)];exact Nat.le_trans (h5 i (by omega)) (hle i (by omega))
/-- The list of f's strings. -/
def lst (n:Nat) (f:Nat→List Int):List (List Int):=(List.range n).map f
theorem lst_len (n:Nat) (f:Nat→List Int):(lst n f).length=n:=by simp[lst]
theorem lget_lst {n:Nat} {f:Nat→List Int} {i:Nat} (h:i<n):lget (lst n f) i=f i:=by simp[lget,lst,h]
theorem SS.of {w:World} {a:Option Addr} {n:Nat} {f:Nat→List Int} (h:∀ i,i<n→∃ b off,a=some ⟨b,off,none⟩∧BsAt w b (off+i) (f i)):SS w a n (lst n f) :=
 ⟨lst_len _ _,fun i hi=>by rw[lget_lst hi];exact h i hi⟩
theorem SS.at {w:World} {a:Option Addr} {n:Nat} {f:Nat→List Int} (h:SS w a n (lst n f)) {i:Nat} (hi:i<n):∃ b off,a=some ⟨b,off,none⟩∧BsAt w b (off+i) (f i):=by
 have:=h.2 i hi;rw[lget_lst hi]at this;exact this
/-- A coded picture. -/
structure Cd where
 w:Int
 h:Int
 i:Bool
 q:Int
 n:Nat
 f:Nat→List Int
def cd0 : Cd:=⟨0,0,false,0,0,fun _ => []⟩
/-- The five cells at b, o read as a coded picture. -/
def CdAt (w:World) (b o:Nat) (x:Cd):Prop :=
 ∃(a:Option Addr) (c:Nat),(w.cell? ⟨b,o,none⟩=some (.int .i64 x.w)∧w.cell? ⟨b,o+1,none⟩=some (.int .i64 x.h)∧w.cell? ⟨b,o+2,none⟩=some (.bool x.i)∧w.cell? ⟨b,o+3,none⟩=some (.int .i64 x.q)∧w.cell? ⟨b,o+4,none⟩=some (.slice a x.n c))∧SS w a x.n (lst x.n x.f)∧x.n≤c∧c≤maxLen
/-- The slice at a of n coded pictures reads as r. -/
def CP (w:World) (a:Option Addr) (n:Nat) (r:Nat→Cd):Prop :=
 ∀ i,i<n→∃ b off,a=some ⟨b,off,none⟩∧CdAt w b (off+i*5) (r i)
theorem CdAt.ext {w w':World} {b o:Nat} {x:Cd} (h:CdAt w b o x) (e:Ext w w'):CdAt w' b o x:=by
 obtain⟨a,c,⟨h1,h2,h3,h4,h5⟩,h6,h7⟩:=h;exact⟨a,c,⟨cell_ext e h1,cell_ext e h2,cell_ext e h3,cell_ext e h4,cell_ext e h5⟩,h6.ext e,h7⟩
theorem CP.ext {w w':World} {a:Option Addr} {n:Nat} {r:Nat→Cd} (h:CP w a n r) (e:Ext w w'):CP w' a n r:=fun i hi=>by
 obtain⟨b,off,ha,hs⟩:=h i hi;exact⟨b,off,ha,hs.ext e⟩
theorem CP.congr {w:World} {a:Option Addr} {n:Nat} {r s:Nat→Cd} (h:CP w a n r) (e:∀ i,i<n→r i=s i):CP w a n s:=fun i hi=>by
 obtain⟨b,off,ha,hs⟩:=h i hi;exact⟨b,off,ha,by rw[←e i hi];exact hs⟩
/-- n cells of byte strings of the call's own, of which the first k are laid, one behind the other in bs; the list's cells are cs. -/
def SSb (w:World) (lo hi:Nat) (v:Value) (n k:Nat) (f:Nat→List Int) (cs:List Value) (bs:Nat→Nat):Prop :=
 w.ownsRow lo 30 1 v n cs∧lo≤bs 0∧bs k≤hi∧(∀ i,i<k→bs i≤bs (i+1))∧∀ i,i<k→∃(a':Option Addr) (c':Nat),cs[i]?=some (.slice a' (f i).length c')∧w.ownsRow (bs i) 5 1 (.slice a' (f i).length c') (f i).length ((f i).map (Value.int .u8))∧∀ y,a'=some y→y.block<bs (i+1)
def SSk (w:World) (lo hi:Nat) (v:Value) (n k:Nat) (f:Nat→List Int) (cs:List Value):Prop:=∃ bs,SSb w lo hi v n k f cs bs
def SSg (w:World) (lo hi:Nat) (v:Value) (n:Nat) (f:Nat→List Int) (cs:List Value):Prop:=SSk w lo hi v n n f cs
theorem SSb.ext {w w':World} {lo hi n k:Nat} {v:Value} {f:Nat→List Int} {cs:List Value} {bs:Nat→Nat} (h:SSb w lo hi v n k f cs bs) (e:Ext w w'):SSb w' lo hi v n k f cs bs:=by
 obtain⟨h1,h2,h3,h4,h5⟩:=h;refine⟨owns_ext h1 e,h2,h3,h4,fun i hi => ?_⟩;obtain⟨a',c',k1,k2,k3⟩:=h5 i hi;exact⟨a',c',k1,owns_ext k2 e,k3⟩
theorem SSk.ext {w w':World} {lo hi n k:Nat} {v:Value} {f:Nat→List Int} {cs:List Value} (h:SSk w lo hi v n k f cs) (e:Ext w w'):SSk w' lo hi v n k f cs:=by
 obtain⟨bs,h⟩:=h;exact⟨bs,h.ext e⟩
theorem SSg.ext {w w':World} {lo hi n:Nat} {v:Value} {f:Nat→List Int} {cs:List Value} (h:SSg w lo hi v n f cs) (e:Ext w w'):SSg w' lo hi v n f cs:=SSk.ext h e
/-- A row of another type has changed. -/
theorem SSk.kept {w w':World} {lo hi n k b0 T s0 n0:Nat} {v v0:Value} {f:Nat→List Int} {cs x0:List Value} (h:SSk w lo hi v n k f cs) (g:w.grownBy w' v0.ownBlock)
 (o0:w.ownsRow b0 T s0 v0 n0 x0) (t1:30≠T) (t2:5≠T):SSk w' lo hi v n k f cs:=by
 obtain⟨bs,h1,h2,h3,h4,h5⟩:=h;refine⟨bs,h1.kept g (own_ne2 h1 o0 t1),h2,h3,h4,fun i hi => ?_⟩;obtain⟨a',c',k1,k2,k3⟩:=h5 i hi;exact⟨a',c',k1,k2.kept g (own_ne2 k2 o0 t2),k3⟩
theorem SSg.kept {w w':World} {lo hi n b0 T s0 n0:Nat} {v v0:Value} {f:Nat→List Int} {cs x0:List Value} (h:SSg w lo hi v n f cs) (g:w.grownBy w' v0.ownBlock)
 (o0:w.ownsRow b0 T s0 v0 n0 x0) (t1:30≠T) (t2:5≠T):SSg w' lo hi v n f cs:=SSk.kept h g o0 t1 t2
theorem SSg.toSS {w:World} {lo hi n c:Nat} {a:Option Addr} {f:Nat→List Int} {cs:List Value} (h:SSg w lo hi (.slice a n c) n f cs):SS w a n (lst n f):=by
 obtain⟨bs,h1,-,-,-,h2⟩:=h;have s:=Sl.of_owns h1;refine SS.of fun i hi => ?_
 obtain⟨b,off,ha,hc⟩:=s.2 i hi;obtain⟨a',c',h3,h4,-⟩:=h2 i hi;exact⟨b,off,ha,a',c',by rw[hc];simp[List.getD,h3],Sl.of_owns h4,(owns_cap h4).1,(owns_cap h4).2⟩
theorem SSk.zero {w:World} {lo hi n:Nat} {v:Value} {cs:List Value} (f:Nat→List Int) (h:w.ownsRow lo 30 1 v n cs) (hh:lo≤hi):SSk w lo hi v n 0 f cs :=
 ⟨fun _=>lo,h,Nat.le_refl _,hh,fun i hi=>by omega,fun i hi=>by omega⟩
theorem SSk.own {w:World} {lo hi n k:Nat} {v:Value} {f:Nat→List Int} {cs:List Value} (h:SSk w lo hi v n k f cs):w.ownsRow lo 30 1 v n cs:=by
 obtain⟨bs,h1,-⟩:=h;exact h1
theorem SSk.nil (w:World) (lo hi:Nat) (f:Nat→List Int) (h:lo≤hi):SSk w lo hi (.slice none 0 0) 0 0 f []:=SSk.zero f (World.ownsRow_nil _ _ _ _) h
theorem SSk.up {w:World} {lo hi hi' n k:Nat} {v:Value} {f:Nat→List Int} {cs:List Value} (h:SSk w lo hi v n k f cs) (e:hi≤hi'):SSk w lo hi' v n k f cs:=by
 obtain⟨bs,h1,h2,h3,h4⟩:=h;exact⟨bs,h1,h2,Nat.le_trans h3 e,h4⟩
theorem SSk.gr {w w':World} {lo hi n k b:Nat} {v:Value} {f:Nat→List Int} {cs:List Value} (h:SSk w lo hi v n k f cs) (g:w.grownBy w' (some b)) (hb:b<lo):SSk w' lo hi v n k f cs:=by
 obtain⟨bs,h1,h2,h3,h4,h5⟩:=h;refine⟨bs,own_gr h1 g hb,h2,h3,h4,fun i hi2 => ?_⟩;obtain⟨a',c',k1,k2,k3⟩:=h5 i hi2;have:=seq_le h4 (show 0≤i by omega) (by omega);exact⟨a',c',k1,own_gr k2 g (by omega),k3⟩
theorem SSk.mono {w:World} {lo lo' hi n k:Nat} {v:Value} {f:Nat→List Int} {cs:List Value} (h:SSk w lo hi v n k f cs) (e:lo'≤lo):SSk w lo' hi v n k f cs:=by
 obtain⟨bs,h1,h2,h3,h4⟩:=h;exact⟨bs,owns_mono h1 e,Nat.le_trans e h2,h3,h4⟩
/-- A string is laid: what the own row holds is said by cs'. -/
theorem SSk.snoc {w w':World} {lo hi hi' n n' k:Nat} {v v':Value} {f:Nat→List Int} {cs cs':List Value} {a1:Option Addr} {c1:Nat} (h:SSk w lo hi v n k f cs)
 (h3:w.ownsRow hi 5 1 (.slice a1 (f k).length c1) (f k).length ((f k).map (Value.int .u8))) (hh:hi≤hi') (hlt:∀ y,a1=some y→y.block<hi')
 (own:w'.ownsRow lo 30 1 v' n' cs') (g:w.grownBy w' v.ownBlock) (hold:∀ o,o<k→cs'[o]?=cs[o]?) (hnew:cs'[k]?=some (.slice a1 (f k).length c1)):SSk w' lo hi' v' n' (k+1) f cs':=by
 obtain⟨bs,h1,h2,h4,h5,h6⟩:=h;have hk:∀ {b m xs a c},w.ownsRow b 5 1 (.slice a m c) m xs→w'.ownsRow b 5 1 (.slice a m c) m xs:=fun o=>o.kept g (own_ne2 o h1 (by decide))
 obtain⟨vs,v1,v2,v3,v4,v5,v6⟩:=seq_snoc h2 h4 h5 hh;refine⟨vs,own,v4,by rw[v3];exact Nat.le_refl _,v5,fun i hi2 => ?_⟩
 by_cases e:i=k
 ·subst e;exact⟨a1,c1,hnew,by rw[v2];exact hk h3,by rw[v3];exact hlt⟩
 ·obtain⟨a',c',k1,k2,k3⟩:=h6 i (by omega);exact⟨a',c',by rw[hold _ (by omega)];exact k1,by rw[v1 i (by omega)];exact hk k2,fun y hy=>Nat.lt_of_lt_of_le (k3 y hy) (v6 i (by omega))⟩
/-- A string is appended. -/
theorem SSk.app {w w':World} {lo hi hi' n:Nat} {v v':Value} {f:Nat→List Int} {cs:List Value} {a1:Option Addr} {c1:Nat} (h:SSk w lo hi v n n f cs)
 (h3:w.ownsRow hi 5 1 (.slice a1 (f n).length c1) (f n).length ((f n).map (Value.int .u8))) (hh:hi≤hi') (hlt:∀ y,a1=some y→y.block<hi')
 (own:w'.ownsRow lo 30 1 v' (n+1) (cs ++ [.slice a1 (f n).length c1])) (g:w.grownBy w' v.ownBlock):SSk w' lo hi' v' (n+1) (n+1) f (cs ++ [.slice a1 (f n).length c1]):=by
 have hcl:cs.length=n:=by have:=h.own.1;omega
 exact h.snoc h3 hh hlt own g (fun o ho=>by rw[List.getElem?_append_left (by omega)]) (by rw[←hcl];simp)
/-- What is in a coded picture's cells. -/
def RC (cs:List Value) (o:Nat) (x:Cd) (a:Option Addr) (c:Nat):Prop :=
 cs[o]?=some (.int .i64 x.w)∧cs[o+1]?=some (.int .i64 x.h)∧cs[o+2]?=some (.bool x.i)∧cs[o+3]?=some (.int .i64 x.q)∧cs[o+4]?=some (.slice a x.n c)
/-- n cells of coded pictures of the call's own, of which the first k are laid, one behind the other in us. -/
def CEu (w:World) (lo hi:Nat) (v:Value) (n k:Nat) (r:Nat→Cd) (cs:List Value) (us:Nat→Nat):Prop :=
 w.ownsRow lo 38 5 v n cs∧lo≤us 0∧us k≤hi∧(∀ i,i<k→us i≤us (i+1))∧∀ i,i<k→∃(a:Option Addr) (c:Nat) (ss:List Value),RC cs (i*5) (r i) a c∧SSg w (us i) (us (i+1)) (.slice a (r i).n c) (r i).n (r i).f ss
def CE (w:World) (lo hi:Nat) (v:Value) (n k:Nat) (r:Nat→Cd) (cs:List Value):Prop:=∃ us,CEu w lo hi v n k r cs us
theorem CEu.ext {w w':World} {lo hi n k:Nat} {v:Value} {r:Nat→Cd} {cs:List Value} {us:Nat→Nat} (h:CEu w lo hi v n k r cs us) (e:Ext w w'):CEu w' lo hi v n k r cs us:=by
 obtain⟨h1,h2,h3,h4,h5⟩:=h;refine⟨owns_ext h1 e,h2,h3,h4,fun i hi => ?_⟩;obtain⟨a,c,ss,k1,k2⟩:=h5 i hi;exact⟨a,c,ss,k1,k2.ext e⟩
theorem CE.ext {w w':World} {lo hi n k:Nat} {v:Value} {r:Nat→Cd} {cs:List Value} (h:CE w lo hi v n k r cs) (e:Ext w w'):CE w' lo hi v n k r cs:=by
 obtain⟨us,h⟩:=h;exact⟨us,h.ext e⟩
theorem CE.up {w:World} {lo hi hi' n k:Nat} {v:Value} {r:Nat→Cd} {cs:List Value} (h:CE w lo hi v n k r cs) (e:hi≤hi'):CE w lo hi' v n k r cs:=by
 obtain⟨us,h1,h2,h3,h4⟩:=h;exact⟨us,h1,h2,Nat.le_trans h3 e,h4⟩
theorem CE.congr {w:World} {lo hi n k:Nat} {v:Value} {r s:Nat→Cd} {cs:List Value} (h:CE w lo hi v n k r cs) (e:∀ i,i<k→r i=s i):CE w lo hi v n k s cs:=by
 obtain⟨us,h1,h2,h3,h4,h5⟩:=h;refine⟨us,h1,h2,h3,h4,fun i hi => ?_⟩;rw[←e i hi];exact h5 i hi
theorem CE.toCP {w:World} {lo hi n c:Nat} {a:Option Addr} {r:Nat→Cd} {cs:List Value} (h:CE w lo hi (.slice a n c) n n r cs):CP w a n r:=by
 obtain⟨us,h1,-,-,-,h5⟩:=h;intro i hi;obtain⟨a2,c2,ss,⟨k1,k2,k3,k4,k5⟩,k6⟩:=h5 i hi;rcases id h1.2 with⟨hv,hn⟩|⟨g,cap,cur,hv,-⟩
 ·omega
 ·simp only[Value.slice.injEq]at hv;obtain⟨rfl,-,rfl⟩:=hv;obtain⟨bs,o6,-⟩:=id k6;refine⟨g,0,rfl,a2,c2,⟨?_,?_,?_,?_,?_⟩,k6.toSS,(owns_cap o6).1,(owns_cap o6).2⟩;all_goals (rw[Nat.zero_add,h1.cellAt _ (by omega)];assumption)
/-- Coded pictures of which none is laid. -/
theorem CE.zero {w:World} {lo hi n:Nat} {v:Value} {cs:List Value} (r:Nat→Cd) (h:w.ownsRow lo 38 5 v n cs) (hh:lo≤hi):CE w lo hi v n 0 r cs :=
 ⟨fun _=>lo,h,Nat.le_refl _,hh,fun i hi=>by omega,fun i hi=>by omega⟩
/-- One more is laid: what the own row holds is said by cs'. -/
theorem CE.snoc {w w':World} {lo hi hi' n n' k:Nat} {v v':Value} {r:Nat→Cd} {cs cs':List Value} {a1:Option Addr} {c1:Nat} {ss:List Value} (h:CE w lo hi v n k r cs)
 (h3:SSg w hi hi' (.slice a1 (r k).n c1) (r k).n (r k).f ss) (hh:hi≤hi')
 (own:w'.ownsRow lo 38 5 v' n' cs') (g:w.grownBy w' v.ownBlock) (hold:∀ o,o<k*5→cs'[o]?=cs[o]?) (hnew:RC cs' (k*5) (r k) a1 c1):CE w' lo hi' v' n' (k+1) r cs':=by
 obtain⟨us,h1,h2,h4,h5,h6⟩:=h;obtain⟨vs,v1,v2,v3,v4,v5,v6⟩:=seq_snoc h2 h4 h5 hh;refine⟨vs,own,v4,by rw[v3];exact Nat.le_refl _,v5,fun i hi2 => ?_⟩
 by_cases e:i=k
 ·subst e;exact⟨a1,c1,ss,hnew,by rw[v2,v3];exact h3.kept g h1 (by decide) (by decide)⟩
 ·obtain⟨a',c',s',⟨k1,k2,k3,k4,k5⟩,k6⟩:=h6 i (by omega);have hr:RC cs' (i*5) (r i) a' c':=⟨by rw[hold _ (by omega)];exact k1,by rw[hold _ (by omega)];exact k2,by rw[hold _ (by omega)];exact k3,by rw[hold _ (by omega)];exact k4,by rw[hold _ (by omega)];exact k5⟩;obtain⟨bs,q1,q2,q3,q4⟩:=k6.kept g h1 (by decide) (by decide);refine⟨a',c',s',hr,bs,?_,?_,Nat.le_trans q3 (v6 i (by omega)),q4⟩
  ·rw[v1 i (by omega)];exact q1
  ·rw[v1 i (by omega)];exact q2
def ln (f:Nat→List Int) (i:Nat):Nat:=(f i).length
/-- What changes when byte strings of lo..hi-1 are overwritten. -/
structure MkT (w w' : World) (lo hi : Nat) : Prop where
 tch:Tch w w' lo hi
 kept:∀ {b E s n:Nat} {v:Value} {xs:List Value},w.ownsRow b E s v n xs→(E≠5∨∀ q,v.ownBlock=some q→q<lo∨hi≤q)→w'.ownsRow b E s v n xs
theorem MkT.refl (w:World) (lo hi:Nat):MkT w w lo hi:=⟨Tch.refl _ _ _,fun h _=>h⟩
theorem MkT.step {w w1 w2:World} {lo hi b n:Nat} {v:Value} {xs:List Value} (h:MkT w w1 lo hi) (g:w1.grownBy w2 v.ownBlock) (o:w1.ownsRow b 5 1 v n xs) (hq:∀ q,v.ownBlock=some q→lo≤q∧q<hi):MkT w w2 lo hi:=by
 refine⟨h.tch.trans (Tch.of_grown g hq),fun o2 hE => ?_⟩;have o3:=h.kept o2 hE;refine o3.kept g ?_;rcases hE with hE|hE
 ·exact own_ne2 o3 o hE
 ·cases hv:(Value.ownBlock _:Option Nat)with
  | none=>exact .inl rfl
  | some p =>
   right
   intro e;have h1:=hq p e.symm;have h2:=hE p hv;omega
theorem MkT.mono {w w':World} {lo hi lo' hi':Nat} (h:MkT w w' lo hi) (h1:lo'≤lo) (h2:hi≤hi'):MkT w w' lo' hi' :=
 ⟨⟨h.tch.os,h.tch.tape,h.tch.output,h.tch.size,fun k hk ho=>h.tch.block k hk (by omega)⟩,fun o hE=>h.kept o (by
  rcases hE with hE|hE
  ·exact .inl hE
  ·exact .inr fun q hq=>by have:=hE q hq;omega)⟩
theorem MkT.trans {a b c:World} {lo hi:Nat} (h:MkT a b lo hi) (k:MkT b c lo hi):MkT a c lo hi:=⟨h.tch.trans k.tch,fun o hE=>k.kept (h.kept o hE) hE⟩
/-- The marks that the i-th string gets. -/
def mkF (k0:Int) (f:Nat→List Int) (i:Nat):List Int:=marksB (k0+(sumN (ln f) i:Nat)) (f i).length
/-- What a coded picture's marks come to, and its size. -/
def wtC (x:Cd):Nat:=4+sumN (ln x.f) x.n
def szC (x:Cd):Nat:=x.n+sumN (ln x.f) x.n
def mkR (k0:Int) (x:Cd):Cd:=⟨k0,k0+1,(k0+1+1)%3 == 0,k0+1+1+1,x.n,mkF (k0+1+1+1+1) x.f⟩
def smN (g:Cd→Nat) (r:Nat→Cd) (n:Nat):Nat:=sumN (fun i=>g (r i)) n
def mkC (k0:Int) (r:Nat→Cd) (i:Nat):Cd:=mkR (k0+(smN wtC r i:Nat)) (r i)
/-- A list of coded pictures that is small enough. -/
def okC (r:Nat→Cd) (n:Nat):Prop:=n≤1048576∧smN szC r n≤1048576
theorem okC.at {r:Nat→Cd} {n i:Nat} (h:okC r n) (hi:i<n):(r i).n≤1048576∧sumN (ln (r i).f) (r i).n≤1048576:=by
 have:=sumN_mem (g:=fun i=>szC (r i)) hi;have h2:=h.2;simp only[smN,szC]at this h2;omega
theorem size_Coded : (Tryd.prog.info? 38).map (·.size)=some 5:=by kernel_rfl
theorem info_Coded : (Tryd.prog.info? 38).map (fun i=>(i.zero,i.size,i.bytes))=some (some (.agg #[.int .i64 0,.int .i64 0,.bool false,.int .i64 0,.slice none 0 0]),5,56):=by kernel_rfl
def put5 (w:World) (g o:Nat) (u0 u1 u2 u3 u4:Value):World:=((((w.setCell ⟨g,o,none⟩ u0).setCell ⟨g,o+1,none⟩ u1).setCell ⟨g,o+2,none⟩ u2).setCell ⟨g,o+3,none⟩ u3).setCell ⟨g,o+4,none⟩ u4
theorem put5_grown (w:World) (g o:Nat) (u0 u1 u2 u3 u4:Value):w.grownBy (put5 w g o u0 u1 u2 u3 u4) (some g):=gs5 _ _ _ _ _ _ _ _ _ _ _ _
theorem put5_cells {w:World} {lo g n c o:Nat} {cs:List Value} {u0 u1 u2 u3 u4:Value} (h:w.ownsRow lo 38 5 (.slice (some ⟨g,0,none⟩) n c) n cs) :
 (put5 w g o u0 u1 u2 u3 u4).ownsRow lo 38 5 (.slice (some ⟨g,0,none⟩) n c) n (((((cs.set o u0).set (o+1) u1).set (o+2) u2).set (o+3) u3).set (o+4) u4) :=
 (((((h.stored o u0).1.stored (o+1) u1).1.stored (o+2) u2).1.stored (o+3) u3).1.stored (o+4) u4).1
section
variable {P : Program} (w : World)
theorem run_append_keep (base:Nat) (t ty e:TypeId) (i:TypeInfo) (z:Value) (size bytes:Nat) (ht:P.underlying t=some (.slice e)) (hi:P.info? e=some i) (hz:i.zero=some z)
 (hsize:i.size=size) (hby:i.bytes=bytes) (hzs:z.cells.size=size) (hsz:0<size)
 (v:Value) (n:Nat) (xs:List Value) (hown:w.ownsRow base e size v n xs)
 (a:Addr) (m c:Nat) (news:List Value) (hl:news.length=m*size) (hnews:∀ j u,news[j]?=some u→w.cell? (a.add j)=some u) (h1:∀ u∈news,u.oneCell'=true)
 (h63:n+m≤maxLen) (hbytes:(n+m)*bytes≤140737488355328) (hbase:base≤w.heap.size) :
 ∃ v' w',(Builtin.append_ #[t,t] ty #[v,.slice (some a) m c]).run P w= .ok v' w'∧w'.ownsRow base e size v' (n+m) (xs++news)∧w.grownBy w' v.ownBlock ∧
  (∀ b' n' own xs',n'≤n→w.ownsRow b' e size own n' xs'→w'.ownsRow b' e size own n' xs'):=by
 obtain⟨v',w',hr,h2,h3,-⟩:=run_append_own (P:=P) w base t ty e i z size bytes ht hi hz hsize hby hzs hsz v n xs hown a m c news hl hnews h1 h63 hbytes hbase;refine⟨v',w',hr,h2,h3,fun b' n' own xs' hn' ho => ?_⟩
 by_cases hne:own.ownBlock=none∨own.ownBlock≠v.ownBlock
 ·exact ho.kept h3 hne
 ·have hsm:n+m≤9223372036854775807:=by simp only[maxLen]at h63;omega
  rcases id hown.2 with⟨rfl,rfl⟩|⟨g,cap,cur,rfl,hbg,hg,hnc,hcm,hcs,htake⟩
  ·exact absurd (show own.ownBlock=none∨_ from by
    cases h:own.ownBlock with
    | none=>exact .inl rfl
    | some q=>exact .inr (by simp[Value.ownBlock])) hne
  ·subst hsize
   by_cases hroom:n+m≤cap
   ·have hfit:n*i.size+news.length≤cur.size:=by rw[hl,hcs,←Nat.add_mul];exact Nat.mul_le_mul_right _ hroom
    have hr2:=run_append_room (P:=P) w t ty e i ht hi g n cap cur hg a m c news hl hnews h1 hroom hfit;rw[hr]at hr2;simp only[Result.ok.injEq]at hr2;obtain⟨-,rfl⟩:=hr2;rcases id ho.2 with⟨rfl,-⟩|⟨g',cap',cur',rfl,hb',hg',hnc',hcm',hcs',htake'⟩
    ·exact absurd (.inl rfl) hne
    ·have hgg:g'=g:=by
      have : ¬ (some g':Option Nat)≠some g:=fun h=>hne (.inr h)
      simpa using this
     subst hgg;rw[hg]at hg';simp only[Option.some.injEq,Obj.cells.injEq,and_true]at hg';subst hg';refine⟨ho.1,.inr ⟨g',cap',_,rfl,hb',setRow_heap w g' cur _ e _ hg,hnc',hcm',?_,?_⟩⟩
     ·simp only[List.size_toArray,List.length_append,List.length_take,List.length_drop,Array.length_toList];omega
     ·have hle:n'*i.size≤n*i.size:=Nat.mul_le_mul_right _ hn';have hlen:(cur.toList.take (n*i.size)).length=n*i.size:=by
       rw[List.length_take,Array.length_toList];omega
      rw[List.toList_toArray,List.append_assoc,List.take_append_of_le_length (by rw[hlen];exact hle),List.take_take,Nat.min_eq_left hle];exact htake'
   ·have holds:∀ j u,xs[j]?=some u→w.cell? ((⟨g,0,none⟩:Addr).add j)=some u:=hown.cells (g:=g) rfl;have hr2:=run_append_grow (P:=P) w t ty e i z ht hi hz ⟨g,0,none⟩ n cap xs hown.1 holds a m c news hl hnews (by omega) (by omega) (growslice_fits (by omega) (by rw[hby];exact hbytes));rw[hr]at hr2;simp only[Result.ok.injEq]at hr2;obtain⟨-,rfl⟩:=hr2;exact ho.kept (row:=none) ⟨rfl,rfl,rfl,by simp,fun k hk _=>(World.grownBy_alloc w.drew _ none).block k hk (by simp)⟩ (by cases own.ownBlock <;> simp)
/-- an operation that is wanted. -/
theorem wpList_want {ops:Array Oper} {rest:List Oper} {o:Oper} {a:Act} {Q:Exit→Act→World→Prop} {w:World} (hw:Region.wanted o (yielded ops a.tmps)=true)
 (h:∀ K:Act→World→Prop,(∀ a w,wpList P ops Q rest a w→K a w)→o.wp P a w K Q):wpList P ops Q (o::rest) a w :=
 wpList_step fun K hK=>by rw[if_pos hw];exact h K hK
theorem wpList_appk {ops:Array Oper} {rest:List Oper} {o:Oper} {a:Act} {Q:Exit→Act→World→Prop} {base e size:Nat} {v:Value} {n:Nat} {xs:List Value}
 (hw:Region.wanted o (yielded ops a.tmps)=true)
 (hown:w.ownsRow base e size v n xs) (hbase:base≤w.heap.size)
 (s x:Operand) (t:TypeId) (ho:o.op= .call { callee := .builtin .append,args := #[s,x],argTypes := #[t,t] })
 (z:Value) (bytes:Nat) (h1:P.underlying t=some (.slice e)) (h2:(P.info? e).map (fun i=>(i.zero,i.size,i.bytes))=some (some z,size,bytes)) (hz1:z.cells.size=size) (hsz:0<size)
 (hs:a.eval s=v) (ad:Addr) (m c:Nat) (us:List Value) (hx:a.eval x= .slice (some ad) m c) (hl:us.length=m*size) (hcell:∀(j:Nat) q,us[j]?=some q→w.cell? (ad.add j)=some q) (hu1:∀ u∈us,u.oneCell'=true)
 (hb:(n+m)*bytes≤140737488355328) (hn:n+m<2^62)
 (h:∀ v' w',w'.ownsRow base e size v' (n+m) (xs++us)→w.grownBy w' v.ownBlock→(∀ b' n' own xs',n'≤n→w.ownsRow b' e size own n' xs'→w'.ownsRow b' e size own n' xs')→wpList P ops Q rest (a.put o.dst v') w'):wpList P ops Q (o::rest) a w:=by
 obtain⟨i0,hi,hz0,hz1',hz2⟩:=info_parts h2;obtain⟨v',w',hr,k2,k3,k4⟩:=run_append_keep (P:=P) w base t o.type e i0 z size bytes h1 hi hz0 hz1' hz2 hz1 hsz v n xs hown ad m c us hl hcell hu1 (by unfold maxLen;omega) hb hbase;refine wpList_want hw fun K hK => ?_
 unfold Oper.wp execOp;simp only[ho,resolve,invoke,builtin,Sem.run_bind,Sem.run_pure,Result.andThen_ok,List.map_toArray,List.map_cons,List.map_nil,hs,hx,hr];exact hK _ _ (h v' w' k2 k3 k4)
end
end Go.Proofs.YtmokncpppmchfaaDoor
namespace Go.Proofs.YtmokncpppmchfaaDoor
open Go.RowKit
section
variable {P : Program} (w : World)
theorem run_app_nil (base:Nat) (t ty e:TypeId) (i:TypeInfo) (size:Nat) (ht:P.underlying t=some (.slice e)) (hi:P.info? e=some i)
 (v:Value) (n:Nat) (xs:List Value) (hown:w.ownsRow base e size v n xs) (c:Nat):(Builtin.append_ #[t,t] ty #[v,.slice none 0 c]).run P w= .ok v w:=by
 rcases hown.2 with⟨rfl,rfl⟩|⟨g,cap,cur,rfl,_,_,hnc,_⟩
 ·simp[Builtin.append_,run_underlying ht,sizeOf,typeInfo,hi,Builtin.lenOf,Builtin.firstCells]
 ·simp[Builtin.append_,run_underlying ht,sizeOf,typeInfo,hi,Builtin.lenOf,Builtin.firstCells,hnc,storeCells]
theorem Sl.cellsOf {a:Addr} {m:Nat} {us:List Value} (h:Sl w (some a) m us) (hm:0<m):∀ j u,us[j]?=some u→w.cell? (a.add j)=some u:=by
 intro j u hu;have hj:j<us.length:=(List.getElem?_eq_some_iff.1 hu).1;obtain⟨b,off,ha,hc⟩:=h.2 j (by rw[←h.1];exact hj);simp only[Option.some.injEq]at ha;subst ha;rw[Addr.add_lit,hc];simp[List.getD,hu]
theorem wpList_apps {ops:Array Oper} {rest:List Oper} {o:Oper} {a:Act} {Q:Exit→Act→World→Prop} {base e:Nat} {v:Value} {n:Nat} {xs:List Value}
 (hown:w.ownsRow base e 1 v n xs) (hbase:base≤w.heap.size)
 (hg:o.guard=none) (s x:Operand) (t:TypeId) (ho:o.op= .call { callee := .builtin .append,args := #[s,x],argTypes := #[t,t] })
 (z:Value) (bytes:Nat) (h1:P.underlying t=some (.slice e)) (h2:(P.info? e).map (fun i=>(i.zero,i.size,i.bytes))=some (some z,1,bytes)) (hz1:z.cells.size=1)
 (hs:a.eval s=v) (A:Option Addr) (m c:Nat) (us:List Value) (hx:a.eval x= .slice A m c) (src:Sl w A m us) (hu1:∀ u∈us,u.oneCell'=true)
 (hb:(n+m)*bytes≤140737488355328) (hn:n+m<2^62)
 (h:∀ v' w',w'.ownsRow base e 1 v' (n+m) (xs++us)→w.grownBy w' v.ownBlock→wpList P ops Q rest (a.put o.dst v') w'):wpList P ops Q (o::rest) a w:=by
 obtain⟨i0,hi,hz0,hz1',hz2⟩:=info_parts h2;cases A with
 | none =>
  have hm:m=0:=by
   refine Classical.byContradiction fun h0 => ?_
   obtain⟨b,off,ha,-⟩:=src.2 0 (by omega);cases ha
  subst hm;have hus:us = []:=List.eq_nil_of_length_eq_zero src.1;subst hus;refine wpList_plain hg fun _ hK => ?_
  have hrun:=run_app_nil (P:=P) w base t o.type e i0 1 h1 hi v n xs hown c;unfold Oper.wp execOp;simp only[ho,resolve,invoke,builtin,Sem.run_bind,Sem.run_pure,Result.andThen_ok,List.map_toArray,List.map_cons,List.map_nil,hs,hx,hrun];exact hK _ _ (h v w (by simpa using hown) (World.grownBy.refl w _))
 | some ad =>
  refine wpList_append_own _ hg s x t ho base e i0 z 1 bytes h1 hi hz0 hz1' hz2 hz1 (by decide) v n xs hs hown ad m c us hx (by rw[src.1];omega) ?_ hu1 (by unfold maxLen;omega) hb hbase ?_
  ·by_cases hm:0<m
   ·exact src.cellsOf _ hm
   ·have hus:us = []:=List.eq_nil_of_length_eq_zero (by rw[src.1];omega);subst hus;intro j u hj;simp at hj
  ·intro v' w' a1 a2 _;exact h v' w' a1 a2
end
end Go.Proofs.YtmokncpppmchfaaDoor
namespace Go.Proofs.YtmokncpppmchfaaDoor
open Go.RowKit
def keepB (b:Nat) (W W':World):Prop:=W'.heap[b]?=W.heap[b]?
theorem keepB.t {b:Nat} {A B C:World} (h:keepB b A B) (k:keepB b B C):keepB b A C:=k.trans h
theorem keepB.b {b n:Nat} (hb:b<n) (W:World) (l:Nat) (o o':Obj) (hl:n≤l) (_:W.heap[l]?=some o) (_:o.isCells=false) (_:o.isWalk=false):keepB b W (W.putObj l o'):=World.putObj_heap_other (by omega)
/-- Operation j has run too. -/
def updL (L:Nat→Bool) (j:Nat):Nat→Bool:=fun i=>if i=j then true else L i
/-- What every operation must do. -/
structure ObOkL (P : Program) (ol : List Oper) (l : List Value) (df : List Deferred) (ds : List (Nat × Nat)) (anc : List (List Nat)) (V : Nat → (Nat → Value) → World → Prop) (G : (Nat → Bool) → World → Prop) (j : Nat) (o : Oper) : Prop where
 run:∀ L xs w,G L w→L j=false→(∀ i,(anc.getD j []).contains i=true→L i=true)→(∀ i,(anc.getD i []).contains j=true→L i=false)→(∀ i,(anc.getD j []).contains i=true→V i xs w)→(∀ i d,(anc.getD i []).contains j=true→(ol.toArray[i]?).bind (·.dst)=some d→xs i=l.getD d undef) →
  OpGoal P ol.toArray o ⟨(patchS 0 l ds xs).toArray,df⟩ w (fun v w'=>V j (upd xs j v) w'∧G (updL L j) w'∧∀ i,i<ol.length→i≠j→(anc.getD i []).contains j=false→V i xs w→V i (upd xs j v) w')
theorem any_invL {P:Program} {ol:List Oper} {Q:Exit→Act→World→Prop} {l:List Value} {df:List Deferred} {w0:World}
 (ds:List (Nat×Nat)) (anc:List (List Nat)) (V:Nat→(Nat→Value)→World→Prop) (G:(Nat→Bool)→World→Prop)
 (hds:dsOk ol ds l.length=true) (hanc:ancOk ol anc=true) (h0:G (fun _=>false) w0)
 (hop:∀ j o,ol[j]?=some o→ObOkL P ol l df ds anc V G j o)
 (hend:∀ xs w',(∀ i,i<ol.length→V i xs w')→(∃ L,(∀ i,i<ol.length→L i=true)∧G L w')→Q .normal ⟨(patchS 0 l ds xs).toArray,df⟩ w') :
 wpAny P .any ol.toArray Q ol.length (Array.replicate ol.length false) ⟨l.toArray,df⟩ w0:=by
 simp only[dsOk,Bool.and_eq_true,List.all_eq_true,decide_eq_true_eq,beq_iff_eq,List.mem_range]at hds;obtain⟨⟨⟨ha,hd1⟩,hnd⟩,hd2⟩:=hds;simp only[ancOk,Bool.and_eq_true,List.all_eq_true,beq_iff_eq,List.mem_range]at hanc;obtain⟨hal,hanc⟩:=hanc
 -- the states that are met
 have key:∀(fuel:Nat) (listed:Array Bool) (xs:Nat→Value) (w:World),listed.size=ol.length→listed.toList.count true+fuel=ol.length →
  (∀ i,listed.getD i false=true→∀ j,(anc.getD i []).contains j=true→listed.getD j false=true) →
  (∀ i,i<ol.length→listed.getD i false=true→V i xs w)→G (fun i=>listed.getD i false) w →
  (∀ i d,listed.getD i false=false→(ol.toArray[i]?).bind (·.dst)=some d→xs i=l.getD d undef) →
  wpAny P .any ol.toArray Q fuel listed ⟨(patchS 0 l ds xs).toArray,df⟩ w:=by
  intro fuel;have full:∀(listed:Array Bool),listed.size=ol.length→listed.toList.count true=ol.length→∀ i,i<ol.length→listed.getD i false=true:=by
   intro listed hs hc i hi;have h1:∀ b∈listed.toList,true=b:=List.count_eq_length.1 (by rw[hc];simp[hs]);have h2:=h1 listed[i] (by simp);simp[Array.getD,hs,hi,←h2]
  have none_ready:∀(listed:Array Bool),listed.size=ol.length→listed.toList.count true<ol.length→Region.ready .any ol.toArray listed ≠ []:=by
   intro listed hs hc hr
   -- the least that is not listed
   have hex:∃ i,i<ol.length∧listed.getD i false=false:=by
    refine Classical.byContradiction fun hno => ?_
    have:listed.toList.count true=ol.length:=by
     rw[←hs,←Array.length_toList,List.count_eq_length];intro b hb;obtain⟨i,hi,rfl⟩:=List.getElem_of_mem hb;simp at hi;refine Classical.byContradiction fun hne=>hno ⟨i,by omega,?_⟩
     simp[Array.getD,hi]
     simpa using hne
    omega
   obtain⟨i,⟨hi,hli⟩,hmin⟩:=exists_least hex;have:i∈Region.ready .any ol.toArray listed:=by
    rw[mem_ready];refine⟨?_,ol[i],by simp[hi],fun e he hb => ?_⟩
    ·simp[Array.getD,hs,hi]at hli⊢;exact hli
    ·have h1:=(hanc i hi);simp only[List.getElem?_eq_getElem hi,Bool.and_eq_true,List.all_eq_true,decide_eq_true_eq]at h1;have h2:=h1.1 e.on (List.mem_map.2 ⟨e,List.mem_filter.2 ⟨by simpa using he,hb⟩,rfl⟩);cases hle:listed.getD e.on false with
     | true=>rfl
     | false=>have:=hmin e.on ⟨by omega,hle⟩;omega
   rw[hr]at this;cases this
  induction fuel with
  | zero =>
   intro listed xs w hs hc hcl hV hG _;have hf:=full listed hs (by omega);refine⟨?_,?_⟩
   ·refine List.eq_nil_iff_forall_not_mem.2 fun i hi => ?_
    obtain⟨h1,o,h2,-⟩:=mem_ready.1 hi;have hlt:i<ol.length:=by
     have:=(Array.getElem?_eq_some_iff.1 h2).1
     simpa using this
    have:=hf i hlt;simp[Array.getD,hs,hlt]at this h1;rw[this]at h1;cases h1
   ·exact hend xs w (fun i hi=>hV i hi (hf i hi)) ⟨_,hf,hG⟩
  | succ fuel ih =>
   intro listed xs w hs hc hcl hV hG hI;refine⟨fun hr=>absurd hr (none_ready listed hs (by omega)),fun i hi => ?_⟩;obtain⟨h1,o,h2,h3⟩:=mem_ready.1 hi;have hlt:i<ol.length:=by
    have:=(Array.getElem?_eq_some_iff.1 h2).1
    simpa using this
   have h2':ol[i]?=some o:=by simpa using h2
   have hun:listed.getD i false=false:=by simp[Array.getD,hs,hlt]at h1⊢;exact h1
   have hA:=hanc i hlt;rw[h2']at hA;simp only[Bool.and_eq_true,List.all_eq_true,decide_eq_true_eq,Bool.or_eq_true,List.any_eq_true]at hA;have dirL:∀ d∈direct o,listed.getD d false=true:=by
    intro d hd;obtain⟨e,he,rfl⟩:=List.mem_map.1 hd;obtain⟨he1,he2⟩:=List.mem_filter.1 he;exact h3 e (by simpa using he1) he2
   have ancL:∀ j,(anc.getD i []).contains j=true→listed.getD j false=true:=by
    intro j hj;rcases hA.2 j (by simpa using hj)with h|⟨d,hd,h⟩
    ·exact dirL j (by simpa using h)
    ·exact hcl d (dirL d hd) j h
   have ltL:∀ j,listed.getD j false=true→j<ol.length:=by
    intro j hj;refine Classical.byContradiction fun hge => ?_
    simp[Array.getD,show ¬ j<listed.size by omega]at hj
   have goal:=(hop i o h2').run (fun i=>listed.getD i false) xs w hG hun ancL (fun j hj=>by
    cases hc2:listed.getD j false with
    | false=>rfl
    | true=>have:=hcl j hc2 i hj;rw[hun]at this;cases this) (fun j hj=>hV j (ltL j (ancL j hj)) (ancL j hj)) (fun j d hj hd=>hI j d (by
    cases hc2:listed.getD j false with
    | false=>rfl
    | true=>have:=hcl j hc2 i hj;rw[hun]at this;cases this) hd)
   refine wpOp_of_goal h2 goal fun v w' hp => ?_
   obtain⟨hp1,hp2,hp3⟩:=hp;have hcount:(listed.setIfInBounds i true).toList.count true=listed.toList.count true+1:=by
    rw[Array.toList_setIfInBounds,List.count_set (by simp;omega)];have:listed.toList[i]'(by simp;omega)=false:=by
     simp[Array.getD,hs,hlt]at hun
     simpa using hun
    simp[this]
   have hput:(⟨(patchS 0 l ds xs).toArray,df⟩:Act).put o.dst v=⟨(patchS 0 l ds (upd xs i v)).toArray,df⟩:=by
    cases hd:o.dst with
    | none =>
     have hni:i∉ds.map (·.2):=by
      intro hmem;obtain⟨x,hx,rfl⟩:=List.mem_map.1 hmem;have:=(hd1 x hx).2;rw[h2']at this;simp[hd]at this
     have rest:∀(q:Nat) (l:List Value) (ds:List (Nat×Nat)),i∉ds.map (·.2)→patchS q l ds (upd xs i v)=patchS q l ds xs:=by
      intro q l
      induction l generalizing q with
      | nil=>intro ds _;simp[patchS]
      | cons u l ih2 =>
       intro ds hj;cases ds with
       | nil=>simp[patchS]
       | cons e ds =>
        obtain⟨e1,e2⟩:=e;simp only[patchS];simp at hj;have:upd xs i v e2=xs e2:=by unfold upd;rw[if_neg (fun h=>hj.1 h.symm)]
        rw[this,ih2 (q+1) ds (by simpa using hj.2),ih2 (q+1) ((e1,e2)::ds) (by simpa using hj)]
     rw[rest _ _ _ hni];rfl
    | some d =>
     have hmem:(d,i)∈ds:=by
      have:=hd2 i hlt;rw[h2']at this
      simpa [hd] using this
     have h5:=patchS_set xs v l 0 ds d i ha (by simpa using hnd) hmem;simp only[Nat.sub_zero]at h5;rw[←h5];simp[Act.put]
   rw[hput];refine ih _ _ _ (by simpa using hs) (by rw[hcount];omega) ?_ ?_ (by
    have e:updL (fun i=>listed.getD i false) i=fun q=>(listed.setIfInBounds i true).getD q false:=by
     funext q
     unfold updL
     by_cases hqi:q=i
     ·subst hqi;rw[if_pos rfl,Array.getD_eq_getD_getElem?,Array.getElem?_setIfInBounds,if_pos rfl,if_pos (by omega)];rfl
     ·rw[if_neg hqi,getD_set_ne false (Ne.symm hqi)]
    rw[←e];exact hp2) (fun q d hq hd => ?_)
   rotate_right
   ·by_cases hqi:q=i
    ·subst hqi;rw[Array.getD_eq_getD_getElem?,Array.getElem?_setIfInBounds,if_pos rfl,if_pos (by omega)]at hq;simp at hq
    ·rw[getD_set_ne false (Ne.symm hqi)]at hq;rw[show upd xs i v q=xs q by simp[upd,hqi]];exact hI q d hq hd
   ·intro q hq j hj
    by_cases hqi:q=i
    ·subst hqi;exact getD_set_true (ancL j hj)
    ·rw[getD_set_ne false (Ne.symm hqi)]at hq;exact getD_set_true (hcl q hq j hj)
   ·intro q hq hl
    by_cases hqi:q=i
    ·subst hqi;exact hp1
    ·rw[getD_set_ne false (Ne.symm hqi)]at hl;refine hp3 q hq hqi ?_ (hV q hq hl);cases hc2:(anc.getD q []).contains i with
     | false=>rfl
     | true=>have:=hcl q hl i hc2;rw[hun]at this;cases this
 have init:=key ol.length (Array.replicate ol.length false) (fun i=>(((ol[i]?).bind (·.dst)).map (fun d=>l.getD d undef)).getD undef) w0 (by simp) (by simp[List.count_replicate]) (fun i hi=>by simp[Array.getD]at hi) (fun i _ hi=>by simp[Array.getD]at hi) (by
  have e:(fun i=>(Array.replicate ol.length false).getD i false)=fun _=>false:=by
   funext i
   simp[Array.getD]
  rw[e];exact h0) (fun i d _ hd=>by
  have hd':(ol[i]?).bind (·.dst)=some d:=by simpa using hd
  simp[hd'])
 have hsame:=patchS_same (fun i=>(((ol[i]?).bind (·.dst)).map (fun d=>l.getD d undef)).getD undef) l 0 ds ha (fun x hx _=>by
  have:=(hd1 x hx).2;rw[this];simp)
 rw[hsame]at init
 simpa using init
/-- What operation j must do: own value v, what is kept of the others. -/
def ObL (P:Program) (n:Nat) (ops:Array Oper) (l:List Value) (df:List Deferred) (ds:List (Nat×Nat)) (anc:List (List Nat)) (W:Nat→Value→(Nat→Value)→World→Prop) (G:(Nat→Bool)→World→Prop) (j:Nat) (o:Oper):Prop :=
 ∀ L xs w,G L w→L j=false→(∀ i,(anc.getD j []).contains i=true→L i=true)→(∀ i,(anc.getD i []).contains j=true→L i=false)→(∀ i,(anc.getD j []).contains i=true→W i (xs i) (mask anc i xs) w)→(∀ i d,(anc.getD i []).contains j=true→(ops[i]?).bind (·.dst)=some d→xs i=l.getD d undef) →
  OpGoal P ops o ⟨(patchS 0 l ds xs).toArray,df⟩ w (fun v w'=>W j v (mask anc j xs) w'∧G (updL L j) w'∧∀ i,i<n→i≠j→(anc.getD i []).contains j=false→∀ own ys,W i own ys w→W i own ys w')
def ObsL (P:Program) (n:Nat) (ops:Array Oper) (l:List Value) (df:List Deferred) (ds:List (Nat×Nat)) (anc:List (List Nat)) (W:Nat→Value→(Nat→Value)→World→Prop) (G:(Nat→Bool)→World→Prop):Nat→List Oper→Prop
 | _,[]=>True
 | j,o::os=>ObL P n ops l df ds anc W G j o∧ObsL P n ops l df ds anc W G (j+1) os
theorem ObsL.get {P:Program} {n:Nat} {ops:Array Oper} {l:List Value} {df:List Deferred} {ds:List (Nat×Nat)} {anc:List (List Nat)} {W:Nat→Value→(Nat→Value)→World→Prop} {G:(Nat→Bool)→World→Prop} :
 ∀ {os:List Oper} {p:Nat},ObsL P n ops l df ds anc W G p os→∀ j o,os[j]?=some o→ObL P n ops l df ds anc W G (p+j) o
 | [],_,_,j,o,h=>by simp at h
 | u::os,p,h,j,o,hj=>by
  cases j with
  | zero=>simp at hj;subst hj;exact h.1
  | succ j =>
   simp at hj;have:=h.2.get j o hj
   rwa [show p+1+j=p+(j+1) by omega]at this
theorem any_inv2L {P:Program} {ol:List Oper} {Q:Exit→Act→World→Prop} {l:List Value} {df:List Deferred} {w0:World}
 (ds:List (Nat×Nat)) (anc:List (List Nat)) (W:Nat→Value→(Nat→Value)→World→Prop) (G:(Nat→Bool)→World→Prop)
 (hds:dsOk ol ds l.length=true) (hanc:ancOk ol anc=true) (hself:(List.range ol.length).all (fun i => !(anc.getD i []).contains i)=true) (h0:G (fun _=>false) w0)
 (hop:ObsL P ol.length ol.toArray l df ds anc W G 0 ol)
 (hend:∀ xs w',(∀ i,i<ol.length→W i (xs i) (mask anc i xs) w')→(∃ L,(∀ i,i<ol.length→L i=true)∧G L w')→Q .normal ⟨(patchS 0 l ds xs).toArray,df⟩ w') :
 wpAny P .any ol.toArray Q ol.length (Array.replicate ol.length false) ⟨l.toArray,df⟩ w0:=by
 refine any_invL ds anc (fun i xs w=>W i (xs i) (mask anc i xs) w) G hds hanc h0 (fun j o hj=>⟨fun L xs w hG hl ha hb hD hI => ?_⟩) hend;have h1:=hop.get j o hj;rw[Nat.zero_add]at h1;have hjl:j<ol.length:=(List.getElem?_eq_some_iff.1 hj).1;have hs:(anc.getD j []).contains j=false:=by
  simp only[List.all_eq_true,List.mem_range]at hself
  simpa using hself j hjl
 have h2:=h1 L xs w hG hl ha hb hD hI;intro Qo K hK hQo;refine h2 Qo K (fun v w' ⟨p1,p2,p3⟩=>hK v w' ⟨?_,p2,fun i hi hne hc hV => ?_⟩) hQo
 ·rw[mask_upd hs,show upd xs j v j=v by simp[upd]];exact p1
 ·rw[mask_upd hc,show upd xs j v i=xs i by simp[upd,hne]];exact p3 i hi hne hc _ _ hV
theorem wp_region_invL {P:Program} {id:Nat} {ol:List Oper} {Q:Exit→Act→World→Prop} {l:List Value} {df:List Deferred} {w0:World}
 (hm:P.follows .mixedOrders=true) (ds:List (Nat×Nat)) (anc:List (List Nat)) (W:Nat→Value→(Nat→Value)→World→Prop) (G:(Nat→Bool)→World→Prop)
 (hds:dsOk ol ds l.length=true) (hanc:ancOk ol anc=true) (hself:(List.range ol.length).all (fun i => !(anc.getD i []).contains i)=true) (h0:G (fun _=>false) w0.drew)
 (hop:ObsL P ol.length ol.toArray l df ds anc W G 0 ol)
 (hend:∀ xs w',(∀ i,i<ol.length→W i (xs i) (mask anc i xs) w')→(∃ L,(∀ i,i<ol.length→L i=true)∧G L w')→Q .normal ⟨(patchS 0 l ds xs).toArray,df⟩ w') :
 (Code.region id ol.toArray true).wp P Q ⟨l.toArray,df⟩ w0:=by
 refine wp_region_any hm ?_;rw[List.size_toArray];exact any_inv2L ds anc W G hds hanc hself h0 hop hend
/-! ### Within a round -/
/-- Left by its end alone. -/
def OnlyNormal (K:Act→World→Prop):Exit→Act→World→Prop
 | .normal,a,w=>K a w
 | _,_,_=>False
/-- No operation of the list is a deferred call. -/
def noDefer (ol:List Oper):Bool:=ol.all fun o=>match o.op with | .defer _=>false|_=>true
/-- The list of strings has grown, its first k stay. -/
theorem SSk.again {w w':World} {lo hi n k:Nat} {v:Value} {f:Nat→List Int} {cs:List Value} (h:SSk w lo hi v n k f cs) (g:w.grownBy w' v.ownBlock) (own:w'.ownsRow lo 30 1 v n cs):SSk w' lo hi v n k f cs:=by
 obtain⟨bs,h1,h2,h3,h4,h5⟩:=h;refine⟨bs,own,h2,h3,h4,fun i hi2 => ?_⟩;obtain⟨a',c',k1,k2,k3⟩:=h5 i hi2;exact⟨a',c',k1,k2.kept g (own_ne2 k2 h1 (by decide)),k3⟩
theorem one_u8j (xs:List Int):∀ u∈xs.map (Value.int .u8),u.oneCell'=true:=by
 intro u hu;simp at hu;obtain⟨z,-,rfl⟩:=hu;rfl
theorem ext_noneJ {w w':World} {row:Option Nat} (g:w.grownBy w' row) (h:row=none):Ext w w':=by
 subst h;exact Ext.grown (Below.refl _ _) g (by simp)
/-- The rows of byte strings that do not hold the list are kept. -/
theorem u8_kept {w w':World} {lo n b m:Nat} {v u:Value} {cs xs:List Value} (o:w.ownsRow lo 30 1 v n cs) (g:w.grownBy w' v.ownBlock) (h:w.ownsRow b 5 1 u m xs):w'.ownsRow b 5 1 u m xs:=h.kept g (own_ne2 h o (by decide))
theorem own_ne_blk' {w:World} {base e size n q:Nat} {v:Value} {xs:List Value} {arr:Array Value} {T:TypeId} (h:w.ownsRow base e size v n xs) (hq:w.heap[q]?=some (.cells arr T (0,0))) (hne:e≠T):v.ownBlock≠some q:=by
 rcases own_ne_blk h hq hne with h|h
 ·rw[h];simp
 ·exact h
theorem own_hi {w w':World} {base e s n:Nat} {v:Value} {xs:List Value} {row:Option Nat} (h:w.ownsRow base e s v n xs) (g:w.grownBy w' row) (hb:∀ q,row=some q→q<base):w'.ownsRow base e s v n xs:=by
 refine h.kept g ?_;cases hv:v.ownBlock with
 | none=>exact .inl rfl
 | some k=>right;intro e;have h1:=owns_ge h k hv;have h2:=hb k e.symm;omega
theorem clone_any (x y q:Int) (ib:Bool) (a:Option Addr) (n c:Nat) (f:Nat→List Int) (w:World) (hn:n≤1048576) (hL:∀ i,i<n→(f i).length≤1048576) (r:SS w a n (lst n f)) :
 Calls Tryd.prog 23 #[.agg #[.int .i64 x,.int .i64 y,.bool ib,.int .i64 q,.slice a n c]] w fun e w'=>∃ a' c' ss,e= .returned (.agg #[.int .i64 x,.int .i64 y,.bool ib,.int .i64 q,.slice a' n c'])∧SSg w' w.heap.size w'.heap.size (.slice a' n c') n f ss∧Ext w w':=by
 have HL:=Lib.hid hL;clear hL;have p0:=blk_alloc (blk_new w (.cells #[.int .i64 x,.int .i64 y,.bool ib,.int .i64 q,.slice a n c] 38)) (.cells #[.int .i64 0,.int .i64 0,.bool false,.int .i64 0,.slice none 0 0] 38);have r0:=blk_new (w.alloc (.cells #[.int .i64 x,.int .i64 y,.bool ib,.int .i64 q,.slice a n c] 38)) (.cells #[.int .i64 0,.int .i64 0,.bool false,.int .i64 0,.slice none 0 0] 38);have E0:=(Ext.alloc w (.cells #[.int .i64 x,.int .i64 y,.bool ib,.int .i64 q,.slice a n c] 38)).trans (Ext.alloc _ (.cells #[.int .i64 0,.int .i64 0,.bool false,.int .i64 0,.slice none 0 0] 38));have hs:((w.alloc (.cells #[.int .i64 x,.int .i64 y,.bool ib,.int .i64 q,.slice a n c] 38)).alloc (.cells #[.int .i64 0,.int .i64 0,.bool false,.int .i64 0,.slice none 0 0] 38)).heap.size=w.heap.size+1+1:=by simp
 simp only[World.size_alloc]at r0;go_enter Tryd.func23,Tryd.ntmps23
 go_upto_region 1 with fail
 try simp only[World.size_alloc]
 generalize (w.alloc (.cells #[.int .i64 x,.int .i64 y,.bool ib,.int .i64 q,.slice a n c] 38)).alloc (.cells #[.int .i64 0,.int .i64 0,.bool false,.int .i64 0,.slice none 0 0] 38)=w0 at *;obtain⟨B,hB⟩:∃ B,B=w.heap.size:=⟨_,rfl⟩;rw[←hB]at p0 r0 hs⊢;have HB:=Lib.hid hB;have hsz:B+2≤w0.heap.size:=by omega
 have hwB:w.heap.size≤B:=by omega
 have p2:(w0.setCell ⟨B,4,none⟩ (.slice none 0 0)).heap[B]?=some (.cells #[.int .i64 x,.int .i64 y,.bool ib,.int .i64 q,.slice none 0 0] 38 (0,0)):=by
  have h:=heap_setCell_same w0 B 4 _ _ (.slice none 0 0) p0
  simpa using h
 have r2:(w0.setCell ⟨B,4,none⟩ (.slice none 0 0)).heap[B+1]?=_:=blk_set_other r0 (by omega);have E2:Ext w (w0.setCell ⟨B,4,none⟩ (.slice none 0 0)):=Ext.grown E0 (gs1 _ _ _ _) (fun k e=>by cases e;omega);have hsz2:B+2≤(w0.setCell ⟨B,4,none⟩ (.slice none 0 0)).heap.size:=by simp;omega
 have Hst:=Lib.hid (⟨p2,r2,E2,hsz2⟩:_∧_∧_∧_);clear hB r2 E2 hsz2 p2 E0;obtain⟨m0,m1,m2,m3,m4,m5⟩:=bx5 p0;obtain⟨f0,f1,f2,f3,f4⟩:=fz5 p0;go_wp2_with fail
 go_loopw [11] (fun ix wr=>∃(k:Nat) (vl:Value) (cs:List Value),k≤n∧ix= .int .i64 k∧Ext w wr∧B+2≤wr.heap.size∧wr.heap[B]?=some (.cells #[.int .i64 x,.int .i64 y,.bool ib,.int .i64 q,vl] 38 (0,0))∧wr.heap[B+1]?=some (.cells #[.int .i64 0,.int .i64 0,.bool false,.int .i64 0,.slice none 0 0] 38 (0,0))∧SSk wr (B+2) wr.heap.size vl k k f cs) (fun ix _=>n-(intOf ix).toNat)
 case atStart =>
  obtain⟨u1,u2,u3,u4⟩:=Hst.out;exact⟨0,_,[],by omega,rfl,u3,u4,u1,u2,SSk.nil _ _ _ _ u4⟩
 case round =>
  clear m0 m1 m2 m3 m4 m5 f0 f1 f2 f3 f4 p0 r0 hs hsz Hst;obtain⟨k,vl,cs,hk,rfl,E2,hsz,p2,r2,S2⟩:=hrel
  by_cases hlt:k<n
  ·obtain⟨b1,o1,rfl,a2,c2,h1',h2,h3,h4⟩:=r.at hlt;have h1:=cell_ext E2 h1';clear h1';have hfl:=HL.out k hlt;obtain⟨m,hm⟩:∃ m,m=(f k).length:=⟨_,rfl⟩;obtain⟨zs,hxs⟩:∃ zs,zs=f k:=⟨_,rfl⟩;rw[←hm]at h1 h2 h3 hfl;rw[←hxs]at h2;have Hm:=Lib.hid hm;have Hxs:=Lib.hid hxs;clear hm hxs;obtain⟨al,cl,rfl⟩:=owns_form S2.own;obtain⟨HI,hHI⟩:∃ HI,HI=wr.heap.size:=⟨_,rfl⟩;rw[←hHI]at hsz S2;have hHI2:HI≤wr.heap.size:=by omega
   have hvl:∀ q,(Value.slice al k cl).ownBlock=some q→q<HI:=fun q hq=>by rw[hHI];exact(S2.own.lt q hq).2
   clear hHI;have Hsl:=Lib.hid (fun(wz:World) (e:Ext w wz)=>h2.ext e);go_wp2_with fail
   have hext:Stab (fun wa wb=>Ext wa wb) (fun i own ys wx=>match i with|0=>own= .pointer (some ⟨B,4,none⟩)|1=>own= .slice al k cl|2=>own= .slice a2 m c2|3=>∃(a1:Option Addr) (c1:Nat),own= .slice a1 m c1∧wx.ownsRow HI 5 1 (.slice a1 m c1) m (zs.map (Value.int .u8))|4=>∃(p:Nat) (a1:Option Addr) (c1:Nat),own= .slice (some ⟨p,0,none⟩) 1 1∧wx.ownsRow HI 30 1 (.slice (some ⟨p,0,none⟩) 1 1) 1 [.slice a1 m c1]∧wx.ownsRow HI 5 1 (.slice a1 m c1) m (zs.map (Value.int .u8))|5=>∃(an:Option Addr) (cc:Nat) (cn:List Value),own= .slice an (k+1) cc∧SSk wx (B+2) wx.heap.size (.slice an (k+1) cc) (k+1) (k+1) f cn|6=>own= .pointer (some ⟨B,4,none⟩)|7=>∃(an:Option Addr) (cc:Nat) (cn:List Value),wx.heap[B]?=some (.cells #[.int .i64 x,.int .i64 y,.bool ib,.int .i64 q,.slice an (k+1) cc] 38 (0,0))∧SSk wx (B+2) wx.heap.size (.slice an (k+1) cc) (k+1) (k+1) f cn|_=>True):=by
    intro i own ys wa wb e h
    match i,h with
    | 0,h|1,h|2,h|6,h=>exact h
    | 3,h=>obtain⟨a9,c9,h1,h2⟩:=h;exact⟨a9,c9,h1,owns_ext h2 e⟩
    | 4,h=>obtain⟨p9,a9,c9,h1,h2,h3⟩:=h;exact⟨p9,a9,c9,h1,owns_ext h2 e,owns_ext h3 e⟩
    | 5,h=>obtain⟨a9,d9,c9,h1,h2⟩:=h;exact⟨a9,d9,c9,h1,(h2.ext e).up e.size⟩
    | 7,h=>obtain⟨a9,d9,c9,h1,h2⟩:=h;exact⟨a9,d9,c9,e.blk h1,(h2.ext e).up e.size⟩
    | _+8,_=>trivial
   have Hext:=Lib.hid hext;clear hext;refine wp_region_invL (by kernel_rfl) [(15,0),(16,1),(17,2),(18,3),(19,4),(20,5),(21,6)] [[],[0],[],[2],[2,3],[0,1,2,3,4],[0,1,2,3,4,5],[0,1,2,3,4,5,6]] (fun i own ys wx=>match i with|0=>own= .pointer (some ⟨B,4,none⟩)|1=>own= .slice al k cl|2=>own= .slice a2 m c2|3=>∃(a1:Option Addr) (c1:Nat),own= .slice a1 m c1∧wx.ownsRow HI 5 1 (.slice a1 m c1) m (zs.map (Value.int .u8))|4=>∃(p:Nat) (a1:Option Addr) (c1:Nat),own= .slice (some ⟨p,0,none⟩) 1 1∧wx.ownsRow HI 30 1 (.slice (some ⟨p,0,none⟩) 1 1) 1 [.slice a1 m c1]∧wx.ownsRow HI 5 1 (.slice a1 m c1) m (zs.map (Value.int .u8))|5=>∃(an:Option Addr) (cc:Nat) (cn:List Value),own= .slice an (k+1) cc∧SSk wx (B+2) wx.heap.size (.slice an (k+1) cc) (k+1) (k+1) f cn|6=>own= .pointer (some ⟨B,4,none⟩)|7=>∃(an:Option Addr) (cc:Nat) (cn:List Value),wx.heap[B]?=some (.cells #[.int .i64 x,.int .i64 y,.bool ib,.int .i64 q,.slice an (k+1) cc] 38 (0,0))∧SSk wx (B+2) wx.heap.size (.slice an (k+1) cc) (k+1) (k+1) f cn|_=>True) (fun Lx wx=>(Ext w wx∧Ext wr wr∧HI≤wx.heap.size)∧(∃ z,wx.heap[B]?=some (.cells #[.int .i64 x,.int .i64 y,.bool ib,.int .i64 q,z] 38 (0,0))∧(Lx 7=false→z= .slice al k cl))∧wx.heap[B+1]?=some (.cells #[.int .i64 0,.int .i64 0,.bool false,.int .i64 0,.slice none 0 0] 38 (0,0))∧SSk wx (B+2) HI (.slice al k cl) k k f cs∧Sl wx a2 m (zs.map (Value.int .u8))) (by kernel_rfl) (by kernel_rfl) (by kernel_rfl) ?g0_r1 ?gop_r1 ?gend_r1
   case g0_r1=>exact⟨⟨Ext.trans_drewN E2 1,Below.refl _ _,hHI2⟩,⟨_,p2,fun _=>rfl⟩,r2,S2,h2.ext (Ext.trans_drewN E2 1)⟩
   case gop_r1 =>
    refine⟨?_,?o1,?_,?o3,?o4,?o5,?_,?o7,trivial⟩ <;> (intro Lx xs wx hG hl ha hb hD hI Qo Kx hK hQo;simp only[patchS,Nat.reduceAdd,Nat.reduceEqDiff,↓reduceIte]at hQo⊢)
    case o1 =>
     have l7:Lx 7=false:=hb 7 rfl;clear hl ha hb;rw[ddq (hD 0 rfl)]at hQo⊢;clear hD hI;obtain⟨z,g1,g2⟩:=hG.2.1;obtain rfl:=g2 l7;obtain⟨-,k0,k1,k2,k3,k4⟩:=bx5 g1;go_wp2;exact hK.out _ _ ⟨rfl,hG,kkp⟩
    case o3 =>
     clear hl ha hb;rw[ddq (hD 2 rfl)]at hQo⊢;clear hD hI;refine wpList_apps _ (World.ownsRow_nil _ HI _ _) hG.1.2.2 rfl _ _ 30 rfl (.int .u8 0) 1 Tryd.underlying30 info_uint8 rfl rfl a2 m c2 _ rfl hG.2.2.2.2 (one_u8j zs) (by omega) (by omega) ?_;intro v14 w14 own14 gr14;rw[Nat.zero_add,List.nil_append]at own14;obtain⟨a14,c14,rfl⟩:=owns_form own14;have e8:=ext_noneJ gr14 rfl;obtain⟨⟨g1,g0,g2⟩,⟨z,g3,g4⟩,g5,g6,g7⟩:=hG;exact hQo _ _ (hK.out _ _ ⟨⟨_,_,rfl,own14⟩,⟨⟨g1.trans e8,g0,Nat.le_trans g2 e8.size⟩,⟨z,e8.blk g3,g4⟩,e8.blk g5,g6.ext e8,g7.ext e8⟩,fun i _ _ _ own ys h=>Hext.out i own ys _ _ e8 h⟩)
    case o4 =>
     clear hl ha hb;have d3:∃(a1:Option Addr) (c1:Nat),(xs 3) = .slice a1 m c1∧wx.ownsRow HI 5 1 (.slice a1 m c1) m (zs.map (Value.int .u8)):=hD 3 rfl;clear hD hI;generalize xs 3=y3 at *;obtain⟨a1,c1,rfl,o1⟩:=d3;have e8:=Ext.alloc wx (.cells #[.slice a1 m c1] 30);have o9:=World.ownsRow_lit (base:=HI) (e:=30) (size:=1) wx #[.slice a1 m c1] 1 hG.1.2.2 (by unfold maxLen;omega) rfl;go_wp2;obtain⟨⟨g1,g0,g2⟩,⟨z,g3,g4⟩,g5,g6,g7⟩:=hG;exact hK.out _ _ ⟨⟨_,_,_,rfl,o9,owns_ext o1 e8⟩,⟨⟨g1.trans e8,g0,Nat.le_trans g2 e8.size⟩,⟨z,e8.blk g3,g4⟩,e8.blk g5,g6.ext e8,g7.ext e8⟩,fun i _ _ _ own ys h=>Hext.out i own ys _ _ e8 h⟩
    case o5 =>
     have l7:Lx 7=false:=hb 7 rfl;clear hl ha hb;rw[ddq (hD 1 rfl)]at hQo⊢;have d4:∃(p:Nat) (a1:Option Addr) (c1:Nat),(xs 4) = .slice (some ⟨p,0,none⟩) 1 1∧wx.ownsRow HI 30 1 (.slice (some ⟨p,0,none⟩) 1 1) 1 [.slice a1 m c1]∧wx.ownsRow HI 5 1 (.slice a1 m c1) m (zs.map (Value.int .u8)):=hD 4 rfl;clear hD hI;generalize xs 4=y4 at *;obtain⟨p4,a4,c4,rfl,q4,o4⟩:=d4;have o9:=hG.2.2.2.1.own;refine wpList_appk _ rfl o9 (Nat.le_trans hsz hG.1.2.2) _ _ _ rfl (.slice none 0 0) 24 Tryd.underlying36 info_ByteS rfl (by decide) rfl ⟨p4,0,none⟩ 1 1 _ rfl rfl (q4.cells rfl) (by intro u hu;simp at hu;subst hu;rfl) (by omega) (by omega) ?_;intro v14 w14 own14 gr14 keep14;obtain⟨a14,c14,rfl⟩:=owns_form own14;have hst:∀(wy:World),(∀ b' own n' xs',wx.ownsRow b' 5 1 own n' xs'→wy.ownsRow b' 5 1 own n' xs')∧(∀ e' own n' xs',wx.ownsRow HI e' 1 own n' xs'→wy.ownsRow HI e' 1 own n' xs')→Stbn 8 5 [[],[0],[],[2],[2,3],[0,1,2,3,4],[0,1,2,3,4,5],[0,1,2,3,4,5,6]] (fun i own ys wx=>match i with|0=>own= .pointer (some ⟨B,4,none⟩)|1=>own= .slice al k cl|2=>own= .slice a2 m c2|3=>∃(a1:Option Addr) (c1:Nat),own= .slice a1 m c1∧wx.ownsRow HI 5 1 (.slice a1 m c1) m (zs.map (Value.int .u8))|4=>∃(p:Nat) (a1:Option Addr) (c1:Nat),own= .slice (some ⟨p,0,none⟩) 1 1∧wx.ownsRow HI 30 1 (.slice (some ⟨p,0,none⟩) 1 1) 1 [.slice a1 m c1]∧wx.ownsRow HI 5 1 (.slice a1 m c1) m (zs.map (Value.int .u8))|5=>∃(an:Option Addr) (cc:Nat) (cn:List Value),own= .slice an (k+1) cc∧SSk wx (B+2) wx.heap.size (.slice an (k+1) cc) (k+1) (k+1) f cn|6=>own= .pointer (some ⟨B,4,none⟩)|7=>∃(an:Option Addr) (cc:Nat) (cn:List Value),wx.heap[B]?=some (.cells #[.int .i64 x,.int .i64 y,.bool ib,.int .i64 q,.slice an (k+1) cc] 38 (0,0))∧SSk wx (B+2) wx.heap.size (.slice an (k+1) cc) (k+1) (k+1) f cn|_=>True) wx wy:=by
      intro wy hy ii hii hne hc own ys h
      match ii,h with
      | 0,h|1,h|2,h=>exact h
      | 3,h=>obtain⟨a9,c9,h1,h2⟩:=h;exact⟨a9,c9,h1,hy.1 _ _ _ _ h2⟩
      | 4,h=>obtain⟨p9,a9,c9,h1,h2,h3⟩:=h;exact⟨p9,a9,c9,h1,hy.2 _ _ _ _ h2,hy.2 _ _ _ _ h3⟩
      | 5,h=>exact absurd rfl hne
      | 6,h|7,h=>exact absurd hc (by decide)
      | _+8,_=>trivial
     obtain⟨⟨g1,g0,g2⟩,⟨z,g3,g4⟩,g5,g6,g7⟩:=hG;have hz:=g4 l7;subst hz;have hb1:=blk_gr g3 gr14 (own_ne_blk' o9 g3 (by decide));have hb2:=blk_gr g5 gr14 (own_ne_blk' o9 g5 (by decide));have hk6:=SSk.again g6 gr14 (keep14 _ _ _ _ (Nat.le_refl _) o9);have hE:Ext w w14:=Ext.grown g1 gr14 (fun q hq=>by have:=owns_ge o9 q hq;omega);have hsl:Sl w14 a2 m (zs.map (Value.int .u8)):=Hsl.out w14 hE;have hlt4:∀ y,a4=some y→y.block<w14.heap.size:=fun y hy=>Nat.lt_of_lt_of_le (o4.lt y.block (by rw[hy];rfl)).2 gr14.size
     have happ:SSk w14 (B+2) w14.heap.size (.slice a14 (k+1) c14) (k+1) (k+1) f _:=SSk.app (hi':=w14.heap.size) (a1:=a4) (c1:=c4) g6 (by rw[←Hm.out,←Hxs.out];exact o4) (Nat.le_trans g2 gr14.size) hlt4 (by rw[←Hm.out];exact own14) gr14;exact hQo _ _ (hK.out _ _ ⟨⟨_,_,_,rfl,happ⟩,⟨⟨hE,g0,Nat.le_trans g2 gr14.size⟩,⟨_,hb1,fun _=>rfl⟩,hb2,hk6,hsl⟩,hst _ ⟨fun _ _ _ _ h=>u8_kept o9 gr14 h,fun _ _ _ _ h=>own_hi h gr14 hvl⟩⟩)
    case o7 =>
     clear hl ha hb;rw[ddq (hD 6 rfl)]at hQo⊢;have d5:∃(an:Option Addr) (cc:Nat) (cn:List Value),(xs 5) = .slice an (k+1) cc∧SSk wx (B+2) wx.heap.size (.slice an (k+1) cc) (k+1) (k+1) f cn:=hD 5 rfl;clear hD hI;generalize xs 5=y5 at *;obtain⟨a5,d5,c5,rfl,s5⟩:=d5;obtain⟨⟨g1,g0,g2⟩,⟨z,g3,g4⟩,g5,g6,g7⟩:=hG;obtain⟨-,k0,k1,k2,k3,k4⟩:=bx5 g3;obtain⟨f0,f1,f2,f3,f4⟩:=fz5 g3;go_wp2;have hst:∀(wy:World),wx.grownBy wy (some B)→Stbn 8 7 [[],[0],[],[2],[2,3],[0,1,2,3,4],[0,1,2,3,4,5],[0,1,2,3,4,5,6]] (fun i own ys wx=>match i with|0=>own= .pointer (some ⟨B,4,none⟩)|1=>own= .slice al k cl|2=>own= .slice a2 m c2|3=>∃(a1:Option Addr) (c1:Nat),own= .slice a1 m c1∧wx.ownsRow HI 5 1 (.slice a1 m c1) m (zs.map (Value.int .u8))|4=>∃(p:Nat) (a1:Option Addr) (c1:Nat),own= .slice (some ⟨p,0,none⟩) 1 1∧wx.ownsRow HI 30 1 (.slice (some ⟨p,0,none⟩) 1 1) 1 [.slice a1 m c1]∧wx.ownsRow HI 5 1 (.slice a1 m c1) m (zs.map (Value.int .u8))|5=>∃(an:Option Addr) (cc:Nat) (cn:List Value),own= .slice an (k+1) cc∧SSk wx (B+2) wx.heap.size (.slice an (k+1) cc) (k+1) (k+1) f cn|6=>own= .pointer (some ⟨B,4,none⟩)|7=>∃(an:Option Addr) (cc:Nat) (cn:List Value),wx.heap[B]?=some (.cells #[.int .i64 x,.int .i64 y,.bool ib,.int .i64 q,.slice an (k+1) cc] 38 (0,0))∧SSk wx (B+2) wx.heap.size (.slice an (k+1) cc) (k+1) (k+1) f cn|_=>True) wx wy:=by
      intro wy hy ii hii hne hc own ys h
      match ii,h with
      | 0,h|1,h|2,h|6,h=>exact h
      | 3,h=>obtain⟨a9,c9,h1,h2⟩:=h;exact⟨a9,c9,h1,own_gr h2 hy (by omega)⟩
      | 4,h=>obtain⟨p9,a9,c9,h1,h2,h3⟩:=h;exact⟨p9,a9,c9,h1,own_gr h2 hy (by omega),own_gr h3 hy (by omega)⟩
      | 5,h=>obtain⟨a9,d9,c9,h1,h2⟩:=h;exact⟨a9,d9,c9,h1,(SSk.gr h2 hy (by omega)).up hy.size⟩
      | 7,h=>exact absurd rfl hne
      | _+8,_=>trivial
     have hb:=heap_setCell_same wx B 4 _ _ (.slice a5 (k+1) d5) g3;have gB:=gs1 wx B 4 (.slice a5 (k+1) d5);have hE:Ext w (wx.setCell ⟨B,4,none⟩ (.slice a5 (k+1) d5)):=Ext.grown g1 gB (fun q hq=>by cases hq;omega);exact hQo undef _ (hK.out _ _ ⟨⟨a5,d5,c5,by simpa using hb,(SSk.gr s5 gB (by omega)).up gB.size⟩,⟨⟨hE,g0,Nat.le_trans g2 gB.size⟩,⟨_,by simpa using hb,fun h=>by cases h⟩,blk_gr g5 gB (by simp),SSk.gr g6 gB (by omega),Hsl.out _ hE⟩,hst _ gB⟩)
    all_goals
     clear hl ha hb hD hI;go_wp2;exact hK.out _ _ ⟨rfl,hG,kkp⟩
   clear Hext;intro xs wx hV hG0;obtain⟨Lx,hL,hG⟩:=hG0;have l7:Lx 7=true:=hL 7 (by decide);clear hL;have d7:∃(an:Option Addr) (cc:Nat) (cn:List Value),wx.heap[B]?=some (.cells #[.int .i64 x,.int .i64 y,.bool ib,.int .i64 q,.slice an (k+1) cc] 38 (0,0))∧SSk wx (B+2) wx.heap.size (.slice an (k+1) cc) (k+1) (k+1) f cn:=hV 7 (by decide);clear hV;simp only[patchS,Nat.reduceAdd,Nat.reduceEqDiff,↓reduceIte];generalize xs 0=y0,xs 1=y1,xs 2=y2,xs 3=y3,xs 4=y4,xs 5=y5,xs 6=y6,xs 7=y7 at *
   replace hG:(Ext w wx∧Ext wr wr∧HI≤wx.heap.size)∧(∃ z,wx.heap[B]?=some (.cells #[.int .i64 x,.int .i64 y,.bool ib,.int .i64 q,z] 38 (0,0))∧(Lx 7=false→z= .slice al k cl))∧wx.heap[B+1]?=some (.cells #[.int .i64 0,.int .i64 0,.bool false,.int .i64 0,.slice none 0 0] 38 (0,0))∧SSk wx (B+2) HI (.slice al k cl) k k f cs∧Sl wx a2 m (zs.map (Value.int .u8)):=hG
   obtain⟨a7,d7,c7,p7,s7⟩:=d7;have HS7:=Lib.hid s7;have HG:=Lib.hid hG;have HP:=Lib.hid p7;clear hG s7 S2 E2 p2 r2 h1 h2 h3 h4;go_wp2;go_roundw
   case rel=>exact⟨k+1,_,c7,by omega,by go_num,HG.out.1.1,Nat.le_trans hsz HG.out.1.2.2,HP.out,HG.out.2.2.1,HS7.out⟩
   case measure=>simp[intOf];omega
  ·obtain rfl:k=n:=by omega
   obtain⟨al,cl,rfl⟩:=owns_form S2.own;obtain⟨-,k0,k1,k2,k3,k4⟩:=bx5 p2;obtain⟨-,j0,j1,j2,j3,j4⟩:=bx5 r2;obtain⟨f0,f1,f2,f3,f4⟩:=fz5 r2;have R2:=Lib.hid r2;have HS:=Lib.hid S2;clear S2 r2;go_wp2;refine bodyPost_ret (v := .agg #[.int .i64 x,.int .i64 y,.bool ib,.int .i64 q,.slice al k cl]) (results_cell_row rfl _ _ (B+1) 38 #[.int .i64 x,.int .i64 y,.bool ib,.int .i64 q,.slice al k cl] (0,0) _ rfl (blk_set5 R2.out) Tryd.underlying38 rfl size_Coded) rfl ⟨_,_,cs,rfl,?_,?_⟩
   ·have hg:=gs5 wr (B+1) 0 1 2 3 4 (.int .i64 x) (.int .i64 y) (.bool ib) (.int .i64 q) (.slice al k cl);exact((SSk.gr HS.out hg (by omega)).mono (by omega)).up hg.size
   ·exact Ext.grown E2 (gs5 wr (B+1) 0 1 2 3 4 (.int .i64 x) (.int .i64 y) (.bool ib) (.int .i64 q) (.slice al k cl)) (fun p hp=>by cases hp;omega)
/-- append(s, x), x one coded picture in the block just laid. -/
theorem wpList_app5 {P:Program} (wr:World) {ops:Array Oper} {rest:List Oper} {o:Oper} {a:Act} {Q:Exit→Act→World→Prop} {base e:Nat} {v:Value} {n:Nat} {xs:List Value}
 (hown:wr.ownsRow base e 5 v n xs) (hbase:base≤wr.heap.size) (u0 u1 u2 u3 u4:Value)
 (hg:o.guard=none) (s x:Operand) (t:TypeId) (ho:o.op= .call { callee := .builtin .append,args := #[s,x],argTypes := #[t,t] })
 (z:Value) (bytes:Nat) (h1:P.underlying t=some (.slice e)) (h2:(P.info? e).map (fun i=>(i.zero,i.size,i.bytes))=some (some z,5,bytes)) (hz1:z.cells.size=5)
 (hs:a.eval s=v) (hx:a.eval x= .slice (some ⟨wr.heap.size,0,none⟩) 1 1) (hu1:∀ u ∈ [u0,u1,u2,u3,u4],u.oneCell'=true)
 (hb:(n+1)*bytes≤140737488355328) (hn:n<2^62)
 (h:∀ v' w',w'.ownsRow base e 5 v' (n+1) (xs ++ [u0,u1,u2,u3,u4])→wr.grownBy w' v.ownBlock→wpList P ops Q rest (a.put o.dst v') w'):wpList P ops Q (o::rest) a (wr.alloc (.cells #[u0,u1,u2,u3,u4] e)):=by
 obtain⟨i0,hi,hz0,hz1',hz2⟩:=info_parts h2;refine wpList_append_own _ hg s x t ho base e i0 z 5 bytes h1 hi hz0 hz1' hz2 hz1 (by decide) v n xs hs (hown.alloc _) ⟨wr.heap.size,0,none⟩ 1 1 [u0,u1,u2,u3,u4] hx rfl ?_ hu1 (by unfold maxLen;omega) hb (by simp;omega) ?_
 ·intro j q hq
  match j,hq with
  | 0,hq=>simp at hq;subst hq;simp[Addr.add,World.cell?_alloc_at]
  | 1,hq=>simp at hq;subst hq;simp[Addr.add,World.cell?_alloc_at]
  | 2,hq=>simp at hq;subst hq;simp[Addr.add,World.cell?_alloc_at]
  | 3,hq=>simp at hq;subst hq;simp[Addr.add,World.cell?_alloc_at]
  | 4,hq=>simp at hq;subst hq;simp[Addr.add,World.cell?_alloc_at]
  | n+5,hq=>simp at hq
 ·intro v' w' a1 a2 _;exact h v' w' a1 (grownBy_trans (World.grownBy_alloc _ _ _) a2)
/-- A coded picture is appended. -/
theorem CE.app {w w':World} {lo hi hi' n:Nat} {v v':Value} {r:Nat→Cd} {cs ss:List Value} {a1:Option Addr} {c1:Nat} (h:CE w lo hi v n n r cs)
 (h3:SSg w hi hi' (.slice a1 (r n).n c1) (r n).n (r n).f ss) (hh:hi≤hi')
 (own:w'.ownsRow lo 38 5 v' (n+1) (cs ++ [.int .i64 (r n).w,.int .i64 (r n).h,.bool (r n).i,.int .i64 (r n).q,.slice a1 (r n).n c1])) (g:w.grownBy w' v.ownBlock) :
 CE w' lo hi' v' (n+1) (n+1) r (cs ++ [.int .i64 (r n).w,.int .i64 (r n).h,.bool (r n).i,.int .i64 (r n).q,.slice a1 (r n).n c1]):=by
 have hcl:cs.length=n*5:=by obtain⟨us,h1,-⟩:=h;exact h1.1
 refine h.snoc h3 hh own g (fun o ho=>by rw[List.getElem?_append_left (by omega)]) ⟨?_,?_,?_,?_,?_⟩ <;> (rw[←hcl,List.getElem?_append_right (by omega)];simp)
theorem CE.own {w:World} {lo hi n k:Nat} {v:Value} {r:Nat→Cd} {cs:List Value} (h:CE w lo hi v n k r cs):w.ownsRow lo 38 5 v n cs:=by
 obtain⟨us,h1,-⟩:=h;exact h1
theorem sumN_shift (g:Nat→Nat) (F:Nat):∀ m,sumN (fun i=>g (F+i)) m+sumN g F=sumN g (F+m)
 | 0=>by simp[sumN]
 | m+1=>by have:=sumN_shift g F m;rw[←Nat.add_assoc];simp only[sumN];omega
theorem okC.shift {r:Nat→Cd} {n:Nat} (h:okC r n) {F m:Nat} (hm:F+m≤n):okC (fun i=>r (F+i)) m:=by
 have h1:=sumN_shift (fun i=>szC (r i)) F m;have h2:sumN (fun i=>szC (r i)) (F+m)≤sumN (fun i=>szC (r i)) n:=sumN_mono hm;have h3:=h.2;have h4:=h.1;unfold smN at h3;refine⟨by omega,?_⟩;unfold smN;simp only at h1 h2 h3⊢;omega
/-- The joined list. -/
def joinR (n1:Nat) (r1 r2:Nat→Cd) (i:Nat):Cd:=if i<n1 then r1 i else r2 (i-n1)
theorem CP.shift {w:World} {b off n:Nat} {r:Nat→Cd} (h:CP w (some ⟨b,off,none⟩) n r) {F m:Nat} (hm:F+m≤n):CP w (some ⟨b,off+F*5,none⟩) m (fun i=>r (F+i)):=fun i hi=>by
 obtain⟨b',o',ha,hc⟩:=h (F+i) (by omega);simp only[Option.some.injEq,Addr.mk.injEq,and_true]at ha;obtain⟨rfl,rfl⟩:=ha;exact⟨_,_,rfl,by rw[Nat.add_assoc,←Nat.add_mul];exact hc⟩
theorem CE.one {w:World} {lo hi n:Nat} {v:Value} {r:Nat→Cd} {cs:List Value} (h:CE w lo hi v n n r cs):∀ u∈cs,u.oneCell'=true:=by
 obtain⟨us,h1,-,-,-,h5⟩:=h;have hcl:cs.length=n*5:=h1.1;intro u hu;obtain⟨j,hj,rfl⟩:=List.getElem_of_mem hu;obtain⟨a,c,ss,⟨k0,k1,k2,k3,k4⟩,-⟩:=h5 (j/5) (by omega);have hd:j=j/5*5+j%5:=by omega
 have hm:j%5<5:=Nat.mod_lt _ (by decide);have he:cs[j]?=some cs[j]:=List.getElem?_eq_getElem hj;generalize cs[j]=u at *;generalize j/5=d at *;generalize j%5=m at *;subst hd
 match m,hm with
 | 0,_=>rw[Nat.add_zero]at he;rw[k0]at he;simp only[Option.some.injEq]at he;rw[←he];rfl
 | 1,_=>rw[k1]at he;simp only[Option.some.injEq]at he;rw[←he];rfl
 | 2,_=>rw[k2]at he;simp only[Option.some.injEq]at he;rw[←he];rfl
 | 3,_=>rw[k3]at he;simp only[Option.some.injEq]at he;rw[←he];rfl
 | 4,_=>rw[k4]at he;simp only[Option.some.injEq]at he;rw[←he];rfl
theorem CE.none (w:World) (r:Nat→Cd) (lo hi:Nat) (h:lo≤hi):CE w lo hi (.slice none 0 0) 0 0 r []:=CE.zero r (World.ownsRow_nil _ _ _ _) h
end Go.Proofs.YtmokncpppmchfaaDoor
