/- Drawing: lists of packets; a list that was appended to behind its first element. | Drawing: a list of packets, some lost, some twice. | Drawing: the arguments of the two laws on lost packets. | Lists of numbers that are the same. -/
import Derived.Test.YtphfacfjhjcllaaQb8
import Derived.ArgAppend
set_option linter.unusedVariables false
set_option linter.unusedSimpArgs false
set_option maxRecDepth 100000
set_option maxHeartbeats 16000000
namespace Go.Proofs.Ytphfacfjhjcllaa
open Go.RowKit
/-- The slice at a of n packets, in a block of packets not below H, reads as x. -/
def LR (w:World) (H:Nat) (a:Option Addr) (n:Nat) (x:Nat→Pkt):Prop :=
 ∀ i,i<n→∃(b off:Nat) (a2:Option Addr) (c2:Nat),a=some ⟨b,off,none⟩∧H≤b∧(∃ arr,w.heap[b]?=some (.cells arr 32 (0,0)))∧(w.cell? ⟨b,off+i*6,none⟩=some (.int .i64 (x i).num)∧w.cell? ⟨b,off+i*6+1,none⟩=some (.int .i64 (x i).fr)∧w.cell? ⟨b,off+i*6+2,none⟩=some (.int .i64 (x i).row)∧w.cell? ⟨b,off+i*6+3,none⟩=some (.int .i64 (x i).part)∧w.cell? ⟨b,off+i*6+4,none⟩=some (.bool (x i).last)∧w.cell? ⟨b,off+i*6+5,none⟩=some (.slice a2 (x i).data.length c2))∧BA w a2 c2 (x i).data∧pkS (x i)
theorem LR.gr {w w':World} {H n q T:Nat} {a:Option Addr} {x:Nat→Pkt} {ar:Array Value} (h:LR w H a n x) (g:w.grownBy w' (some q)) (hq:w.heap[q]?=some (.cells ar T (0,0))) (t1:5≠T) (t2:32≠T):LR w' H a n x:=fun i hi=>by
 obtain⟨b,off,a2,c2,h1,h2,⟨arr,h3⟩,⟨k0,k1,k2,k3,k4,k5⟩,h5,h6⟩:=h i hi;have hne:(some b:Option Nat)≠some q:=fun e=>by
  obtain rfl:b=q:=by simpa using e
  rw[h3]at hq;simp only[Option.some.injEq,Obj.cells.injEq]at hq;exact t2 hq.2.1
 exact⟨b,off,a2,c2,h1,h2,⟨arr,blk_gr h3 g (fun e=>hne e.symm)⟩,⟨g.cell k0 hne,g.cell k1 hne,g.cell k2 hne,g.cell k3 hne,g.cell k4 hne,g.cell k5 hne⟩,h5.gr g hq t1,h6⟩
theorem LR.rd {w w':World} {H n b P:Nat} {a:Option Addr} {x:Nat→Pkt} (h:LR w H a n x) (r:RdP w b P) (g:w.grownBy w' (some b)):LR w' H a n x:=by
 obtain⟨arr,hb⟩:=r.blk;exact h.gr g hb (by decide) (by decide)
theorem LR.ext {w w':World} {H n:Nat} {a:Option Addr} {x:Nat→Pkt} (h:LR w H a n x) (e:Ext w w'):LR w' H a n x:=fun i hi=>by
 obtain⟨b,off,a2,c2,h1,h2,⟨arr,h3⟩,⟨k0,k1,k2,k3,k4,k5⟩,h5,h6⟩:=h i hi;exact⟨b,off,a2,c2,h1,h2,⟨arr,e.blk h3⟩,⟨cell_ext e k0,cell_ext e k1,cell_ext e k2,cell_ext e k3,cell_ext e k4,cell_ext e k5⟩,h5.ext e,h6⟩
theorem LR.low {w:World} {H H' n:Nat} {a:Option Addr} {x:Nat→Pkt} (h:LR w H a n x) (e:H'≤H):LR w H' a n x:=fun i hi=>by
 obtain⟨b,off,a2,c2,h1,h2,h3⟩:=h i hi;exact⟨b,off,a2,c2,h1,Nat.le_trans e h2,h3⟩
theorem LR.kp {w:World} {H n:Nat} {a:Option Addr} {x:Nat→Pkt} (h:LR w H a n x):KP w a n (pkl n x):=by
 refine⟨pkl_len _ _,fun i hi => ?_⟩;rw[kget_pkl x hi];obtain⟨g,off,a2,c2,rfl,-,-,ks,hb,-⟩:=h i hi;exact⟨g,off,rfl,a2,_,c2,ks,hb.sl,hb.1.1,hb.1.2,fun _ _=>Nat.zero_le _⟩
theorem LR.wf {w:World} {H n:Nat} {a:Option Addr} {x:Nat→Pkt} (h:LR w H a n x):∀ p∈pkl n x,pkS p:=by
 intro p hp;obtain⟨i,hi,rfl⟩:=List.mem_map.1 hp;obtain⟨-,-,-,-,-,-,-,-,-,h6⟩:=h i (by simpa using hi);exact h6
theorem PQ.lr {w:World} {H n c:Nat} {a:Option Addr} {x:Nat→Pkt} {cs:List Value} (h:PQ w H (.slice a n c) n x cs):LR w H a n x:=fun i hi=>by
 obtain⟨g,a2,c2,rfl,⟨k0,k1,k2,k3,k4,k5⟩,hb,hs⟩:=h.cells hi;rcases id h.1.2 with⟨hv,hn⟩|⟨g',cap,cur,hv,p0,p1,-⟩
 ·omega
 ·simp only[Value.slice.injEq,Option.some.injEq,Addr.mk.injEq,and_true]at hv;obtain⟨rfl,-⟩:=hv;refine⟨g,0,a2,c2,rfl,p0,⟨_,p1⟩,⟨?_,?_,?_,?_,?_,?_⟩,hb,hs⟩;all_goals (rw[Nat.zero_add];assumption)
/-- Another row of packets, which lies below, is kept by an append. -/
theorem PQ.keptO {w w':World} {H Ho m k:Nat} {vl vo:Value} {x:Nat→Pkt} {cs us:List Value} (h:PQ w H vl m x cs) (o:w.ownsRow Ho 32 6 vo k us) (g:w.grownBy w' vo.ownBlock) (hl:∀ q,vl.ownBlock=some q→q<Ho):PQ w' H vl m x cs :=
 ⟨h.1.kept g (by
  cases hv:vl.ownBlock with
  | none=>exact .inl rfl
  | some q=>exact .inr (fun e=>by have h1:=hl q hv;have h2:=owns_ge o q e.symm;omega)),fun i hi=>by
  obtain⟨⟨a,c,h1,h2⟩,h3⟩:=h.2 i hi;exact⟨⟨a,c,h1,h2.own o (by decide) g⟩,h3⟩⟩
theorem blk_setCells {g:Nat} {T:TypeId} : ∀(vs:List Value) (p:Nat) (w:World),(∃ arr,w.heap[g]?=some (.cells arr T (0,0)))→∃ arr,(w.setCells g p vs).heap[g]?=some (.cells arr T (0,0))
 | [],_,_,h=>h
 | v::vs,p,w,⟨arr,h⟩=>blk_setCells vs (p+1) (w.setCell ⟨g,p,none⟩ v) ⟨_,heap_setCell_same w g p arr T v h⟩
theorem gr_setCells {g:Nat} : ∀(vs:List Value) (p:Nat) (w:World),w.grownBy (w.setCells g p vs) (some g)
 | [],_,_=>⟨rfl,rfl,rfl,Nat.le_refl _,fun _ _ _=>rfl⟩
 | v::vs,p,w=>grownBy_trans (gr_set w g p v) (gr_setCells vs (p+1) (w.setCell ⟨g,p,none⟩ v))
/-- What l20Lossy answers. -/
def LoR (w:World) (b P:Nat) (e:Ending) (w':World):Prop :=
 ∃(u0 u1 u3:Int) (u2:Bool) (ua:Option Addr) (un uc:Nat) (z0 z1:Int) (za:Option Addr) (zn zc:Nat) (k:Nat) (x:Nat→Pkt) (a:Option Addr) (c:Nat),e= .returned (.tuple #[.agg #[.int .i64 u0,.int .i64 u1,.bool u2,.int .i64 u3,.slice ua un uc],.slice a k c,.agg #[.int .i64 z0,.int .i64 z1,.slice za zn zc]])∧k≤20001∧k≤c∧c≤maxLen∧LR w' w.heap.size a k x∧RdP w' b P∧w.grownBy w' (some b)
def rotP (k:Nat) (x:Nat→Pkt) (i:Nat):Pkt:=if i+1=k then x 0 else x (i+1)
theorem rot_rk {cs:List Value} {x:Nat→Pkt} {k:Nat} (hk:2≤k) (hl:cs.length=k*6) {w:World} (h:∀ i,i<k→(∃ a c,RK cs (i*6) (x i) a c∧BA w a c (x i).data)∧pkS (x i)) :
 ∀ i,i<k→(∃ a c,RK (cs.drop 6++cs.take 6) (i*6) (rotP k x i) a c∧BA w a c (rotP k x i).data)∧pkS (rotP k x i):=by
 intro i hi;have hdl:(cs.drop 6).length=(k-1)*6:=by rw[List.length_drop,hl];omega
 by_cases e:i+1=k
 ·have hr:rotP k x i=x 0:=if_pos e;obtain⟨⟨a,c,⟨k0,k1,k2,k3,k4,k5⟩,hb⟩,hs⟩:=h 0 (by omega);rw[hr];have key:∀(j:Nat),j<6→(cs.drop 6++cs.take 6)[i*6+j]?=cs[j]?:=fun j hj=>by
   rw[List.getElem?_append_right (by omega),show i*6+j-(cs.drop 6).length=j by omega,List.getElem?_take,if_pos hj]
  refine⟨⟨a,c,⟨?_,?_,?_,?_,?_,?_⟩,hb⟩,hs⟩
  ·have:=key 0 (by omega);rw[Nat.add_zero]at this;rw[this];simpa using k0
  ·rw[key 1 (by omega)];simpa using k1
  ·rw[key 2 (by omega)];simpa using k2
  ·rw[key 3 (by omega)];simpa using k3
  ·rw[key 4 (by omega)];simpa using k4
  ·rw[key 5 (by omega)];simpa using k5
 ·have hr:rotP k x i=x (i+1):=if_neg e;obtain⟨⟨a,c,⟨k0,k1,k2,k3,k4,k5⟩,hb⟩,hs⟩:=h (i+1) (by omega);rw[hr];have key:∀(j:Nat),j<6→(cs.drop 6++cs.take 6)[i*6+j]?=cs[(i+1)*6+j]?:=fun j hj=>by
   rw[List.getElem?_append_left (by omega),List.getElem?_drop]
   congr 1
   omega
  refine⟨⟨a,c,⟨?_,?_,?_,?_,?_,?_⟩,hb⟩,hs⟩
  ·have:=key 0 (by omega);rw[Nat.add_zero,Nat.add_zero]at this;rw[this];exact k0
  ·rw[key 1 (by omega)];exact k1
  ·rw[key 2 (by omega)];exact k2
  ·rw[key 3 (by omega)];exact k3
  ·rw[key 4 (by omega)];exact k4
  ·rw[key 5 (by omega)];exact k5
theorem rot_grow {w w':World} {H B k:Nat} {v v':Value} {x:Nat→Pkt} {cs:List Value} (h:PQ w H v k x cs) (hk:2≤k) (e:Ext w w') (o:w'.ownsRow B 32 6 v' (k-1+1) (cs.drop 6++cs.take 6)):PQ w' B v' k (rotP k x) (cs.drop 6++cs.take 6):=by
 rw[show k-1+1=k by omega]at o;exact⟨o,rot_rk hk h.1.1 (fun i hi=>by
  obtain⟨⟨a,c,h1,h2⟩,h3⟩:=h.2 i hi;exact⟨⟨a,c,h1,h2.ext e⟩,h3⟩)⟩
theorem rot_room {w:World} {H g k c:Nat} {x:Nat→Pkt} {cs:List Value} (h:PQ w H (.slice (some ⟨g,0,none⟩) k c) k x cs) (hk:2≤k) (hkc:k<c) :
 (∀ j,j<6→(w.cell? ⟨g,6+(k-1)*6+j,none⟩).isSome=true∧w.frozen? ⟨g,6+(k-1)*6+j,none⟩=false)∧LR (w.setCells g (6+(k-1)*6) (cs.take 6)) H (some ⟨g,6,none⟩) k (rotP k x):=by
 have hl:cs.length=k*6:=h.1.1;have htl:(cs.take 6).length=6:=by rw[List.length_take,hl];omega
 rcases id h.1.2 with⟨hv,hn⟩|⟨g',cap,cur,hv,p0,p1,p2,p3,p4,p5⟩
 ·omega
 ·simp only[Value.slice.injEq,Option.some.injEq,Addr.mk.injEq,and_true]at hv;obtain⟨rfl,-,rfl⟩:=hv;have hsome:∀ j,j<6→(w.cell? ⟨g,6+(k-1)*6+j,none⟩).isSome=true:=fun j hj=>by
   have hlt:6+(k-1)*6+j<cur.size:=by rw[p4];omega
   simp[World.cell?,p1,Array.getElem?_eq_getElem hlt]
  refine⟨fun j hj=>⟨hsome j hj,h.1.frozenAt _⟩,fun i hi => ?_⟩;have hb2:=blk_setCells (cs.take 6) (6+(k-1)*6) w ⟨_,p1⟩;have gg:=gr_setCells (g:=g) (cs.take 6) (6+(k-1)*6) w
  by_cases e:i+1=k
  ·have hr:rotP k x i=x 0:=if_pos e;obtain⟨⟨a,c,⟨k0,k1,k2,k3,k4,k5⟩,hb⟩,hs⟩:=h.2 0 (by omega);rw[hr];have key:∀(j:Nat) (u:Value),j<6→cs[j]?=some u→(w.setCells g (6+(k-1)*6) (cs.take 6)).cell? ⟨g,6+i*6+j,none⟩=some u:=fun j u hj hu=>by
    have h1:=World.cell?_setCells_in g (cs.take 6) (6+(k-1)*6) w (by rw[htl];exact hsome) j (by omega);rw[show 6+i*6+j=6+(k-1)*6+j by omega,h1];obtain⟨q1,q2⟩:=List.getElem?_eq_some_iff.1 hu;simp[List.getElem_take,q2]
   refine⟨g,6,a,c,rfl,p0,hb2,⟨?_,?_,?_,?_,?_,?_⟩,hb.gr gg p1 (by decide),hs⟩
   ·have:=key 0 _ (by omega) (by simpa using k0);rwa [Nat.add_zero]at this
   ·exact key 1 _ (by omega) (by simpa using k1)
   ·exact key 2 _ (by omega) (by simpa using k2)
   ·exact key 3 _ (by omega) (by simpa using k3)
   ·exact key 4 _ (by omega) (by simpa using k4)
   ·exact key 5 _ (by omega) (by simpa using k5)
  ·have hr:rotP k x i=x (i+1):=if_neg e;obtain⟨⟨a,c,⟨k0,k1,k2,k3,k4,k5⟩,hb⟩,hs⟩:=h.2 (i+1) (by omega);rw[hr];have key:∀(j:Nat) (u:Value),j<6→cs[(i+1)*6+j]?=some u→(w.setCells g (6+(k-1)*6) (cs.take 6)).cell? ⟨g,6+i*6+j,none⟩=some u:=fun j u hj hu=>by
    rw[World.cell?_setCells_out g _ _ _ _ (fun _ _ => .inl (by simp only;omega)),show 6+i*6+j=(i+1)*6+j by omega,h.1.cellAt _ (by omega)];exact hu
   refine⟨g,6,a,c,rfl,p0,hb2,⟨?_,?_,?_,?_,?_,?_⟩,hb.gr gg p1 (by decide),hs⟩
   ·have:=key 0 _ (by omega) (by rw[Nat.add_zero];exact k0);rwa [Nat.add_zero]at this
   ·exact key 1 _ (by omega) k1
   ·exact key 2 _ (by omega) k2
   ·exact key 3 _ (by omega) k3
   ·exact key 4 _ (by omega) k4
   ·exact key 5 _ (by omega) k5
theorem take6 {cs:List Value} {p:Pkt} {a:Option Addr} {c:Nat} (h:RK cs 0 p a c):cs.take 6 = [.int .i64 p.num,.int .i64 p.fr,.int .i64 p.row,.int .i64 p.part,.bool p.last,.slice a p.data.length c]:=by
 obtain⟨h0,h1,h2,h3,h4,h5⟩:=h
 match cs,h0,h1,h2,h3,h4,h5 with
 | u0::u1::u2::u3::u4::u5::t,h0,h1,h2,h3,h4,h5 =>
  simp at h0 h1 h2 h3 h4 h5;subst h0 h1 h2 h3 h4 h5;rfl
theorem PQ.head {w:World} {H n c:Nat} {a:Option Addr} {x:Nat→Pkt} {cs:List Value} (h:PQ w H (.slice a n c) n x cs) (hn:0<n) :
 ∃ g a2 c2,a=some ⟨g,0,none⟩∧H≤g∧(∃ arr,w.heap[g]?=some (.cells arr 32 (0,0)))∧(w.cell? ⟨g,0,none⟩=some (.int .i64 (x 0).num)∧w.cell? ⟨g,1,none⟩=some (.int .i64 (x 0).fr)∧w.cell? ⟨g,2,none⟩=some (.int .i64 (x 0).row)∧w.cell? ⟨g,3,none⟩=some (.int .i64 (x 0).part)∧w.cell? ⟨g,4,none⟩=some (.bool (x 0).last)∧w.cell? ⟨g,5,none⟩=some (.slice a2 (x 0).data.length c2))∧cs.take 6 = [.int .i64 (x 0).num,.int .i64 (x 0).fr,.int .i64 (x 0).row,.int .i64 (x 0).part,.bool (x 0).last,.slice a2 (x 0).data.length c2]:=by
 obtain⟨⟨a2,c2,hk,h2⟩,h4⟩:=h.2 0 hn;have ht:=take6 (by simpa using hk);obtain⟨k1,k2,k3,k4,k5,k6⟩:=hk;have h1:=h.1;rcases id h1.2 with⟨hv,hn⟩|⟨g,cap,cur,hv,p0,p1,-⟩
 ·omega
 ·simp only[Value.slice.injEq]at hv;obtain⟨rfl,-,rfl⟩:=hv;refine⟨g,a2,c2,rfl,p0,⟨_,p1⟩,⟨?_,?_,?_,?_,?_,?_⟩,ht⟩;all_goals (rw[h1.cellAt _ (by omega)];simpa using ‹_›)
theorem ne_ty {w:World} {q g:Nat} {ar1 ar2:Array Value} {T1 T2:TypeId} (h1:w.heap[q]?=some (.cells ar1 T1 (0,0))) (h2:w.heap[g]?=some (.cells ar2 T2 (0,0))) (h:T1≠T2):(some g:Option Nat)≠some q:=fun e=>by
 obtain rfl:g=q:=by simpa using e
 rw[h2]at h1;simp only[Option.some.injEq,Obj.cells.injEq]at h1;exact h h1.2.1.symm
theorem gr_none_some {w w':World} {g:Nat} (h:w.grownBy w' none):w.grownBy w' (some g):=⟨h.os,h.tape,h.output,h.size,fun i hi _=>h.block i hi (by simp)⟩
/-- What stays as it is while packets are drawn: the four boxes, the list. -/
structure LS (w wr : World) (b P R q7 : Nat) (cv pv : Array Value) (H Ho : Nat) (vl : Value) (m : Nat) (ml : Nat → Pkt) (csl : List Value) (vo : Value) (k : Nat) (x : Nat → Pkt) (cs : List Value) : Prop where
 rd:RdP wr b P
 gr:w.grownBy wr (some b)
 b1:∃ x0 x1 x2 x3 x4:Value,wr.heap[R]?=some (.cells #[x0,x1,x2,x3,x4] 41 (0,0))
 b2:∃ x0 x1 x2:Value,wr.heap[R+1]?=some (.cells #[x0,x1,x2] 43 (0,0))
 b3:wr.heap[q7]?=some (.cells cv 41 (0,0))
 b4:wr.heap[q7+1]?=some (.cells pv 43 (0,0))
 ql:PQ wr H vl m ml csl
 qo:PQ wr Ho vo k x cs
 ll:∀ q,vl.ownBlock=some q→q<Ho
 hH:w.heap.size≤H
 hHo:H≤Ho
 hb:b<w.heap.size
 hs:Ho≤wr.heap.size
 hR:w.heap.size≤R
 h7:R+1<q7
theorem PQ.rdb {w w':World} {H k b:Nat} {v:Value} {x:Nat→Pkt} {cs:List Value} (h:PQ w H v k x cs) (g:w.grownBy w' (some b)) (hq:∃ arr,w.heap[b]?=some (.cells arr 54 (0,0))) (hb:b<H):PQ w' H v k x cs:=by
 obtain⟨arr,hq⟩:=hq;exact⟨own_gr h.1 g hb,fun i hi=>by
  obtain⟨⟨a,c,h1,h2⟩,h4⟩:=h.2 i hi;exact⟨⟨a,c,h1,h2.gr g hq (by decide)⟩,h4⟩⟩
theorem LS.draw {w wr w2:World} {b P P' R q7 H Ho m k:Nat} {cv pv:Array Value} {vl vo:Value} {ml x:Nat→Pkt} {csl cs:List Value} (h:LS w wr b P R q7 cv pv H Ho vl m ml csl vo k x cs) (r:RdP w2 b P') (g:wr.grownBy w2 (some b)):LS w w2 b P' R q7 cv pv H Ho vl m ml csl vo k x cs:=by
 obtain⟨h1,h2,⟨x0,x1,x2,x3,x4,h3⟩,⟨y0,y1,y2,h4⟩,h5,h6,h7,h8,h9,h10,h11,h12,h13,h14,h15⟩:=h;exact⟨r,grown_trans h2 g,⟨_,_,_,_,_,gr_blk g h3 (by omega)⟩,⟨_,_,_,gr_blk g h4 (by omega)⟩,gr_blk g h5 (by omega),gr_blk g h6 (by omega),h7.rd h1 g (by omega),h8.rd h1 g (by omega),h9,h10,h11,h12,Nat.le_trans h13 g.size,h14,h15⟩
theorem LS.mono {w wr:World} {b P P' R q7 H Ho m k:Nat} {cv pv:Array Value} {vl vo:Value} {ml x:Nat→Pkt} {csl cs:List Value} (h:LS w wr b P R q7 cv pv H Ho vl m ml csl vo k x cs) (e:P≤P'):LS w wr b P' R q7 cv pv H Ho vl m ml csl vo k x cs :=
 ⟨h.rd.mono e,h.gr,h.b1,h.b2,h.b3,h.b4,h.ql,h.qo,h.ll,h.hH,h.hHo,h.hb,h.hs,h.hR,h.h7⟩
theorem LS.app {w wr w2:World} {b P R q7 H Ho m k c1:Nat} {cv pv:Array Value} {vl vo v2:Value} {ml x:Nat→Pkt} {csl cs:List Value} {y:Pkt} {a1:Option Addr} (h:LS w wr b P R q7 cv pv H Ho vl m ml csl vo k x cs)
 (o:w2.ownsRow Ho 32 6 v2 (k+1) (cs ++ [.int .i64 y.num,.int .i64 y.fr,.int .i64 y.row,.int .i64 y.part,.bool y.last,.slice a1 y.data.length c1])) (g:wr.grownBy w2 vo.ownBlock) (hs:BA wr a1 c1 y.data) (hf:pkS y) :
 LS w w2 b P R q7 cv pv H Ho vl m ml csl v2 (k+1) (fk x k y) (cs ++ [.int .i64 y.num,.int .i64 y.fr,.int .i64 y.row,.int .i64 y.part,.bool y.last,.slice a1 y.data.length c1]):=by
 obtain⟨h1,h2,⟨x0,x1,x2,x3,x4,h3⟩,⟨y0,y1,y2,h4⟩,h5,h6,h7,h8,h9,h10,h11,h12,h13,h14,h15⟩:=h;have hge:=owns_ge h8.1;have key:∀(q:Nat) (arr:Array Value) (T:TypeId),wr.heap[q]?=some (.cells arr T (0,0))→T≠32→w2.heap[q]?=some (.cells arr T (0,0)):=fun q arr T hq hT=>blk_gr hq g (by
  rcases own_ne_blk h8.1 hq (fun e=>hT e.symm)with h|h
  ·rw[h];simp
  ·exact h)
 exact⟨h1.grE g (fun q hq=>by have:=hge q hq;omega),grown_any h2 g (fun q hq=>by have:=hge q hq;omega),⟨_,_,_,_,_,key _ _ _ h3 (by decide)⟩,⟨_,_,_,key _ _ _ h4 (by decide)⟩,key _ _ _ h5 (by decide),key _ _ _ h6 (by decide),h7.keptO h8.1 g h9,h8.app o g hs hf,h9,h10,h11,h12,Nat.le_trans h13 g.size,h14,h15⟩
theorem l20Lossy_0 (b P:Nat) (w:World) (h:RdP w b P) (hp:P<2^33) :
 Calls Try.prog 15 #[.pointer (some ⟨b,0,none⟩),.int .i64 0] w (LoR w b (P+100000)):=by
 have hbw:b<w.heap.size:=h.lt;have R1:=(Ext.alloc (w.alloc (.cells #[.int .i64 0,.int .i64 0,.bool false,.int .i64 0,.slice none 0 0] 41)) (.cells #[.int .i64 0,.int .i64 0,.slice none 0 0] 43)).blk (blk_new w (.cells #[.int .i64 0,.int .i64 0,.bool false,.int .i64 0,.slice none 0 0] 41));have R2:=blk_new (w.alloc (.cells #[.int .i64 0,.int .i64 0,.bool false,.int .i64 0,.slice none 0 0] 41)) (.cells #[.int .i64 0,.int .i64 0,.slice none 0 0] 43);have E1:=(Ext.alloc w (.cells #[.int .i64 0,.int .i64 0,.bool false,.int .i64 0,.slice none 0 0] 41)).trans (Ext.alloc _ (.cells #[.int .i64 0,.int .i64 0,.slice none 0 0] 43));have D1:=h.ext E1;have G1:w.grownBy _ (some b):=ext_gr E1;simp only[World.size_alloc]at R2;clear E1 h;go_enter Try.func15,Try.ntmps15
 go_wp2_with fail
 try simp only[World.size_alloc]
 generalize (w.alloc (.cells #[.int .i64 0,.int .i64 0,.bool false,.int .i64 0,.slice none 0 0] 41)).alloc (.cells #[.int .i64 0,.int .i64 0,.slice none 0 0] 43)=w1 at *;obtain⟨R,hR⟩:∃ R,R=w.heap.size:=⟨_,rfl⟩;rw[←hR]at R1 R2⊢;have hRb:b<R:=by omega
 have hwR:w.heap.size≤R:=by omega
 have HR:=Lib.hid hR;clear hR;refine(l20Refs_0 b _ _ D1 (by omega)).mono ?_
 rintro e w2 ⟨x,ca,cc,W8,H8,pa,pn,pc,rfl,hx1,hx2,S2,D2,g2⟩
 obtain⟨cw,chh,ci,cq,cn,cf⟩:=x;have G2:=grown_trans G1 g2;have Q1:=gr_blk g2 R1 (by omega);have Q2:=gr_blk g2 R2 (by omega);clear D1 G1 g2 R1 R2;have p7:=(Ext.alloc (w2.alloc (.cells #[.int .i64 cw,.int .i64 chh,.bool ci,.int .i64 cq,.slice ca cn cc] 41)) (.cells #[.int .i64 W8,.int .i64 H8,.slice pa pn pc] 43)).blk (blk_new w2 (.cells #[.int .i64 cw,.int .i64 chh,.bool ci,.int .i64 cq,.slice ca cn cc] 41));have p8:=blk_new (w2.alloc (.cells #[.int .i64 cw,.int .i64 chh,.bool ci,.int .i64 cq,.slice ca cn cc] 41)) (.cells #[.int .i64 W8,.int .i64 H8,.slice pa pn pc] 43);have e3:=(Ext.alloc w2 (.cells #[.int .i64 cw,.int .i64 chh,.bool ci,.int .i64 cq,.slice ca cn cc] 41)).trans (Ext.alloc _ (.cells #[.int .i64 W8,.int .i64 H8,.slice pa pn pc] 43));simp only[World.size_alloc]at p8;have D3:=D2.ext e3;have G3:=grown_ext G2 e3;have S3:=S2.ext e3;have R1:=e3.blk Q1;have R2:=e3.blk Q2;have hq7:=lt_of_block Q2;clear D2 G2 S2 Q1 Q2 e3;have HF:=Lib.hid hx2;clear hx2;go_upto_region 2 with fail
 generalize (w2.alloc (.cells #[.int .i64 cw,.int .i64 chh,.bool ci,.int .i64 cq,.slice ca cn cc] 41)).alloc (.cells #[.int .i64 W8,.int .i64 H8,.slice pa pn pc] 43)=w3 at *;obtain⟨q7,hq7e⟩:∃ q,q=w2.heap.size:=⟨_,rfl⟩;rw[←hq7e]at p7 p8 hq7⊢;clear hq7e;obtain⟨HI,hHI⟩:∃ q,q=w3.heap.size:=⟨_,rfl⟩;have hbI:b<HI:=by have:=G3.size;omega
 have hwI:w.heap.size≤HI:=by have:=G3.size;omega
 have hext:Stab (fun wa wb=>(wa.grownBy wb (some b)∧∃ arr,wa.heap[b]?=some (.cells arr 54 (0,0)))) (fun i own ys wx=>match i with|0=>own= .agg #[.int .i64 cw,.int .i64 chh,.bool ci,.int .i64 cq,.slice ca cn cc]|1=>own= .pointer (some ⟨b,0,none⟩)|2=>∃ z:Int,own= .int .i64 z∧0≤z∧z<60|3=>∃ z:Int,own= .int .i64 z∧6≤z∧z≤65|4=>∃(k:Nat) (x:Nat→Pkt) (a:Option Addr) (c:Nat) (cs:List Value),own= .slice a k c∧k≤10000∧PQ wx HI (.slice a k c) k x cs|5=>∃(k:Nat) (x:Nat→Pkt) (a:Option Addr) (c:Nat) (cs:List Value),own= .slice a k c∧k≤10000∧PQ wx HI (.slice a k c) k x cs|_=>True):=by
  intro i own ys wa wb e h
  match i,h with
  | 0,h|1,h|2,h|3,h=>exact h
  | 4,h|5,h=>obtain⟨k,x,a,c,cs,h1,h2,h3⟩:=h;exact⟨k,x,a,c,cs,h1,h2,h3.rdb e.1 e.2 hbI⟩
  | _+6,_=>trivial
 have Hext:=Lib.hid hext;clear hext;refine wp_region_invL (by kernel_rfl) [(9,5),(18,0),(19,1),(20,2),(21,3),(22,4)] [[],[],[1],[1,2],[0,1,2,3],[0,1,2,3,4]] (fun i own ys wx=>match i with|0=>own= .agg #[.int .i64 cw,.int .i64 chh,.bool ci,.int .i64 cq,.slice ca cn cc]|1=>own= .pointer (some ⟨b,0,none⟩)|2=>∃ z:Int,own= .int .i64 z∧0≤z∧z<60|3=>∃ z:Int,own= .int .i64 z∧6≤z∧z≤65|4=>∃(k:Nat) (x:Nat→Pkt) (a:Option Addr) (c:Nat) (cs:List Value),own= .slice a k c∧k≤10000∧PQ wx HI (.slice a k c) k x cs|5=>∃(k:Nat) (x:Nat→Pkt) (a:Option Addr) (c:Nat) (cs:List Value),own= .slice a k c∧k≤10000∧PQ wx HI (.slice a k c) k x cs|_=>True) (fun Lx wx=>w3.grownBy wx (some b)∧RdP wx b (P+12001)∧(Lx 2=false→RdP wx b (P+12000))) (by kernel_rfl) (by kernel_rfl) (by kernel_rfl) ?g0_r1 ?gop_r1 ?gend_r1
 case g0_r1=>exact⟨⟨rfl,rfl,rfl,Nat.le_refl _,fun _ _ _=>rfl⟩,D3.drew.mono (by omega),fun _=>D3.drew⟩
 case gop_r1 =>
  refine⟨?o0,?o1,?o2,?o3,?o4,?o5,trivial⟩ <;> (intro Lx xs wx hG hl ha hb hD hI Qo Kx hK hQo;simp only[patchS,Nat.reduceAdd,Nat.reduceEqDiff,↓reduceIte]at hQo⊢)
  case o0 =>
   clear hl ha hb hD hI;obtain⟨-,k0,k1,k2,k3,k4⟩:=bx5 (gr_blk hG.1 p7 (by omega));go_wp2;exact hK.out _ _ ⟨rfl,hG,kkp⟩
  case o1 =>
   clear hl ha hb hD hI;go_wp2;exact hK.out _ _ ⟨rfl,hG,kkp⟩
  case o2 =>
   have l2:Lx 2=false:=hl;clear hl ha hb;rw[ddq (hD 1 rfl)]at hQo⊢;clear hD hI;go_wp2_with fail
   refine(pick_c b _ 60 _ (hG.2.2 l2) (by omega) (by omega) (by omega)).mono ?_
   rintro e w4 ⟨xx,rfl,xa,xb,rd,gr⟩
   go_wp2;exact hK.out _ _ ⟨⟨_,rfl,xa,xb⟩,⟨grown_trans hG.1 gr,rd.mono (by omega),fun h=>by cases h⟩,fun i _ _ _ own ys h=>Hext.out i own ys _ _ ⟨gr,hG.2.1.blk⟩ h⟩
  case o3 =>
   clear hl ha hb;have d2:∃ z:Int,(xs 2) = .int .i64 z∧0≤z∧z<60:=hD 2 rfl;clear hD hI;generalize xs 2=y2 at *;obtain⟨z2,rfl,z2a,z2b⟩:=d2;go_wp2;exact hK.out _ _ ⟨⟨_,rfl,by omega,by omega⟩,hG,kkp⟩
  case o4 =>
   clear hl ha hb;rw[ddq (hD 0 rfl)]at hQo⊢;have d3:∃ z:Int,(xs 3) = .int .i64 z∧6≤z∧z≤65:=hD 3 rfl;clear hD hI;generalize xs 3=y3 at *;obtain⟨z3,rfl,z3a,z3b⟩:=d3;have sx:=S3.rd D3 hG.1;have hsx:HI≤wx.heap.size:=by have:=hG.1.size;omega
   go_wp2_with fail
   refine(spec_MakePackets_any cw chh cq ci ca cn cc cf _ _ sx HF.out (by omega) (by omega) (by omega)).mono ?_
   rintro e w9 ⟨k9,x9,a9,c9,cs9,rfl,hk9,hp9,e9⟩
   go_wp2;exact hK.out _ _ ⟨⟨k9,x9,a9,c9,cs9,rfl,hk9,hp9.low hsx⟩,⟨grown_ext hG.1 e9,hG.2.1.ext e9,fun h=>(hG.2.2 h).ext e9⟩,fun i _ _ _ own ys h=>Hext.out i own ys _ _ ⟨ext_gr e9,hG.2.1.blk⟩ h⟩
  case o5 =>
   clear hl ha hb;have d4:∃(k:Nat) (x:Nat→Pkt) (a:Option Addr) (c:Nat) (cs:List Value),(xs 4) = .slice a k c∧k≤10000∧PQ wx HI (.slice a k c) k x cs:=hD 4 rfl;clear hD hI;generalize xs 4=y4 at *;obtain⟨m4,ml4,al4,cl4,cs4,rfl,hm4,hq4⟩:=d4;go_wp2;exact hK.out _ _ ⟨⟨m4,ml4,al4,cl4,cs4,rfl,hm4,hq4⟩,hG,kkp⟩
 clear Hext;intro xs wx hV hG0;obtain⟨Lx,hL,hG⟩:=hG0;have l2:Lx 2=true:=hL 2 (by decide);clear hL;have d5:∃(k:Nat) (x:Nat→Pkt) (a:Option Addr) (c:Nat) (cs:List Value),(xs 5) = .slice a k c∧k≤10000∧PQ wx HI (.slice a k c) k x cs:=hV 5 (by decide);clear hV;simp only[patchS,Nat.reduceAdd,Nat.reduceEqDiff,↓reduceIte];generalize xs 0=y0,xs 1=y1,xs 2=y2,xs 3=y3,xs 4=y4,xs 5=y5 at *
 replace hG:w3.grownBy wx (some b)∧RdP wx b (P+12001)∧(Lx 2=false→RdP wx b (P+12000)):=hG
 obtain⟨m,ml,al,cl,csl,rfl,hm,hql⟩:=d5;have hIx:HI≤wx.heap.size:=by have:=hG.1.size;omega
 clear hHI D3 S3 HF hx1;have Z1:=gr_blk hG.1 R1 (by omega);have Z2:=gr_blk hG.1 R2 (by omega);have Z3:=gr_blk hG.1 p7 (by omega);have Z4:=gr_blk hG.1 p8 (by omega);have e4:=Ext.alloc wx (.cells #[] 32);have o4:=World.ownsRow_made (base:=wx.heap.size) (e:=32) (size:=6) wx #[] 0 (Nat.le_refl _) (by simp) rfl;obtain⟨Ho,hHo⟩:∃ q,q=wx.heap.size:=⟨_,rfl⟩;have hll:∀ q,(Value.slice al m cl).ownBlock=some q→q<Ho:=fun q hq=>by rw[hHo];exact(hql.1.lt q hq).2
 have S0:LS w (wx.alloc (.cells #[] 32)) b (P+12001) R q7 #[.int .i64 cw,.int .i64 chh,.bool ci,.int .i64 cq,.slice ca cn cc] #[.int .i64 W8,.int .i64 H8,.slice pa pn pc] HI Ho (.slice al m cl) m ml csl (.slice (some ⟨wx.heap.size,0,none⟩) 0 0) 0 (fun _=>pkt0) [] :=
  ⟨hG.2.1.ext e4,grown_ext (grown_trans G3 hG.1) e4,⟨_,_,_,_,_,e4.blk Z1⟩,⟨_,_,_,e4.blk Z2⟩,e4.blk Z3,e4.blk Z4,hql.ext e4,nil_PQ _ _ _ (by rw[hHo];exact o4),hll,hwI,by omega,hbw,by rw[hHo];exact e4.size,hwR,hq7⟩
 have Hm:=Lib.hid hm;clear Z1 Z2 Z3 Z4 e4 o4 hG G3 hql hll R1 R2 p7 p8;go_wp2_with fail
 go_loopw [10,11] (fun v i wr=>∃(j k:Nat) (x:Nat→Pkt) (cs:List Value),j≤m∧i= .int .i64 (j:Nat)∧k≤2*j∧LS w wr b (P+12001+3*j) R q7 #[.int .i64 cw,.int .i64 chh,.bool ci,.int .i64 cq,.slice ca cn cc] #[.int .i64 W8,.int .i64 H8,.slice pa pn pc] HI Ho (.slice al m cl) m ml csl v k x cs) (fun _ i _=>m-(intOf i).toNat)
 case atStart=>exact⟨0,0,_,_,by omega,rfl,by omega,S0⟩
 case round =>
  clear S0;obtain⟨j,k,x,cs,hj,rfl,hk,S1⟩:=hrel;obtain⟨ao,co,rfl⟩:=owns_form S1.qo.1;have hm:=Hm.out
  by_cases hlt:j<m
  ·go_wp2_with fail
   refine(pick_c b _ 7 _ S1.rd (by omega) (by omega) (by omega)).mono ?_
   rintro e w5 ⟨y,rfl,ya,yb,r5,g5⟩
   have S5:=S1.draw r5 g5;clear S1 r5 g5
   by_cases hy:0<y
   ·have hd:decide (y>0)=true:=by simpa using hy
    obtain⟨gl,al2,cl2,he,⟨m0,m1,m2,m3,m4,m5⟩,hbb,hss⟩:=S5.ql.cells hlt;have o7:=S5.qo.1;have hs7:=S5.hs;have HBB:=Lib.hid hbb;have HSS:=Lib.hid hss;have HS:=Lib.hid S5;cases he;clear hbb hss S5;go_wp2_with (at_builtin;refine wpList_app6 _ o7 hs7 _ _ _ _ _ _ rfl _ _ 23 rfl (.agg #[.int .i64 0,.int .i64 0,.int .i64 0,.int .i64 0,.bool false,.slice none 0 0]) 64 Try.underlying23 info_Packet rfl rfl rfl (by intro u hu;simp at hu;rcases hu with rfl|rfl|rfl|rfl|rfl|rfl <;> rfl) (by omega) (by omega) ?_;intro v8 w8 own8 gr8;refine Hid.out ?_)
    have S8:=HS.out.app own8 gr8 HBB.out HSS.out;obtain⟨ao8,co8,rfl⟩:=owns_form S8.qo.1;clear own8 gr8 o7 hs7 HS HBB HSS m0 m1 m2 m3 m4 m5;refine Lib.hid ?_;go_wp2_with fail
    refine(odd_c b _ 9 _ S8.rd (by omega) (by omega) (by omega)).mono ?_
    rintro e w9 ⟨od,rfl,r9,g9⟩
    have S9:=S8.draw r9 g9;clear S8 r9 g9;cases od
    ·have S9':=S9;go_wp2;go_roundw
     case rel=>exact⟨j+1,k+1,_,_,by omega,by go_num,by omega,S9.mono (by omega)⟩
     case measure=>simp[intOf] <;> omega
    ·go_wp2_with fail
     refine(pick_c b _ (m:Int) _ S9.rd (by omega) (by omega) (by omega)).mono ?_
     rintro e w10 ⟨y,rfl,ya,yb,r10,g10⟩
     have S10:=S9.draw r10 g10;clear S9 r10 g10;obtain⟨y,rfl⟩:=Int.eq_ofNat_of_zero_le ya;have hym:y<m:=by omega
     obtain⟨gl,al2,cl2,he,⟨m0,m1,m2,m3,m4,m5⟩,hbb,hss⟩:=S10.ql.cells hym;have o7:=S10.qo.1;have hs7:=S10.hs;have HBB:=Lib.hid hbb;have HSS:=Lib.hid hss;have HS:=Lib.hid S10;cases he;clear hbb hss S10;go_wp2_with (at_builtin;refine wpList_app6 _ o7 hs7 _ _ _ _ _ _ rfl _ _ 23 rfl (.agg #[.int .i64 0,.int .i64 0,.int .i64 0,.int .i64 0,.bool false,.slice none 0 0]) 64 Try.underlying23 info_Packet rfl rfl rfl (by intro u hu;simp at hu;rcases hu with rfl|rfl|rfl|rfl|rfl|rfl <;> rfl) (by omega) (by omega) ?_;intro v8 w8 own8 gr8;refine Hid.out ?_)
     have S8:=HS.out.app own8 gr8 HBB.out HSS.out;obtain⟨ao8,co8,rfl⟩:=owns_form S8.qo.1;clear own8 gr8 o7 hs7 HS HBB HSS m0 m1 m2 m3 m4 m5;refine Lib.hid ?_;go_wp2;go_roundw
     case rel=>exact⟨j+1,k+1+1,_,_,by omega,by go_num,by omega,S8.mono (by omega)⟩
     case measure=>simp[intOf] <;> omega
   ·have hd:decide (y>0)=false:=by simp;omega
    go_wp2_with fail
    refine(odd_c b _ 9 _ S5.rd (by omega) (by omega) (by omega)).mono ?_
    rintro e w9 ⟨od,rfl,r9,g9⟩
    have S9:=S5.draw r9 g9;clear S5 r9 g9;cases od
    ·have S9':=S9;go_wp2;go_roundw
     case rel=>exact⟨j+1,k,_,_,by omega,by go_num,by omega,S9.mono (by omega)⟩
     case measure=>simp[intOf] <;> omega
    ·go_wp2_with fail
     refine(pick_c b _ (m:Int) _ S9.rd (by omega) (by omega) (by omega)).mono ?_
     rintro e w10 ⟨y,rfl,ya,yb,r10,g10⟩
     have S10:=S9.draw r10 g10;clear S9 r10 g10;obtain⟨y,rfl⟩:=Int.eq_ofNat_of_zero_le ya;have hym:y<m:=by omega
     obtain⟨gl,al2,cl2,he,⟨m0,m1,m2,m3,m4,m5⟩,hbb,hss⟩:=S10.ql.cells hym;have o7:=S10.qo.1;have hs7:=S10.hs;have HBB:=Lib.hid hbb;have HSS:=Lib.hid hss;have HS:=Lib.hid S10;cases he;clear hbb hss S10;go_wp2_with (at_builtin;refine wpList_app6 _ o7 hs7 _ _ _ _ _ _ rfl _ _ 23 rfl (.agg #[.int .i64 0,.int .i64 0,.int .i64 0,.int .i64 0,.bool false,.slice none 0 0]) 64 Try.underlying23 info_Packet rfl rfl rfl (by intro u hu;simp at hu;rcases hu with rfl|rfl|rfl|rfl|rfl|rfl <;> rfl) (by omega) (by omega) ?_;intro v8 w8 own8 gr8;refine Hid.out ?_)
     have S8:=HS.out.app own8 gr8 HBB.out HSS.out;obtain⟨ao8,co8,rfl⟩:=owns_form S8.qo.1;clear own8 gr8 o7 hs7 HS HBB HSS m0 m1 m2 m3 m4 m5;refine Lib.hid ?_;go_wp2;go_roundw
     case rel=>exact⟨j+1,k+1,_,_,by omega,by go_num,by omega,S8.mono (by omega)⟩
     case measure=>simp[intOf] <;> omega
  ·obtain rfl:j=m:=by omega
   have S2:=S1.mono (P':=P+42001) (by omega);have hk2:k≤20000:=by omega
   have hdj:decide ((j:Int)<j)=false:=by simp
   clear S1 hk hj hlt Hm;go_wp2_with fail
   refine(odd_c b _ 6 _ S2.rd (by omega) (by omega) (by omega)).mono ?_
   rintro e w3' ⟨od,rfl,r3,g3⟩
   have S3:=S2.draw r3 g3;clear S2 r3 g3 hdj;cases od
   ·have S4:=S3;clear S3;have hkN:k≤20001:=by omega
    by_cases h1:1<k
    ·have hd:decide (((k:Nat):Int)>1)=true:=by simp;omega
     go_wp2_with fail
     refine(pick_c b _ 2 _ S4.rd (by omega) (by omega) (by omega)).mono ?_
     rintro e wz ⟨y,rfl,ya,yb,r9,g9⟩
     have S9:=S4.draw r9 g9;clear S4 r9 g9;obtain rfl|rfl:y=0∨y=1:=by omega
     ·clear ya yb;have F1:=S9.gr;have F2:RdP wz b (P+100000):=S9.rd.mono (by omega);have F4:=S9.b3;have F5:=S9.b4;have F6:=S9.b1;have F7:=S9.b2;have hQ:=S9.qo;have hHoW:w.heap.size≤Ho:=Nat.le_trans S9.hH S9.hHo;clear S9;obtain⟨g,a2,c2,he,hgo,hgb,⟨m0,m1,m2,m3,m4,m5⟩,ht6⟩:=hQ.head (by omega);cases he;obtain⟨arr,hgb⟩:=hgb;have hgz:=lt_of_block hgb;have HT:=Lib.hid ht6;have HQ:=Lib.hid hQ;have hcap:=owns_cap hQ.1;have hcl:cs.length=k*6:=hQ.1.1;obtain⟨i0,hi0,hz0,hz1,hz2⟩:=info_parts info_Packet;have HI0:=Lib.hid (⟨hi0,hz0,hz1,hz2⟩:_∧_∧_∧_);clear hQ ht6 hi0 hz0 hz1 hz2;go_upto_region 14 with fail
      have hext:Stab (fun wa wb=>Ext wa wb) (fun i own ys wx=>match i with|0=>own= .slice (some ⟨g,0,none⟩) k co|1=>own= .slice (some ⟨g,6,none⟩) (k-1) (co-1)|2=>own= .slice (some ⟨g,0,none⟩) k co|3=>own= .pointer (some ⟨g,0,none⟩)|4=>own= .agg #[.int .i64 (x 0).num,.int .i64 (x 0).fr,.int .i64 (x 0).row,.int .i64 (x 0).part,.bool (x 0).last,.slice a2 (x 0).data.length c2]|5=>∃ q:Nat,own= .slice (some ⟨q,0,none⟩) 1 1∧wz.heap.size≤q∧wx.heap[q]?=some (.cells #[.int .i64 (x 0).num,.int .i64 (x 0).fr,.int .i64 (x 0).row,.int .i64 (x 0).part,.bool (x 0).last,.slice a2 (x 0).data.length c2] 32 (0,0))|6=>∃(a:Option Addr) (c:Nat),own= .slice a k c∧k≤c∧c≤maxLen∧LR wx w.heap.size a k (rotP k x)|7=>∃(a:Option Addr) (c:Nat),own= .slice a k c∧k≤c∧c≤maxLen∧LR wx w.heap.size a k (rotP k x)|_=>True):=by
       intro i own ys wa wb e h
       match i,h with
       | 0,h|1,h|2,h|3,h|4,h=>exact h
       | 5,h=>obtain⟨q,h1,h2,h3⟩:=h;exact⟨q,h1,h2,e.blk h3⟩
       | 6,h|7,h=>obtain⟨a,c,h1,h2,h3,h4⟩:=h;exact⟨a,c,h1,h2,h3,h4.ext e⟩
       | _+8,_=>trivial
      have Hext:=Lib.hid hext;clear hext;refine wp_region_invL (by kernel_rfl) [(10,7),(67,0),(68,1),(69,2),(70,3),(71,4),(72,5),(73,6)] [[],[0],[],[2],[2,3],[2,3,4],[0,1,2,3,4,5],[0,1,2,3,4,5,6]] (fun i own ys wx=>match i with|0=>own= .slice (some ⟨g,0,none⟩) k co|1=>own= .slice (some ⟨g,6,none⟩) (k-1) (co-1)|2=>own= .slice (some ⟨g,0,none⟩) k co|3=>own= .pointer (some ⟨g,0,none⟩)|4=>own= .agg #[.int .i64 (x 0).num,.int .i64 (x 0).fr,.int .i64 (x 0).row,.int .i64 (x 0).part,.bool (x 0).last,.slice a2 (x 0).data.length c2]|5=>∃ q:Nat,own= .slice (some ⟨q,0,none⟩) 1 1∧wz.heap.size≤q∧wx.heap[q]?=some (.cells #[.int .i64 (x 0).num,.int .i64 (x 0).fr,.int .i64 (x 0).row,.int .i64 (x 0).part,.bool (x 0).last,.slice a2 (x 0).data.length c2] 32 (0,0))|6=>∃(a:Option Addr) (c:Nat),own= .slice a k c∧k≤c∧c≤maxLen∧LR wx w.heap.size a k (rotP k x)|7=>∃(a:Option Addr) (c:Nat),own= .slice a k c∧k≤c∧c≤maxLen∧LR wx w.heap.size a k (rotP k x)|_=>True) (fun Lx wx=>w.grownBy wx (some b)∧RdP wx b (P+100000)∧wx.heap[q7]?=some (.cells #[.int .i64 cw,.int .i64 chh,.bool ci,.int .i64 cq,.slice ca cn cc] 41 (0,0))∧wx.heap[q7+1]?=some (.cells #[.int .i64 W8,.int .i64 H8,.slice pa pn pc] 43 (0,0))∧(∃ x0 x1 x2 x3 x4:Value,wx.heap[R]?=some (.cells #[x0,x1,x2,x3,x4] 41 (0,0)))∧(∃ x0 x1 x2:Value,wx.heap[R+1]?=some (.cells #[x0,x1,x2] 43 (0,0)))∧(Lx 6=false→Ext wz wx)) (by kernel_rfl) (by kernel_rfl) (by kernel_rfl) ?g0_r2 ?gop_r2 ?gend_r2
      case g0_r2=>exact⟨grown_drew F1,F2.drew,F4,F5,F6,F7,fun _=>Ext.drewN _ 1⟩
      case gop_r2 =>
       refine⟨?_,?o1,?_,?o3,?o4,?o5,?o6,?o7,trivial⟩ <;> (intro Lx xs wx hG hl ha hb hD hI Qo Kx hK hQo;simp only[patchS,Nat.reduceAdd,Nat.reduceEqDiff,↓reduceIte]at hQo⊢)
       case o1 =>
        clear hl ha hb;rw[ddq (hD 0 rfl)]at hQo⊢;clear hD hI;go_wp2;exact hK.out _ _ ⟨rfl,hG,kkp⟩
       case o3 =>
        clear hl ha hb;rw[ddq (hD 2 rfl)]at hQo⊢;clear hD hI;go_wp2;exact hK.out _ _ ⟨rfl,hG,kkp⟩
       case o4 =>
        have l6:Lx 6=false:=hb 6 rfl;clear hl ha hb;rw[ddq (hD 3 rfl)]at hQo⊢;clear hD hI;have ez:=hG.2.2.2.2.2.2 l6;have k0:=cell_ext ez m0;have k1:=cell_ext ez m1;have k2:=cell_ext ez m2;have k3:=cell_ext ez m3;have k4:=cell_ext ez m4;have k5:=cell_ext ez m5;go_wp2;exact hK.out _ _ ⟨rfl,hG,kkp⟩
       case o5 =>
        have l6:Lx 6=false:=hb 6 rfl;clear hl ha hb;rw[ddq (hD 4 rfl)]at hQo⊢;clear hD hI;have ea:=Ext.alloc wx (.cells #[.int .i64 (x 0).num,.int .i64 (x 0).fr,.int .i64 (x 0).row,.int .i64 (x 0).part,.bool (x 0).last,.slice a2 (x 0).data.length c2] 32);have hez:=hG.2.2.2.2.2.2 l6;go_wp2;exact hK.out _ _ ⟨⟨_,rfl,hez.size,blk_new wx _⟩,⟨grown_ext hG.1 ea,hG.2.1.ext ea,ea.blk hG.2.2.1,ea.blk hG.2.2.2.1,(by obtain⟨x0,x1,x2,x3,x4,hx⟩:=hG.2.2.2.2.1;exact⟨_,_,_,_,_,ea.blk hx⟩),(by obtain⟨x0,x1,x2,hx⟩:=hG.2.2.2.2.2.1;exact⟨_,_,_,ea.blk hx⟩),fun _=>hez.trans ea⟩,fun i _ _ _ own ys h=>Hext.out i own ys _ _ ea h⟩
       case o6 =>
        have l6:Lx 6=false:=hl;clear hl ha hb;rw[ddq (hD 1 rfl)]at hQo⊢;have d5:∃ q:Nat,(xs 5) = .slice (some ⟨q,0,none⟩) 1 1∧wz.heap.size≤q∧wx.heap[q]?=some (.cells #[.int .i64 (x 0).num,.int .i64 (x 0).fr,.int .i64 (x 0).row,.int .i64 (x 0).part,.bool (x 0).last,.slice a2 (x 0).data.length c2] 32 (0,0)):=hD 5 rfl;clear hD hI;generalize xs 5=y5 at *;obtain⟨q5,rfl,hq5,hc5⟩:=d5
        skip
        have hst:∀(wy:World),(wx.grownBy wy (some g))→Stbn 8 6 [[],[0],[],[2],[2,3],[2,3,4],[0,1,2,3,4,5],[0,1,2,3,4,5,6]] (fun i own ys wx=>match i with|0=>own= .slice (some ⟨g,0,none⟩) k co|1=>own= .slice (some ⟨g,6,none⟩) (k-1) (co-1)|2=>own= .slice (some ⟨g,0,none⟩) k co|3=>own= .pointer (some ⟨g,0,none⟩)|4=>own= .agg #[.int .i64 (x 0).num,.int .i64 (x 0).fr,.int .i64 (x 0).row,.int .i64 (x 0).part,.bool (x 0).last,.slice a2 (x 0).data.length c2]|5=>∃ q:Nat,own= .slice (some ⟨q,0,none⟩) 1 1∧wz.heap.size≤q∧wx.heap[q]?=some (.cells #[.int .i64 (x 0).num,.int .i64 (x 0).fr,.int .i64 (x 0).row,.int .i64 (x 0).part,.bool (x 0).last,.slice a2 (x 0).data.length c2] 32 (0,0))|6=>∃(a:Option Addr) (c:Nat),own= .slice a k c∧k≤c∧c≤maxLen∧LR wx w.heap.size a k (rotP k x)|7=>∃(a:Option Addr) (c:Nat),own= .slice a k c∧k≤c∧c≤maxLen∧LR wx w.heap.size a k (rotP k x)|_=>True) wx wy:=by
         intro wy hy ii hii hne hc own ys h
         match ii,h with
         | 0,h|1,h|2,h|3,h|4,h=>exact h
         | 5,h=>obtain⟨q,h1,h2,h3⟩:=h;exact⟨q,h1,h2,blk_gr h3 hy (by simp;omega)⟩
         | 6,h=>exact absurd rfl hne
         | 7,h=>exact absurd hc (by decide)
         | _+8,_=>trivial
        obtain⟨hi0,hz0,hz1,hz2⟩:=HI0.out;have ez:=hG.2.2.2.2.2.2 l6;have hQx:=HQ.out.ext ez;have hgx:=ez.blk hgb;have hdl:(cs.drop 6).length=(k-1)*6:=by rw[List.length_drop,hcl];omega
        refine wpList_append_arg _ rfl _ _ 23 rfl 32 i0 (.agg #[.int .i64 0,.int .i64 0,.int .i64 0,.int .i64 0,.bool false,.slice none 0 0]) 6 64 Try.underlying23 hi0 hz0 hz1 hz2 rfl (by decide) g 6 (k-1) (co-1) (cs.drop 6) rfl hdl ?_ ⟨q5,0,none⟩ 1 1 (cs.take 6) rfl (by rw[HT.out];rfl) ?_ ?_ ?_ (by unfold maxLen;omega) (by omega) (fun hr => ?_) (fun hr v' w' o' g' => ?_)
        ·intro q u hu;have hq:q<(k-1)*6:=by have:=(List.getElem?_eq_some_iff.1 hu).1;omega
         rw[List.getElem?_drop]at hu;rw[hQx.1.cellAt _ (by omega)];exact hu
        ·rw[HT.out];obtain⟨z,z0,z1,z2,z3,z4,z5⟩:=bx6 hc5;intro q u hu;rw[Addr.add_lit,Nat.zero_add]
         match q,hu with
         | 0,hu=>simp at hu;rw[z0,hu]
         | 1,hu=>simp at hu;rw[z1,hu]
         | 2,hu=>simp at hu;rw[z2,hu]
         | 3,hu=>simp at hu;rw[z3,hu]
         | 4,hu=>simp at hu;rw[z4,hu]
         | 5,hu=>simp at hu;rw[z5,hu]
         | q+6,hu=>simp at hu
        ·rw[HT.out];intro u hu;simp at hu;rcases hu with rfl|rfl|rfl|rfl|rfl|rfl <;> rfl
        ·intro hr q hq;exact(rot_room hQx (by omega) (by omega)).1 q (by rw[HT.out]at hq;simpa using hq)
        ·have hlr:=(rot_room hQx (by omega) (by omega)).2.low hHoW;have gg:=gr_setCells (g:=g) (cs.take 6) (6+(k-1)*6) wx;generalize wx.setCells g (6+(k-1)*6) (cs.take 6)=wn at *;obtain⟨g1,g2,g3,g4,⟨x0,x1,x2,x3,x4,g5⟩,⟨y0,y1,y2,g6⟩,-⟩:=hG;exact hQo _ _ (hK.out _ _ ⟨⟨_,_,(show _=Value.slice (some ⟨g,6,none⟩) k (co-1) by congr 1;omega),by omega,by have:=hcap.2;unfold maxLen at *;omega,hlr⟩,⟨grown_any g1 gg (fun q hq=>by cases hq;omega),g2.grE gg (fun q hq=>by cases hq;omega),blk_gr g3 gg (ne_ty g3 hgx (by decide)),blk_gr g4 gg (ne_ty g4 hgx (by decide)),⟨_,_,_,_,_,blk_gr g5 gg (ne_ty g5 hgx (by decide))⟩,⟨_,_,_,blk_gr g6 gg (ne_ty g6 hgx (by decide))⟩,fun h=>by cases h⟩,hst _ gg⟩)
        ·have eN:Ext wx w':=ext_none g' rfl;have hP:=rot_grow hQx (by omega) eN o';obtain⟨an,cn',rfl⟩:=owns_form hP.1;have hcn:=owns_cap hP.1;obtain⟨g1,g2,g3,g4,⟨x0,x1,x2,x3,x4,g5⟩,⟨y0,y1,y2,g6⟩,-⟩:=hG;exact hQo _ _ (hK.out _ _ ⟨⟨_,_,rfl,hcn.1,hcn.2,hP.lr.low (by have:=ez.size;omega)⟩,⟨grown_ext g1 eN,g2.ext eN,eN.blk g3,eN.blk g4,⟨_,_,_,_,_,eN.blk g5⟩,⟨_,_,_,eN.blk g6⟩,fun h=>by cases h⟩,hst _ (gr_none_some g')⟩)
       case o7 =>
        clear hl ha hb;have d6:∃(a:Option Addr) (c:Nat),(xs 6) = .slice a k c∧k≤c∧c≤maxLen∧LR wx w.heap.size a k (rotP k x):=hD 6 rfl;clear hD hI;generalize xs 6=y6 at *;obtain⟨a6,c6,rfl,hc6a,hc6b,hl6⟩:=d6;go_wp2;exact hK.out _ _ ⟨⟨a6,c6,rfl,hc6a,hc6b,hl6⟩,hG,kkp⟩
       all_goals
        clear hl ha hb;have i7:=hI 7 10 rfl rfl;simp only[List.getD_cons_succ,List.getD_cons_zero]at i7;clear hD hI;rw[i7]at hQo⊢;clear i7;go_wp2;exact hK.out _ _ ⟨rfl,hG,kkp⟩
      clear Hext;intro xs wx hV hG0;obtain⟨Lx,hL,hG⟩:=hG0;have l6:Lx 6=true:=hL 6 (by decide);clear hL;have d7:∃(a:Option Addr) (c:Nat),(xs 7) = .slice a k c∧k≤c∧c≤maxLen∧LR wx w.heap.size a k (rotP k x):=hV 7 (by decide);clear hV;simp only[patchS,Nat.reduceAdd,Nat.reduceEqDiff,↓reduceIte];generalize xs 0=y0,xs 1=y1,xs 2=y2,xs 3=y3,xs 4=y4,xs 5=y5,xs 6=y6,xs 7=y7 at *
      replace hG:w.grownBy wx (some b)∧RdP wx b (P+100000)∧wx.heap[q7]?=some (.cells #[.int .i64 cw,.int .i64 chh,.bool ci,.int .i64 cq,.slice ca cn cc] 41 (0,0))∧wx.heap[q7+1]?=some (.cells #[.int .i64 W8,.int .i64 H8,.slice pa pn pc] 43 (0,0))∧(∃ x0 x1 x2 x3 x4:Value,wx.heap[R]?=some (.cells #[x0,x1,x2,x3,x4] 41 (0,0)))∧(∃ x0 x1 x2:Value,wx.heap[R+1]?=some (.cells #[x0,x1,x2] 43 (0,0)))∧(Lx 6=false→Ext wz wx):=hG
      obtain⟨a7,c7,rfl,hc7a,hc7b,hl7⟩:=d7;have hcF:k≤c7∧c7≤maxLen:=⟨hc7a,hc7b⟩;clear F1 F2 F4 F5 F6 F7 m0 m1 m2 m3 m4 m5 hgb;obtain⟨F1,F2,F4,F5,F6,F7,-⟩:=hG;have F3:=hl7;go_upto_region 15 with fail
      refine wp_region_inv2 (by kernel_rfl) [(5,4),(74,0),(75,1),(76,2)] [[],[],[],[0],[0,1,3],[0,1,2,3,4]] (fun i own ys wx=>match i with|0=>own= .agg #[.int .i64 cw,.int .i64 chh,.bool ci,.int .i64 cq,.slice ca cn cc]|1=>own= .slice a7 (k) c7|2=>own= .agg #[.int .i64 W8,.int .i64 H8,.slice pa pn pc]|3=>wx.heap[R]?=some (.cells #[.int .i64 cw,.int .i64 chh,.bool ci,.int .i64 cq,.slice ca cn cc] 41 (0,0))|4=>own= .slice a7 (k) c7|5=>wx.heap[R+1]?=some (.cells #[.int .i64 W8,.int .i64 H8,.slice pa pn pc] 43 (0,0))|_=>True) (fun kx wx=>w.grownBy wx (some b)∧RdP wx b (P+100000)∧LR wx w.heap.size a7 (k) (rotP k x)∧wx.heap[q7]?=some (.cells #[.int .i64 cw,.int .i64 chh,.bool ci,.int .i64 cq,.slice ca cn cc] 41 (0,0))∧wx.heap[q7+1]?=some (.cells #[.int .i64 W8,.int .i64 H8,.slice pa pn pc] 43 (0,0))∧(∃ x0 x1 x2 x3 x4:Value,wx.heap[R]?=some (.cells #[x0,x1,x2,x3,x4] 41 (0,0)))∧(∃ x0 x1 x2:Value,wx.heap[R+1]?=some (.cells #[x0,x1,x2] 43 (0,0)))) (by kernel_rfl) (by kernel_rfl) (by kernel_rfl) ?g0_r3 ?gop_r3 ?gend_r3
      case g0_r3=>exact⟨grown_drew F1,F2.drew,F3.ext (Ext.drewN _ 1),F4,F5,F6,F7⟩
      case gop_r3 =>
       refine⟨?o0,?o1,?o2,?o3,?o4,?o5,trivial⟩ <;> (intro kx xs wx hk hG hD hI Qo Kx hK hQo;simp only[patchS,Nat.reduceAdd,Nat.reduceEqDiff,↓reduceIte]at hQo⊢)
       case o0 =>
        clear hD hI;obtain⟨-,k0,k1,k2,k3,k4⟩:=bx5 hG.2.2.2.1;go_wp2;exact hK.out _ _ ⟨rfl,hG,kkp⟩
       case o1 =>
        clear hD hI;go_wp2;exact hK.out _ _ ⟨rfl,hG,kkp⟩
       case o2 =>
        clear hD hI;obtain⟨-,k0,k1,k2,-⟩:=bx3 hG.2.2.2.2.1;go_wp2;exact hK.out _ _ ⟨rfl,hG,kkp⟩
       case o3 =>
        rw[ddq (hD 0 rfl)]at hQo⊢;clear hD hI;obtain⟨g1,g2,g3,g4,g5,⟨x0,x1,x2,x3,x4,g6⟩,y0,y1,y2,g7⟩:=hG;obtain⟨-,k0,k1,k2,k3,k4⟩:=bx5 g6;obtain⟨f0,f1,f2,f3,f4⟩:=fz5 g6;go_wp2;have hst:∀(wy:World),(∀ v,wx.heap[R+1]?=some v→wy.heap[R+1]?=some v)→Stbn 6 3 [[],[],[],[0],[0,1,3],[0,1,2,3,4]] (fun i own ys wx=>match i with|0=>own= .agg #[.int .i64 cw,.int .i64 chh,.bool ci,.int .i64 cq,.slice ca cn cc]|1=>own= .slice a7 (k) c7|2=>own= .agg #[.int .i64 W8,.int .i64 H8,.slice pa pn pc]|3=>wx.heap[R]?=some (.cells #[.int .i64 cw,.int .i64 chh,.bool ci,.int .i64 cq,.slice ca cn cc] 41 (0,0))|4=>own= .slice a7 (k) c7|5=>wx.heap[R+1]?=some (.cells #[.int .i64 W8,.int .i64 H8,.slice pa pn pc] 43 (0,0))|_=>True) wx wy:=by
         intro wy hy ii hii hne hc own ys h
         match ii,h with
         | 0,h|1,h|2,h=>exact h
         | 3,h=>exact absurd rfl hne
         | 4,h|5,h=>exact absurd hc (by decide)
         | _+6,_=>trivial
        have gg:=gs5 wx R 0 1 2 3 4 (.int .i64 cw) (.int .i64 chh) (.bool ci) (.int .i64 cq) (.slice ca cn cc);have bb:=blk_set5 (y0 := .int .i64 cw) (y1 := .int .i64 chh) (y2 := .bool ci) (y3 := .int .i64 cq) (y4 := .slice ca cn cc) g6;exact hQo undef _ (hK.out _ _ ⟨bb,⟨grown_any g1 gg (fun q hq=>by cases hq;omega),g2.grE gg (fun q hq=>by cases hq;omega),g3.gr gg g6 (by decide) (by decide),blk_gr g4 gg (by simp;omega),blk_gr g5 gg (by simp;omega),⟨_,_,_,_,_,bb⟩,_,_,_,blk_gr g7 gg (by simp)⟩,hst _ (fun v hv=>blk_gr hv gg (by simp))⟩)
       case o4 =>
        rw[ddq (hD 1 rfl)]at hQo⊢;clear hD hI;go_wp2;exact hK.out _ _ ⟨rfl,hG,kkp⟩
       case o5 =>
        rw[ddq (hD 2 rfl)]at hQo⊢;clear hD hI;obtain⟨g1,g2,g3,g4,g5,⟨x0,x1,x2,x3,x4,g6⟩,y0,y1,y2,g7⟩:=hG;obtain⟨-,k0,k1,k2,f0,f1,f2⟩:=bx3 g7;go_wp2;have hst:∀(wy:World),(∀ v,wx.heap[R]?=some v→wy.heap[R]?=some v)→Stbn 6 5 [[],[],[],[0],[0,1,3],[0,1,2,3,4]] (fun i own ys wx=>match i with|0=>own= .agg #[.int .i64 cw,.int .i64 chh,.bool ci,.int .i64 cq,.slice ca cn cc]|1=>own= .slice a7 (k) c7|2=>own= .agg #[.int .i64 W8,.int .i64 H8,.slice pa pn pc]|3=>wx.heap[R]?=some (.cells #[.int .i64 cw,.int .i64 chh,.bool ci,.int .i64 cq,.slice ca cn cc] 41 (0,0))|4=>own= .slice a7 (k) c7|5=>wx.heap[R+1]?=some (.cells #[.int .i64 W8,.int .i64 H8,.slice pa pn pc] 43 (0,0))|_=>True) wx wy:=by
         intro wy hy ii hii hne hc own ys h
         match ii,h with
         | 0,h|1,h|2,h|4,h=>exact h
         | 3,h=>exact hy _ h
         | 5,h=>exact absurd rfl hne
         | _+6,_=>trivial
        have gg:=gs3 wx (R+1) (.int .i64 W8) (.int .i64 H8) (.slice pa pn pc);have bb:=blk_set3 (x' := .int .i64 W8) (y' := .int .i64 H8) (z' := .slice pa pn pc) g7;exact hQo undef _ (hK.out _ _ ⟨bb,⟨grown_any g1 gg (fun q hq=>by cases hq;omega),g2.grE gg (fun q hq=>by cases hq;omega),g3.gr gg g7 (by decide) (by decide),blk_gr g4 gg (by simp;omega),blk_gr g5 gg (by simp;omega),⟨_,_,_,_,_,blk_gr g6 gg (by simp)⟩,_,_,_,bb⟩,hst _ (fun v hv=>blk_gr hv gg (by simp))⟩)
      intro xs wx hV hG;have d3:wx.heap[R]?=some (.cells #[.int .i64 cw,.int .i64 chh,.bool ci,.int .i64 cq,.slice ca cn cc] 41 (0,0)):=hV 3 (by decide);have d4:_=_:=hV 4 (by decide);have d5:wx.heap[R+1]?=some (.cells #[.int .i64 W8,.int .i64 H8,.slice pa pn pc] 43 (0,0)):=hV 5 (by decide);clear hV;simp only[patchS,Nat.reduceAdd,Nat.reduceEqDiff,↓reduceIte];generalize xs 0=y0,xs 1=y1,xs 2=y2,xs 3=y3,xs 4=y4,xs 5=y5 at *
      replace hG:w.grownBy wx (some b)∧RdP wx b (P+100000)∧LR wx w.heap.size a7 (k) (rotP k x)∧wx.heap[q7]?=some (.cells #[.int .i64 cw,.int .i64 chh,.bool ci,.int .i64 cq,.slice ca cn cc] 41 (0,0))∧wx.heap[q7+1]?=some (.cells #[.int .i64 W8,.int .i64 H8,.slice pa pn pc] 43 (0,0))∧(∃ x0 x1 x2 x3 x4:Value,wx.heap[R]?=some (.cells #[x0,x1,x2,x3,x4] 41 (0,0)))∧(∃ x0 x1 x2:Value,wx.heap[R+1]?=some (.cells #[x0,x1,x2] 43 (0,0))):=hG
      subst d4;go_wp2;refine bodyPost_ret (results_ctc_row rfl _ _ R (R+1) 41 43 _ _ (0,0) (0,0) _ _ rfl d3 Try.underlying41 rfl size_Coded rfl d5 Try.underlying43 rfl size_Picture) rfl ?_;exact⟨cw,chh,cq,ci,ca,cn,cc,W8,H8,pa,pn,pc,k,rotP k x,_,c7,rfl,by omega,hcF.1,hcF.2,hG.2.2.1,hG.2.1,hG.1⟩
     ·clear ya yb;have F1:=S9.gr;have F2:RdP wz b (P+100000):=S9.rd.mono (by omega);have F4:=S9.b3;have F5:=S9.b4;have F6:=S9.b1;have F7:=S9.b2;have hHoW:w.heap.size≤Ho:=Nat.le_trans S9.hH S9.hHo;have F3:=S9.qo.lr.low hHoW;have hcF:=owns_cap S9.qo.1;clear S9;go_upto_region 15 with fail
      refine wp_region_inv2 (by kernel_rfl) [(5,4),(74,0),(75,1),(76,2)] [[],[],[],[0],[0,1,3],[0,1,2,3,4]] (fun i own ys wx=>match i with|0=>own= .agg #[.int .i64 cw,.int .i64 chh,.bool ci,.int .i64 cq,.slice ca cn cc]|1=>own= .slice ao (k) co|2=>own= .agg #[.int .i64 W8,.int .i64 H8,.slice pa pn pc]|3=>wx.heap[R]?=some (.cells #[.int .i64 cw,.int .i64 chh,.bool ci,.int .i64 cq,.slice ca cn cc] 41 (0,0))|4=>own= .slice ao (k) co|5=>wx.heap[R+1]?=some (.cells #[.int .i64 W8,.int .i64 H8,.slice pa pn pc] 43 (0,0))|_=>True) (fun kx wx=>w.grownBy wx (some b)∧RdP wx b (P+100000)∧LR wx w.heap.size ao (k) (x)∧wx.heap[q7]?=some (.cells #[.int .i64 cw,.int .i64 chh,.bool ci,.int .i64 cq,.slice ca cn cc] 41 (0,0))∧wx.heap[q7+1]?=some (.cells #[.int .i64 W8,.int .i64 H8,.slice pa pn pc] 43 (0,0))∧(∃ x0 x1 x2 x3 x4:Value,wx.heap[R]?=some (.cells #[x0,x1,x2,x3,x4] 41 (0,0)))∧(∃ x0 x1 x2:Value,wx.heap[R+1]?=some (.cells #[x0,x1,x2] 43 (0,0)))) (by kernel_rfl) (by kernel_rfl) (by kernel_rfl) ?g0_r4 ?gop_r4 ?gend_r4
      case g0_r4=>exact⟨grown_drew F1,F2.drew,F3.ext (Ext.drewN _ 1),F4,F5,F6,F7⟩
      case gop_r4 =>
       refine⟨?o0,?o1,?o2,?o3,?o4,?o5,trivial⟩ <;> (intro kx xs wx hk hG hD hI Qo Kx hK hQo;simp only[patchS,Nat.reduceAdd,Nat.reduceEqDiff,↓reduceIte]at hQo⊢)
       case o0 =>
        clear hD hI;obtain⟨-,k0,k1,k2,k3,k4⟩:=bx5 hG.2.2.2.1;go_wp2;exact hK.out _ _ ⟨rfl,hG,kkp⟩
       case o1 =>
        clear hD hI;go_wp2;exact hK.out _ _ ⟨rfl,hG,kkp⟩
       case o2 =>
        clear hD hI;obtain⟨-,k0,k1,k2,-⟩:=bx3 hG.2.2.2.2.1;go_wp2;exact hK.out _ _ ⟨rfl,hG,kkp⟩
       case o3 =>
        rw[ddq (hD 0 rfl)]at hQo⊢;clear hD hI;obtain⟨g1,g2,g3,g4,g5,⟨x0,x1,x2,x3,x4,g6⟩,y0,y1,y2,g7⟩:=hG;obtain⟨-,k0,k1,k2,k3,k4⟩:=bx5 g6;obtain⟨f0,f1,f2,f3,f4⟩:=fz5 g6;go_wp2;have hst:∀(wy:World),(∀ v,wx.heap[R+1]?=some v→wy.heap[R+1]?=some v)→Stbn 6 3 [[],[],[],[0],[0,1,3],[0,1,2,3,4]] (fun i own ys wx=>match i with|0=>own= .agg #[.int .i64 cw,.int .i64 chh,.bool ci,.int .i64 cq,.slice ca cn cc]|1=>own= .slice ao (k) co|2=>own= .agg #[.int .i64 W8,.int .i64 H8,.slice pa pn pc]|3=>wx.heap[R]?=some (.cells #[.int .i64 cw,.int .i64 chh,.bool ci,.int .i64 cq,.slice ca cn cc] 41 (0,0))|4=>own= .slice ao (k) co|5=>wx.heap[R+1]?=some (.cells #[.int .i64 W8,.int .i64 H8,.slice pa pn pc] 43 (0,0))|_=>True) wx wy:=by
         intro wy hy ii hii hne hc own ys h
         match ii,h with
         | 0,h|1,h|2,h=>exact h
         | 3,h=>exact absurd rfl hne
         | 4,h|5,h=>exact absurd hc (by decide)
         | _+6,_=>trivial
        have gg:=gs5 wx R 0 1 2 3 4 (.int .i64 cw) (.int .i64 chh) (.bool ci) (.int .i64 cq) (.slice ca cn cc);have bb:=blk_set5 (y0 := .int .i64 cw) (y1 := .int .i64 chh) (y2 := .bool ci) (y3 := .int .i64 cq) (y4 := .slice ca cn cc) g6;exact hQo undef _ (hK.out _ _ ⟨bb,⟨grown_any g1 gg (fun q hq=>by cases hq;omega),g2.grE gg (fun q hq=>by cases hq;omega),g3.gr gg g6 (by decide) (by decide),blk_gr g4 gg (by simp;omega),blk_gr g5 gg (by simp;omega),⟨_,_,_,_,_,bb⟩,_,_,_,blk_gr g7 gg (by simp)⟩,hst _ (fun v hv=>blk_gr hv gg (by simp))⟩)
       case o4 =>
        rw[ddq (hD 1 rfl)]at hQo⊢;clear hD hI;go_wp2;exact hK.out _ _ ⟨rfl,hG,kkp⟩
       case o5 =>
        rw[ddq (hD 2 rfl)]at hQo⊢;clear hD hI;obtain⟨g1,g2,g3,g4,g5,⟨x0,x1,x2,x3,x4,g6⟩,y0,y1,y2,g7⟩:=hG;obtain⟨-,k0,k1,k2,f0,f1,f2⟩:=bx3 g7;go_wp2;have hst:∀(wy:World),(∀ v,wx.heap[R]?=some v→wy.heap[R]?=some v)→Stbn 6 5 [[],[],[],[0],[0,1,3],[0,1,2,3,4]] (fun i own ys wx=>match i with|0=>own= .agg #[.int .i64 cw,.int .i64 chh,.bool ci,.int .i64 cq,.slice ca cn cc]|1=>own= .slice ao (k) co|2=>own= .agg #[.int .i64 W8,.int .i64 H8,.slice pa pn pc]|3=>wx.heap[R]?=some (.cells #[.int .i64 cw,.int .i64 chh,.bool ci,.int .i64 cq,.slice ca cn cc] 41 (0,0))|4=>own= .slice ao (k) co|5=>wx.heap[R+1]?=some (.cells #[.int .i64 W8,.int .i64 H8,.slice pa pn pc] 43 (0,0))|_=>True) wx wy:=by
         intro wy hy ii hii hne hc own ys h
         match ii,h with
         | 0,h|1,h|2,h|4,h=>exact h
         | 3,h=>exact hy _ h
         | 5,h=>exact absurd rfl hne
         | _+6,_=>trivial
        have gg:=gs3 wx (R+1) (.int .i64 W8) (.int .i64 H8) (.slice pa pn pc);have bb:=blk_set3 (x' := .int .i64 W8) (y' := .int .i64 H8) (z' := .slice pa pn pc) g7;exact hQo undef _ (hK.out _ _ ⟨bb,⟨grown_any g1 gg (fun q hq=>by cases hq;omega),g2.grE gg (fun q hq=>by cases hq;omega),g3.gr gg g7 (by decide) (by decide),blk_gr g4 gg (by simp;omega),blk_gr g5 gg (by simp;omega),⟨_,_,_,_,_,blk_gr g6 gg (by simp)⟩,_,_,_,bb⟩,hst _ (fun v hv=>blk_gr hv gg (by simp))⟩)
      intro xs wx hV hG;have d3:wx.heap[R]?=some (.cells #[.int .i64 cw,.int .i64 chh,.bool ci,.int .i64 cq,.slice ca cn cc] 41 (0,0)):=hV 3 (by decide);have d4:_=_:=hV 4 (by decide);have d5:wx.heap[R+1]?=some (.cells #[.int .i64 W8,.int .i64 H8,.slice pa pn pc] 43 (0,0)):=hV 5 (by decide);clear hV;simp only[patchS,Nat.reduceAdd,Nat.reduceEqDiff,↓reduceIte];generalize xs 0=y0,xs 1=y1,xs 2=y2,xs 3=y3,xs 4=y4,xs 5=y5 at *
      replace hG:w.grownBy wx (some b)∧RdP wx b (P+100000)∧LR wx w.heap.size ao (k) (x)∧wx.heap[q7]?=some (.cells #[.int .i64 cw,.int .i64 chh,.bool ci,.int .i64 cq,.slice ca cn cc] 41 (0,0))∧wx.heap[q7+1]?=some (.cells #[.int .i64 W8,.int .i64 H8,.slice pa pn pc] 43 (0,0))∧(∃ x0 x1 x2 x3 x4:Value,wx.heap[R]?=some (.cells #[x0,x1,x2,x3,x4] 41 (0,0)))∧(∃ x0 x1 x2:Value,wx.heap[R+1]?=some (.cells #[x0,x1,x2] 43 (0,0))):=hG
      subst d4;go_wp2;refine bodyPost_ret (results_ctc_row rfl _ _ R (R+1) 41 43 _ _ (0,0) (0,0) _ _ rfl d3 Try.underlying41 rfl size_Coded rfl d5 Try.underlying43 rfl size_Picture) rfl ?_;exact⟨cw,chh,cq,ci,ca,cn,cc,W8,H8,pa,pn,pc,k,x,_,co,rfl,by omega,hcF.1,hcF.2,hG.2.2.1,hG.2.1,hG.1⟩
    ·have hd:decide (((k:Nat):Int)>1)=false:=by simp;omega
     obtain⟨wz,hwz⟩:∃ v,v=w3':=⟨_,rfl⟩;rw[←hwz]at S4⊢;clear hwz;have F1:=S4.gr;have F2:RdP wz b (P+100000):=S4.rd.mono (by omega);have F4:=S4.b3;have F5:=S4.b4;have F6:=S4.b1;have F7:=S4.b2;have hHoW:w.heap.size≤Ho:=Nat.le_trans S4.hH S4.hHo;have F3:=S4.qo.lr.low hHoW;have hcF:=owns_cap S4.qo.1;clear S4;go_upto_region 15 with fail
     refine wp_region_inv2 (by kernel_rfl) [(5,4),(74,0),(75,1),(76,2)] [[],[],[],[0],[0,1,3],[0,1,2,3,4]] (fun i own ys wx=>match i with|0=>own= .agg #[.int .i64 cw,.int .i64 chh,.bool ci,.int .i64 cq,.slice ca cn cc]|1=>own= .slice ao (k) co|2=>own= .agg #[.int .i64 W8,.int .i64 H8,.slice pa pn pc]|3=>wx.heap[R]?=some (.cells #[.int .i64 cw,.int .i64 chh,.bool ci,.int .i64 cq,.slice ca cn cc] 41 (0,0))|4=>own= .slice ao (k) co|5=>wx.heap[R+1]?=some (.cells #[.int .i64 W8,.int .i64 H8,.slice pa pn pc] 43 (0,0))|_=>True) (fun kx wx=>w.grownBy wx (some b)∧RdP wx b (P+100000)∧LR wx w.heap.size ao (k) (x)∧wx.heap[q7]?=some (.cells #[.int .i64 cw,.int .i64 chh,.bool ci,.int .i64 cq,.slice ca cn cc] 41 (0,0))∧wx.heap[q7+1]?=some (.cells #[.int .i64 W8,.int .i64 H8,.slice pa pn pc] 43 (0,0))∧(∃ x0 x1 x2 x3 x4:Value,wx.heap[R]?=some (.cells #[x0,x1,x2,x3,x4] 41 (0,0)))∧(∃ x0 x1 x2:Value,wx.heap[R+1]?=some (.cells #[x0,x1,x2] 43 (0,0)))) (by kernel_rfl) (by kernel_rfl) (by kernel_rfl) ?g0_r5 ?gop_r5 ?gend_r5
     case g0_r5=>exact⟨grown_drew F1,F2.drew,F3.ext (Ext.drewN _ 1),F4,F5,F6,F7⟩
     case gop_r5 =>
      refine⟨?o0,?o1,?o2,?o3,?o4,?o5,trivial⟩ <;> (intro kx xs wx hk hG hD hI Qo Kx hK hQo;simp only[patchS,Nat.reduceAdd,Nat.reduceEqDiff,↓reduceIte]at hQo⊢)
      case o0 =>
       clear hD hI;obtain⟨-,k0,k1,k2,k3,k4⟩:=bx5 hG.2.2.2.1;go_wp2;exact hK.out _ _ ⟨rfl,hG,kkp⟩
      case o1 =>
       clear hD hI;go_wp2;exact hK.out _ _ ⟨rfl,hG,kkp⟩
      case o2 =>
       clear hD hI;obtain⟨-,k0,k1,k2,-⟩:=bx3 hG.2.2.2.2.1;go_wp2;exact hK.out _ _ ⟨rfl,hG,kkp⟩
      case o3 =>
       rw[ddq (hD 0 rfl)]at hQo⊢;clear hD hI;obtain⟨g1,g2,g3,g4,g5,⟨x0,x1,x2,x3,x4,g6⟩,y0,y1,y2,g7⟩:=hG;obtain⟨-,k0,k1,k2,k3,k4⟩:=bx5 g6;obtain⟨f0,f1,f2,f3,f4⟩:=fz5 g6;go_wp2;have hst:∀(wy:World),(∀ v,wx.heap[R+1]?=some v→wy.heap[R+1]?=some v)→Stbn 6 3 [[],[],[],[0],[0,1,3],[0,1,2,3,4]] (fun i own ys wx=>match i with|0=>own= .agg #[.int .i64 cw,.int .i64 chh,.bool ci,.int .i64 cq,.slice ca cn cc]|1=>own= .slice ao (k) co|2=>own= .agg #[.int .i64 W8,.int .i64 H8,.slice pa pn pc]|3=>wx.heap[R]?=some (.cells #[.int .i64 cw,.int .i64 chh,.bool ci,.int .i64 cq,.slice ca cn cc] 41 (0,0))|4=>own= .slice ao (k) co|5=>wx.heap[R+1]?=some (.cells #[.int .i64 W8,.int .i64 H8,.slice pa pn pc] 43 (0,0))|_=>True) wx wy:=by
        intro wy hy ii hii hne hc own ys h
        match ii,h with
        | 0,h|1,h|2,h=>exact h
        | 3,h=>exact absurd rfl hne
        | 4,h|5,h=>exact absurd hc (by decide)
        | _+6,_=>trivial
       have gg:=gs5 wx R 0 1 2 3 4 (.int .i64 cw) (.int .i64 chh) (.bool ci) (.int .i64 cq) (.slice ca cn cc);have bb:=blk_set5 (y0 := .int .i64 cw) (y1 := .int .i64 chh) (y2 := .bool ci) (y3 := .int .i64 cq) (y4 := .slice ca cn cc) g6;exact hQo undef _ (hK.out _ _ ⟨bb,⟨grown_any g1 gg (fun q hq=>by cases hq;omega),g2.grE gg (fun q hq=>by cases hq;omega),g3.gr gg g6 (by decide) (by decide),blk_gr g4 gg (by simp;omega),blk_gr g5 gg (by simp;omega),⟨_,_,_,_,_,bb⟩,_,_,_,blk_gr g7 gg (by simp)⟩,hst _ (fun v hv=>blk_gr hv gg (by simp))⟩)
      case o4 =>
       rw[ddq (hD 1 rfl)]at hQo⊢;clear hD hI;go_wp2;exact hK.out _ _ ⟨rfl,hG,kkp⟩
      case o5 =>
       rw[ddq (hD 2 rfl)]at hQo⊢;clear hD hI;obtain⟨g1,g2,g3,g4,g5,⟨x0,x1,x2,x3,x4,g6⟩,y0,y1,y2,g7⟩:=hG;obtain⟨-,k0,k1,k2,f0,f1,f2⟩:=bx3 g7;go_wp2;have hst:∀(wy:World),(∀ v,wx.heap[R]?=some v→wy.heap[R]?=some v)→Stbn 6 5 [[],[],[],[0],[0,1,3],[0,1,2,3,4]] (fun i own ys wx=>match i with|0=>own= .agg #[.int .i64 cw,.int .i64 chh,.bool ci,.int .i64 cq,.slice ca cn cc]|1=>own= .slice ao (k) co|2=>own= .agg #[.int .i64 W8,.int .i64 H8,.slice pa pn pc]|3=>wx.heap[R]?=some (.cells #[.int .i64 cw,.int .i64 chh,.bool ci,.int .i64 cq,.slice ca cn cc] 41 (0,0))|4=>own= .slice ao (k) co|5=>wx.heap[R+1]?=some (.cells #[.int .i64 W8,.int .i64 H8,.slice pa pn pc] 43 (0,0))|_=>True) wx wy:=by
        intro wy hy ii hii hne hc own ys h
        match ii,h with
        | 0,h|1,h|2,h|4,h=>exact h
        | 3,h=>exact hy _ h
        | 5,h=>exact absurd rfl hne
        | _+6,_=>trivial
       have gg:=gs3 wx (R+1) (.int .i64 W8) (.int .i64 H8) (.slice pa pn pc);have bb:=blk_set3 (x' := .int .i64 W8) (y' := .int .i64 H8) (z' := .slice pa pn pc) g7;exact hQo undef _ (hK.out _ _ ⟨bb,⟨grown_any g1 gg (fun q hq=>by cases hq;omega),g2.grE gg (fun q hq=>by cases hq;omega),g3.gr gg g7 (by decide) (by decide),blk_gr g4 gg (by simp;omega),blk_gr g5 gg (by simp;omega),⟨_,_,_,_,_,blk_gr g6 gg (by simp)⟩,_,_,_,bb⟩,hst _ (fun v hv=>blk_gr hv gg (by simp))⟩)
     intro xs wx hV hG;have d3:wx.heap[R]?=some (.cells #[.int .i64 cw,.int .i64 chh,.bool ci,.int .i64 cq,.slice ca cn cc] 41 (0,0)):=hV 3 (by decide);have d4:_=_:=hV 4 (by decide);have d5:wx.heap[R+1]?=some (.cells #[.int .i64 W8,.int .i64 H8,.slice pa pn pc] 43 (0,0)):=hV 5 (by decide);clear hV;simp only[patchS,Nat.reduceAdd,Nat.reduceEqDiff,↓reduceIte];generalize xs 0=y0,xs 1=y1,xs 2=y2,xs 3=y3,xs 4=y4,xs 5=y5 at *
     replace hG:w.grownBy wx (some b)∧RdP wx b (P+100000)∧LR wx w.heap.size ao (k) (x)∧wx.heap[q7]?=some (.cells #[.int .i64 cw,.int .i64 chh,.bool ci,.int .i64 cq,.slice ca cn cc] 41 (0,0))∧wx.heap[q7+1]?=some (.cells #[.int .i64 W8,.int .i64 H8,.slice pa pn pc] 43 (0,0))∧(∃ x0 x1 x2 x3 x4:Value,wx.heap[R]?=some (.cells #[x0,x1,x2,x3,x4] 41 (0,0)))∧(∃ x0 x1 x2:Value,wx.heap[R+1]?=some (.cells #[x0,x1,x2] 43 (0,0))):=hG
     subst d4;go_wp2;refine bodyPost_ret (results_ctc_row rfl _ _ R (R+1) 41 43 _ _ (0,0) (0,0) _ _ rfl d3 Try.underlying41 rfl size_Coded rfl d5 Try.underlying43 rfl size_Picture) rfl ?_;exact⟨cw,chh,cq,ci,ca,cn,cc,W8,H8,pa,pn,pc,k,x,_,co,rfl,by omega,hcF.1,hcF.2,hG.2.2.1,hG.2.1,hG.1⟩
   ·go_wp2_with fail
    refine(l20Packet_b b _ 3 _ S3.rd (by omega) (by omega) (by omega)).mono ?_
    rintro e w7 ⟨y,pa2,pc2,rfl,po,pl,pb,pkb7,-,r7,g7⟩
    have S7:=S3.draw r7 g7;have hbb:=BA.of_own po;have HBB:=Lib.hid hbb;have HSS:=Lib.hid (show pkS y from ⟨pkb7,by omega,pb⟩);have o7:=S7.qo.1;have hs7:=S7.hs;have HS:=Lib.hid S7;clear S3 r7 g7 hbb S7 po pl pb pkb7;go_wp2_with (at_builtin;refine wpList_app6 _ o7 hs7 _ _ _ _ _ _ rfl _ _ 23 rfl (.agg #[.int .i64 0,.int .i64 0,.int .i64 0,.int .i64 0,.bool false,.slice none 0 0]) 64 Try.underlying23 info_Packet rfl rfl rfl (by intro u hu;simp at hu;rcases hu with rfl|rfl|rfl|rfl|rfl|rfl <;> rfl) (by omega) (by omega) ?_;intro v8 w8 own8 gr8;refine Hid.out ?_)
    have S8:=HS.out.app own8 gr8 HBB.out HSS.out;obtain⟨xN,hxN⟩:∃ z,z=fk x k y:=⟨_,rfl⟩;rw[←hxN]at S8;clear own8 gr8 o7 hs7 HS HBB HSS hxN;generalize cs++_=csN at *;obtain⟨K,hK⟩:∃ K,K=k+1:=⟨_,rfl⟩;rw[←hK]at S8;obtain⟨ao8,co8,hao8⟩:=owns_form S8.qo.1;rw[hao8]at S8⊢;have hK2:K≤20001:=by omega
    clear hK hao8 x cs
    rename_i x_ cs_
    refine Lib.hid ?_;have hkN:K≤20001:=by omega
    by_cases h1:1<K
    ·have hd:decide (((K:Nat):Int)>1)=true:=by simp;omega
     go_wp2_with fail
     refine(pick_c b _ 2 _ S8.rd (by omega) (by omega) (by omega)).mono ?_
     rintro e wz ⟨y,rfl,ya,yb,r9,g9⟩
     have S9:=S8.draw r9 g9;clear S8 r9 g9;obtain rfl|rfl:y=0∨y=1:=by omega
     ·clear ya yb;have F1:=S9.gr;have F2:RdP wz b (P+100000):=S9.rd.mono (by omega);have F4:=S9.b3;have F5:=S9.b4;have F6:=S9.b1;have F7:=S9.b2;have hQ:=S9.qo;have hHoW:w.heap.size≤Ho:=Nat.le_trans S9.hH S9.hHo;clear S9;obtain⟨g,a2,c2,he,hgo,hgb,⟨m0,m1,m2,m3,m4,m5⟩,ht6⟩:=hQ.head (by omega);cases he;obtain⟨arr,hgb⟩:=hgb;have hgz:=lt_of_block hgb;have HT:=Lib.hid ht6;have HQ:=Lib.hid hQ;have hcap:=owns_cap hQ.1;have hcl:csN.length=K*6:=hQ.1.1;obtain⟨i0,hi0,hz0,hz1,hz2⟩:=info_parts info_Packet;have HI0:=Lib.hid (⟨hi0,hz0,hz1,hz2⟩:_∧_∧_∧_);clear hQ ht6 hi0 hz0 hz1 hz2;go_upto_region 14 with fail
      have hext:Stab (fun wa wb=>Ext wa wb) (fun i own ys wx=>match i with|0=>own= .slice (some ⟨g,0,none⟩) K co8|1=>own= .slice (some ⟨g,6,none⟩) (K-1) (co8-1)|2=>own= .slice (some ⟨g,0,none⟩) K co8|3=>own= .pointer (some ⟨g,0,none⟩)|4=>own= .agg #[.int .i64 (xN 0).num,.int .i64 (xN 0).fr,.int .i64 (xN 0).row,.int .i64 (xN 0).part,.bool (xN 0).last,.slice a2 (xN 0).data.length c2]|5=>∃ q:Nat,own= .slice (some ⟨q,0,none⟩) 1 1∧wz.heap.size≤q∧wx.heap[q]?=some (.cells #[.int .i64 (xN 0).num,.int .i64 (xN 0).fr,.int .i64 (xN 0).row,.int .i64 (xN 0).part,.bool (xN 0).last,.slice a2 (xN 0).data.length c2] 32 (0,0))|6=>∃(a:Option Addr) (c:Nat),own= .slice a K c∧K≤c∧c≤maxLen∧LR wx w.heap.size a K (rotP K xN)|7=>∃(a:Option Addr) (c:Nat),own= .slice a K c∧K≤c∧c≤maxLen∧LR wx w.heap.size a K (rotP K xN)|_=>True):=by
       intro i own ys wa wb e h
       match i,h with
       | 0,h|1,h|2,h|3,h|4,h=>exact h
       | 5,h=>obtain⟨q,h1,h2,h3⟩:=h;exact⟨q,h1,h2,e.blk h3⟩
       | 6,h|7,h=>obtain⟨a,c,h1,h2,h3,h4⟩:=h;exact⟨a,c,h1,h2,h3,h4.ext e⟩
       | _+8,_=>trivial
      have Hext:=Lib.hid hext;clear hext;refine wp_region_invL (by kernel_rfl) [(10,7),(67,0),(68,1),(69,2),(70,3),(71,4),(72,5),(73,6)] [[],[0],[],[2],[2,3],[2,3,4],[0,1,2,3,4,5],[0,1,2,3,4,5,6]] (fun i own ys wx=>match i with|0=>own= .slice (some ⟨g,0,none⟩) K co8|1=>own= .slice (some ⟨g,6,none⟩) (K-1) (co8-1)|2=>own= .slice (some ⟨g,0,none⟩) K co8|3=>own= .pointer (some ⟨g,0,none⟩)|4=>own= .agg #[.int .i64 (xN 0).num,.int .i64 (xN 0).fr,.int .i64 (xN 0).row,.int .i64 (xN 0).part,.bool (xN 0).last,.slice a2 (xN 0).data.length c2]|5=>∃ q:Nat,own= .slice (some ⟨q,0,none⟩) 1 1∧wz.heap.size≤q∧wx.heap[q]?=some (.cells #[.int .i64 (xN 0).num,.int .i64 (xN 0).fr,.int .i64 (xN 0).row,.int .i64 (xN 0).part,.bool (xN 0).last,.slice a2 (xN 0).data.length c2] 32 (0,0))|6=>∃(a:Option Addr) (c:Nat),own= .slice a K c∧K≤c∧c≤maxLen∧LR wx w.heap.size a K (rotP K xN)|7=>∃(a:Option Addr) (c:Nat),own= .slice a K c∧K≤c∧c≤maxLen∧LR wx w.heap.size a K (rotP K xN)|_=>True) (fun Lx wx=>w.grownBy wx (some b)∧RdP wx b (P+100000)∧wx.heap[q7]?=some (.cells #[.int .i64 cw,.int .i64 chh,.bool ci,.int .i64 cq,.slice ca cn cc] 41 (0,0))∧wx.heap[q7+1]?=some (.cells #[.int .i64 W8,.int .i64 H8,.slice pa pn pc] 43 (0,0))∧(∃ x0 x1 x2 x3 x4:Value,wx.heap[R]?=some (.cells #[x0,x1,x2,x3,x4] 41 (0,0)))∧(∃ x0 x1 x2:Value,wx.heap[R+1]?=some (.cells #[x0,x1,x2] 43 (0,0)))∧(Lx 6=false→Ext wz wx)) (by kernel_rfl) (by kernel_rfl) (by kernel_rfl) ?g0_r6 ?gop_r6 ?gend_r6
      case g0_r6=>exact⟨grown_drew F1,F2.drew,F4,F5,F6,F7,fun _=>Ext.drewN _ 1⟩
      case gop_r6 =>
       refine⟨?_,?o1,?_,?o3,?o4,?o5,?o6,?o7,trivial⟩ <;> (intro Lx xs wx hG hl ha hb hD hI Qo Kx hK hQo;simp only[patchS,Nat.reduceAdd,Nat.reduceEqDiff,↓reduceIte]at hQo⊢)
       case o1 =>
        clear hl ha hb;rw[ddq (hD 0 rfl)]at hQo⊢;clear hD hI;go_wp2;exact hK.out _ _ ⟨rfl,hG,kkp⟩
       case o3 =>
        clear hl ha hb;rw[ddq (hD 2 rfl)]at hQo⊢;clear hD hI;go_wp2;exact hK.out _ _ ⟨rfl,hG,kkp⟩
       case o4 =>
        have l6:Lx 6=false:=hb 6 rfl;clear hl ha hb;rw[ddq (hD 3 rfl)]at hQo⊢;clear hD hI;have ez:=hG.2.2.2.2.2.2 l6;have k0:=cell_ext ez m0;have k1:=cell_ext ez m1;have k2:=cell_ext ez m2;have k3:=cell_ext ez m3;have k4:=cell_ext ez m4;have k5:=cell_ext ez m5;go_wp2;exact hK.out _ _ ⟨rfl,hG,kkp⟩
       case o5 =>
        have l6:Lx 6=false:=hb 6 rfl;clear hl ha hb;rw[ddq (hD 4 rfl)]at hQo⊢;clear hD hI;have ea:=Ext.alloc wx (.cells #[.int .i64 (xN 0).num,.int .i64 (xN 0).fr,.int .i64 (xN 0).row,.int .i64 (xN 0).part,.bool (xN 0).last,.slice a2 (xN 0).data.length c2] 32);have hez:=hG.2.2.2.2.2.2 l6;go_wp2;exact hK.out _ _ ⟨⟨_,rfl,hez.size,blk_new wx _⟩,⟨grown_ext hG.1 ea,hG.2.1.ext ea,ea.blk hG.2.2.1,ea.blk hG.2.2.2.1,(by obtain⟨x0,x1,x2,x3,x4,hx⟩:=hG.2.2.2.2.1;exact⟨_,_,_,_,_,ea.blk hx⟩),(by obtain⟨x0,x1,x2,hx⟩:=hG.2.2.2.2.2.1;exact⟨_,_,_,ea.blk hx⟩),fun _=>hez.trans ea⟩,fun i _ _ _ own ys h=>Hext.out i own ys _ _ ea h⟩
       case o6 =>
        have l6:Lx 6=false:=hl;clear hl ha hb;rw[ddq (hD 1 rfl)]at hQo⊢;have d5:∃ q:Nat,(xs 5) = .slice (some ⟨q,0,none⟩) 1 1∧wz.heap.size≤q∧wx.heap[q]?=some (.cells #[.int .i64 (xN 0).num,.int .i64 (xN 0).fr,.int .i64 (xN 0).row,.int .i64 (xN 0).part,.bool (xN 0).last,.slice a2 (xN 0).data.length c2] 32 (0,0)):=hD 5 rfl;clear hD hI;generalize xs 5=y5 at *;obtain⟨q5,rfl,hq5,hc5⟩:=d5
        skip
        have hst:∀(wy:World),(wx.grownBy wy (some g))→Stbn 8 6 [[],[0],[],[2],[2,3],[2,3,4],[0,1,2,3,4,5],[0,1,2,3,4,5,6]] (fun i own ys wx=>match i with|0=>own= .slice (some ⟨g,0,none⟩) K co8|1=>own= .slice (some ⟨g,6,none⟩) (K-1) (co8-1)|2=>own= .slice (some ⟨g,0,none⟩) K co8|3=>own= .pointer (some ⟨g,0,none⟩)|4=>own= .agg #[.int .i64 (xN 0).num,.int .i64 (xN 0).fr,.int .i64 (xN 0).row,.int .i64 (xN 0).part,.bool (xN 0).last,.slice a2 (xN 0).data.length c2]|5=>∃ q:Nat,own= .slice (some ⟨q,0,none⟩) 1 1∧wz.heap.size≤q∧wx.heap[q]?=some (.cells #[.int .i64 (xN 0).num,.int .i64 (xN 0).fr,.int .i64 (xN 0).row,.int .i64 (xN 0).part,.bool (xN 0).last,.slice a2 (xN 0).data.length c2] 32 (0,0))|6=>∃(a:Option Addr) (c:Nat),own= .slice a K c∧K≤c∧c≤maxLen∧LR wx w.heap.size a K (rotP K xN)|7=>∃(a:Option Addr) (c:Nat),own= .slice a K c∧K≤c∧c≤maxLen∧LR wx w.heap.size a K (rotP K xN)|_=>True) wx wy:=by
         intro wy hy ii hii hne hc own ys h
         match ii,h with
         | 0,h|1,h|2,h|3,h|4,h=>exact h
         | 5,h=>obtain⟨q,h1,h2,h3⟩:=h;exact⟨q,h1,h2,blk_gr h3 hy (by simp;omega)⟩
         | 6,h=>exact absurd rfl hne
         | 7,h=>exact absurd hc (by decide)
         | _+8,_=>trivial
        obtain⟨hi0,hz0,hz1,hz2⟩:=HI0.out;have ez:=hG.2.2.2.2.2.2 l6;have hQx:=HQ.out.ext ez;have hgx:=ez.blk hgb;have hdl:(csN.drop 6).length=(K-1)*6:=by rw[List.length_drop,hcl];omega
        refine wpList_append_arg _ rfl _ _ 23 rfl 32 i0 (.agg #[.int .i64 0,.int .i64 0,.int .i64 0,.int .i64 0,.bool false,.slice none 0 0]) 6 64 Try.underlying23 hi0 hz0 hz1 hz2 rfl (by decide) g 6 (K-1) (co8-1) (csN.drop 6) rfl hdl ?_ ⟨q5,0,none⟩ 1 1 (csN.take 6) rfl (by rw[HT.out];rfl) ?_ ?_ ?_ (by unfold maxLen;omega) (by omega) (fun hr => ?_) (fun hr v' w' o' g' => ?_)
        ·intro q u hu;have hq:q<(K-1)*6:=by have:=(List.getElem?_eq_some_iff.1 hu).1;omega
         rw[List.getElem?_drop]at hu;rw[hQx.1.cellAt _ (by omega)];exact hu
        ·rw[HT.out];obtain⟨z,z0,z1,z2,z3,z4,z5⟩:=bx6 hc5;intro q u hu;rw[Addr.add_lit,Nat.zero_add]
         match q,hu with
         | 0,hu=>simp at hu;rw[z0,hu]
         | 1,hu=>simp at hu;rw[z1,hu]
         | 2,hu=>simp at hu;rw[z2,hu]
         | 3,hu=>simp at hu;rw[z3,hu]
         | 4,hu=>simp at hu;rw[z4,hu]
         | 5,hu=>simp at hu;rw[z5,hu]
         | q+6,hu=>simp at hu
        ·rw[HT.out];intro u hu;simp at hu;rcases hu with rfl|rfl|rfl|rfl|rfl|rfl <;> rfl
        ·intro hr q hq;exact(rot_room hQx (by omega) (by omega)).1 q (by rw[HT.out]at hq;simpa using hq)
        ·have hlr:=(rot_room hQx (by omega) (by omega)).2.low hHoW;have gg:=gr_setCells (g:=g) (csN.take 6) (6+(K-1)*6) wx;generalize wx.setCells g (6+(K-1)*6) (csN.take 6)=wn at *;obtain⟨g1,g2,g3,g4,⟨x0,x1,x2,x3,x4,g5⟩,⟨y0,y1,y2,g6⟩,-⟩:=hG;exact hQo _ _ (hK.out _ _ ⟨⟨_,_,(show _=Value.slice (some ⟨g,6,none⟩) K (co8-1) by congr 1;omega),by omega,by have:=hcap.2;unfold maxLen at *;omega,hlr⟩,⟨grown_any g1 gg (fun q hq=>by cases hq;omega),g2.grE gg (fun q hq=>by cases hq;omega),blk_gr g3 gg (ne_ty g3 hgx (by decide)),blk_gr g4 gg (ne_ty g4 hgx (by decide)),⟨_,_,_,_,_,blk_gr g5 gg (ne_ty g5 hgx (by decide))⟩,⟨_,_,_,blk_gr g6 gg (ne_ty g6 hgx (by decide))⟩,fun h=>by cases h⟩,hst _ gg⟩)
        ·have eN:Ext wx w':=ext_none g' rfl;have hP:=rot_grow hQx (by omega) eN o';obtain⟨an,cn',rfl⟩:=owns_form hP.1;have hcn:=owns_cap hP.1;obtain⟨g1,g2,g3,g4,⟨x0,x1,x2,x3,x4,g5⟩,⟨y0,y1,y2,g6⟩,-⟩:=hG;exact hQo _ _ (hK.out _ _ ⟨⟨_,_,rfl,hcn.1,hcn.2,hP.lr.low (by have:=ez.size;omega)⟩,⟨grown_ext g1 eN,g2.ext eN,eN.blk g3,eN.blk g4,⟨_,_,_,_,_,eN.blk g5⟩,⟨_,_,_,eN.blk g6⟩,fun h=>by cases h⟩,hst _ (gr_none_some g')⟩)
       case o7 =>
        clear hl ha hb;have d6:∃(a:Option Addr) (c:Nat),(xs 6) = .slice a K c∧K≤c∧c≤maxLen∧LR wx w.heap.size a K (rotP K xN):=hD 6 rfl;clear hD hI;generalize xs 6=y6 at *;obtain⟨a6,c6,rfl,hc6a,hc6b,hl6⟩:=d6;go_wp2;exact hK.out _ _ ⟨⟨a6,c6,rfl,hc6a,hc6b,hl6⟩,hG,kkp⟩
       all_goals
        clear hl ha hb;have i7:=hI 7 10 rfl rfl;simp only[List.getD_cons_succ,List.getD_cons_zero]at i7;clear hD hI;rw[i7]at hQo⊢;clear i7;go_wp2;exact hK.out _ _ ⟨rfl,hG,kkp⟩
      clear Hext;intro xs wx hV hG0;obtain⟨Lx,hL,hG⟩:=hG0;have l6:Lx 6=true:=hL 6 (by decide);clear hL;have d7:∃(a:Option Addr) (c:Nat),(xs 7) = .slice a K c∧K≤c∧c≤maxLen∧LR wx w.heap.size a K (rotP K xN):=hV 7 (by decide);clear hV;simp only[patchS,Nat.reduceAdd,Nat.reduceEqDiff,↓reduceIte];generalize xs 0=y0,xs 1=y1,xs 2=y2,xs 3=y3,xs 4=y4,xs 5=y5,xs 6=y6,xs 7=y7 at *
      replace hG:w.grownBy wx (some b)∧RdP wx b (P+100000)∧wx.heap[q7]?=some (.cells #[.int .i64 cw,.int .i64 chh,.bool ci,.int .i64 cq,.slice ca cn cc] 41 (0,0))∧wx.heap[q7+1]?=some (.cells #[.int .i64 W8,.int .i64 H8,.slice pa pn pc] 43 (0,0))∧(∃ x0 x1 x2 x3 x4:Value,wx.heap[R]?=some (.cells #[x0,x1,x2,x3,x4] 41 (0,0)))∧(∃ x0 x1 x2:Value,wx.heap[R+1]?=some (.cells #[x0,x1,x2] 43 (0,0)))∧(Lx 6=false→Ext wz wx):=hG
      obtain⟨a7,c7,rfl,hc7a,hc7b,hl7⟩:=d7;have hcF:K≤c7∧c7≤maxLen:=⟨hc7a,hc7b⟩;clear F1 F2 F4 F5 F6 F7 m0 m1 m2 m3 m4 m5 hgb;obtain⟨F1,F2,F4,F5,F6,F7,-⟩:=hG;have F3:=hl7;go_upto_region 15 with fail
      refine wp_region_inv2 (by kernel_rfl) [(5,4),(74,0),(75,1),(76,2)] [[],[],[],[0],[0,1,3],[0,1,2,3,4]] (fun i own ys wx=>match i with|0=>own= .agg #[.int .i64 cw,.int .i64 chh,.bool ci,.int .i64 cq,.slice ca cn cc]|1=>own= .slice a7 (K) c7|2=>own= .agg #[.int .i64 W8,.int .i64 H8,.slice pa pn pc]|3=>wx.heap[R]?=some (.cells #[.int .i64 cw,.int .i64 chh,.bool ci,.int .i64 cq,.slice ca cn cc] 41 (0,0))|4=>own= .slice a7 (K) c7|5=>wx.heap[R+1]?=some (.cells #[.int .i64 W8,.int .i64 H8,.slice pa pn pc] 43 (0,0))|_=>True) (fun kx wx=>w.grownBy wx (some b)∧RdP wx b (P+100000)∧LR wx w.heap.size a7 (K) (rotP K xN)∧wx.heap[q7]?=some (.cells #[.int .i64 cw,.int .i64 chh,.bool ci,.int .i64 cq,.slice ca cn cc] 41 (0,0))∧wx.heap[q7+1]?=some (.cells #[.int .i64 W8,.int .i64 H8,.slice pa pn pc] 43 (0,0))∧(∃ x0 x1 x2 x3 x4:Value,wx.heap[R]?=some (.cells #[x0,x1,x2,x3,x4] 41 (0,0)))∧(∃ x0 x1 x2:Value,wx.heap[R+1]?=some (.cells #[x0,x1,x2] 43 (0,0)))) (by kernel_rfl) (by kernel_rfl) (by kernel_rfl) ?g0_r7 ?gop_r7 ?gend_r7
      case g0_r7=>exact⟨grown_drew F1,F2.drew,F3.ext (Ext.drewN _ 1),F4,F5,F6,F7⟩
      case gop_r7 =>
       refine⟨?o0,?o1,?o2,?o3,?o4,?o5,trivial⟩ <;> (intro kx xs wx hk hG hD hI Qo Kx hK hQo;simp only[patchS,Nat.reduceAdd,Nat.reduceEqDiff,↓reduceIte]at hQo⊢)
       case o0 =>
        clear hD hI;obtain⟨-,k0,k1,k2,k3,k4⟩:=bx5 hG.2.2.2.1;go_wp2;exact hK.out _ _ ⟨rfl,hG,kkp⟩
       case o1 =>
        clear hD hI;go_wp2;exact hK.out _ _ ⟨rfl,hG,kkp⟩
       case o2 =>
        clear hD hI;obtain⟨-,k0,k1,k2,-⟩:=bx3 hG.2.2.2.2.1;go_wp2;exact hK.out _ _ ⟨rfl,hG,kkp⟩
       case o3 =>
        rw[ddq (hD 0 rfl)]at hQo⊢;clear hD hI;obtain⟨g1,g2,g3,g4,g5,⟨x0,x1,x2,x3,x4,g6⟩,y0,y1,y2,g7⟩:=hG;obtain⟨-,k0,k1,k2,k3,k4⟩:=bx5 g6;obtain⟨f0,f1,f2,f3,f4⟩:=fz5 g6;go_wp2;have hst:∀(wy:World),(∀ v,wx.heap[R+1]?=some v→wy.heap[R+1]?=some v)→Stbn 6 3 [[],[],[],[0],[0,1,3],[0,1,2,3,4]] (fun i own ys wx=>match i with|0=>own= .agg #[.int .i64 cw,.int .i64 chh,.bool ci,.int .i64 cq,.slice ca cn cc]|1=>own= .slice a7 (K) c7|2=>own= .agg #[.int .i64 W8,.int .i64 H8,.slice pa pn pc]|3=>wx.heap[R]?=some (.cells #[.int .i64 cw,.int .i64 chh,.bool ci,.int .i64 cq,.slice ca cn cc] 41 (0,0))|4=>own= .slice a7 (K) c7|5=>wx.heap[R+1]?=some (.cells #[.int .i64 W8,.int .i64 H8,.slice pa pn pc] 43 (0,0))|_=>True) wx wy:=by
         intro wy hy ii hii hne hc own ys h
         match ii,h with
         | 0,h|1,h|2,h=>exact h
         | 3,h=>exact absurd rfl hne
         | 4,h|5,h=>exact absurd hc (by decide)
         | _+6,_=>trivial
        have gg:=gs5 wx R 0 1 2 3 4 (.int .i64 cw) (.int .i64 chh) (.bool ci) (.int .i64 cq) (.slice ca cn cc);have bb:=blk_set5 (y0 := .int .i64 cw) (y1 := .int .i64 chh) (y2 := .bool ci) (y3 := .int .i64 cq) (y4 := .slice ca cn cc) g6;exact hQo undef _ (hK.out _ _ ⟨bb,⟨grown_any g1 gg (fun q hq=>by cases hq;omega),g2.grE gg (fun q hq=>by cases hq;omega),g3.gr gg g6 (by decide) (by decide),blk_gr g4 gg (by simp;omega),blk_gr g5 gg (by simp;omega),⟨_,_,_,_,_,bb⟩,_,_,_,blk_gr g7 gg (by simp)⟩,hst _ (fun v hv=>blk_gr hv gg (by simp))⟩)
       case o4 =>
        rw[ddq (hD 1 rfl)]at hQo⊢;clear hD hI;go_wp2;exact hK.out _ _ ⟨rfl,hG,kkp⟩
       case o5 =>
        rw[ddq (hD 2 rfl)]at hQo⊢;clear hD hI;obtain⟨g1,g2,g3,g4,g5,⟨x0,x1,x2,x3,x4,g6⟩,y0,y1,y2,g7⟩:=hG;obtain⟨-,k0,k1,k2,f0,f1,f2⟩:=bx3 g7;go_wp2;have hst:∀(wy:World),(∀ v,wx.heap[R]?=some v→wy.heap[R]?=some v)→Stbn 6 5 [[],[],[],[0],[0,1,3],[0,1,2,3,4]] (fun i own ys wx=>match i with|0=>own= .agg #[.int .i64 cw,.int .i64 chh,.bool ci,.int .i64 cq,.slice ca cn cc]|1=>own= .slice a7 (K) c7|2=>own= .agg #[.int .i64 W8,.int .i64 H8,.slice pa pn pc]|3=>wx.heap[R]?=some (.cells #[.int .i64 cw,.int .i64 chh,.bool ci,.int .i64 cq,.slice ca cn cc] 41 (0,0))|4=>own= .slice a7 (K) c7|5=>wx.heap[R+1]?=some (.cells #[.int .i64 W8,.int .i64 H8,.slice pa pn pc] 43 (0,0))|_=>True) wx wy:=by
         intro wy hy ii hii hne hc own ys h
         match ii,h with
         | 0,h|1,h|2,h|4,h=>exact h
         | 3,h=>exact hy _ h
         | 5,h=>exact absurd rfl hne
         | _+6,_=>trivial
        have gg:=gs3 wx (R+1) (.int .i64 W8) (.int .i64 H8) (.slice pa pn pc);have bb:=blk_set3 (x' := .int .i64 W8) (y' := .int .i64 H8) (z' := .slice pa pn pc) g7;exact hQo undef _ (hK.out _ _ ⟨bb,⟨grown_any g1 gg (fun q hq=>by cases hq;omega),g2.grE gg (fun q hq=>by cases hq;omega),g3.gr gg g7 (by decide) (by decide),blk_gr g4 gg (by simp;omega),blk_gr g5 gg (by simp;omega),⟨_,_,_,_,_,blk_gr g6 gg (by simp)⟩,_,_,_,bb⟩,hst _ (fun v hv=>blk_gr hv gg (by simp))⟩)
      intro xs wx hV hG;have d3:wx.heap[R]?=some (.cells #[.int .i64 cw,.int .i64 chh,.bool ci,.int .i64 cq,.slice ca cn cc] 41 (0,0)):=hV 3 (by decide);have d4:_=_:=hV 4 (by decide);have d5:wx.heap[R+1]?=some (.cells #[.int .i64 W8,.int .i64 H8,.slice pa pn pc] 43 (0,0)):=hV 5 (by decide);clear hV;simp only[patchS,Nat.reduceAdd,Nat.reduceEqDiff,↓reduceIte];generalize xs 0=y0,xs 1=y1,xs 2=y2,xs 3=y3,xs 4=y4,xs 5=y5 at *
      replace hG:w.grownBy wx (some b)∧RdP wx b (P+100000)∧LR wx w.heap.size a7 (K) (rotP K xN)∧wx.heap[q7]?=some (.cells #[.int .i64 cw,.int .i64 chh,.bool ci,.int .i64 cq,.slice ca cn cc] 41 (0,0))∧wx.heap[q7+1]?=some (.cells #[.int .i64 W8,.int .i64 H8,.slice pa pn pc] 43 (0,0))∧(∃ x0 x1 x2 x3 x4:Value,wx.heap[R]?=some (.cells #[x0,x1,x2,x3,x4] 41 (0,0)))∧(∃ x0 x1 x2:Value,wx.heap[R+1]?=some (.cells #[x0,x1,x2] 43 (0,0))):=hG
      subst d4;go_wp2;refine bodyPost_ret (results_ctc_row rfl _ _ R (R+1) 41 43 _ _ (0,0) (0,0) _ _ rfl d3 Try.underlying41 rfl size_Coded rfl d5 Try.underlying43 rfl size_Picture) rfl ?_;exact⟨cw,chh,cq,ci,ca,cn,cc,W8,H8,pa,pn,pc,K,rotP K xN,_,c7,rfl,by omega,hcF.1,hcF.2,hG.2.2.1,hG.2.1,hG.1⟩
     ·clear ya yb;have F1:=S9.gr;have F2:RdP wz b (P+100000):=S9.rd.mono (by omega);have F4:=S9.b3;have F5:=S9.b4;have F6:=S9.b1;have F7:=S9.b2;have hHoW:w.heap.size≤Ho:=Nat.le_trans S9.hH S9.hHo;have F3:=S9.qo.lr.low hHoW;have hcF:=owns_cap S9.qo.1;clear S9;go_upto_region 15 with fail
      refine wp_region_inv2 (by kernel_rfl) [(5,4),(74,0),(75,1),(76,2)] [[],[],[],[0],[0,1,3],[0,1,2,3,4]] (fun i own ys wx=>match i with|0=>own= .agg #[.int .i64 cw,.int .i64 chh,.bool ci,.int .i64 cq,.slice ca cn cc]|1=>own= .slice ao8 (K) co8|2=>own= .agg #[.int .i64 W8,.int .i64 H8,.slice pa pn pc]|3=>wx.heap[R]?=some (.cells #[.int .i64 cw,.int .i64 chh,.bool ci,.int .i64 cq,.slice ca cn cc] 41 (0,0))|4=>own= .slice ao8 (K) co8|5=>wx.heap[R+1]?=some (.cells #[.int .i64 W8,.int .i64 H8,.slice pa pn pc] 43 (0,0))|_=>True) (fun kx wx=>w.grownBy wx (some b)∧RdP wx b (P+100000)∧LR wx w.heap.size ao8 (K) (xN)∧wx.heap[q7]?=some (.cells #[.int .i64 cw,.int .i64 chh,.bool ci,.int .i64 cq,.slice ca cn cc] 41 (0,0))∧wx.heap[q7+1]?=some (.cells #[.int .i64 W8,.int .i64 H8,.slice pa pn pc] 43 (0,0))∧(∃ x0 x1 x2 x3 x4:Value,wx.heap[R]?=some (.cells #[x0,x1,x2,x3,x4] 41 (0,0)))∧(∃ x0 x1 x2:Value,wx.heap[R+1]?=some (.cells #[x0,x1,x2] 43 (0,0)))) (by kernel_rfl) (by kernel_rfl) (by kernel_rfl) ?g0_r8 ?gop_r8 ?gend_r8
      case g0_r8=>exact⟨grown_drew F1,F2.drew,F3.ext (Ext.drewN _ 1),F4,F5,F6,F7⟩
      case gop_r8 =>
       refine⟨?o0,?o1,?o2,?o3,?o4,?o5,trivial⟩ <;> (intro kx xs wx hk hG hD hI Qo Kx hK hQo;simp only[patchS,Nat.reduceAdd,Nat.reduceEqDiff,↓reduceIte]at hQo⊢)
       case o0 =>
        clear hD hI;obtain⟨-,k0,k1,k2,k3,k4⟩:=bx5 hG.2.2.2.1;go_wp2;exact hK.out _ _ ⟨rfl,hG,kkp⟩
       case o1 =>
        clear hD hI;go_wp2;exact hK.out _ _ ⟨rfl,hG,kkp⟩
       case o2 =>
        clear hD hI;obtain⟨-,k0,k1,k2,-⟩:=bx3 hG.2.2.2.2.1;go_wp2;exact hK.out _ _ ⟨rfl,hG,kkp⟩
       case o3 =>
        rw[ddq (hD 0 rfl)]at hQo⊢;clear hD hI;obtain⟨g1,g2,g3,g4,g5,⟨x0,x1,x2,x3,x4,g6⟩,y0,y1,y2,g7⟩:=hG;obtain⟨-,k0,k1,k2,k3,k4⟩:=bx5 g6;obtain⟨f0,f1,f2,f3,f4⟩:=fz5 g6;go_wp2;have hst:∀(wy:World),(∀ v,wx.heap[R+1]?=some v→wy.heap[R+1]?=some v)→Stbn 6 3 [[],[],[],[0],[0,1,3],[0,1,2,3,4]] (fun i own ys wx=>match i with|0=>own= .agg #[.int .i64 cw,.int .i64 chh,.bool ci,.int .i64 cq,.slice ca cn cc]|1=>own= .slice ao8 (K) co8|2=>own= .agg #[.int .i64 W8,.int .i64 H8,.slice pa pn pc]|3=>wx.heap[R]?=some (.cells #[.int .i64 cw,.int .i64 chh,.bool ci,.int .i64 cq,.slice ca cn cc] 41 (0,0))|4=>own= .slice ao8 (K) co8|5=>wx.heap[R+1]?=some (.cells #[.int .i64 W8,.int .i64 H8,.slice pa pn pc] 43 (0,0))|_=>True) wx wy:=by
         intro wy hy ii hii hne hc own ys h
         match ii,h with
         | 0,h|1,h|2,h=>exact h
         | 3,h=>exact absurd rfl hne
         | 4,h|5,h=>exact absurd hc (by decide)
         | _+6,_=>trivial
        have gg:=gs5 wx R 0 1 2 3 4 (.int .i64 cw) (.int .i64 chh) (.bool ci) (.int .i64 cq) (.slice ca cn cc);have bb:=blk_set5 (y0 := .int .i64 cw) (y1 := .int .i64 chh) (y2 := .bool ci) (y3 := .int .i64 cq) (y4 := .slice ca cn cc) g6;exact hQo undef _ (hK.out _ _ ⟨bb,⟨grown_any g1 gg (fun q hq=>by cases hq;omega),g2.grE gg (fun q hq=>by cases hq;omega),g3.gr gg g6 (by decide) (by decide),blk_gr g4 gg (by simp;omega),blk_gr g5 gg (by simp;omega),⟨_,_,_,_,_,bb⟩,_,_,_,blk_gr g7 gg (by simp)⟩,hst _ (fun v hv=>blk_gr hv gg (by simp))⟩)
       case o4 =>
        rw[ddq (hD 1 rfl)]at hQo⊢;clear hD hI;go_wp2;exact hK.out _ _ ⟨rfl,hG,kkp⟩
       case o5 =>
        rw[ddq (hD 2 rfl)]at hQo⊢;clear hD hI;obtain⟨g1,g2,g3,g4,g5,⟨x0,x1,x2,x3,x4,g6⟩,y0,y1,y2,g7⟩:=hG;obtain⟨-,k0,k1,k2,f0,f1,f2⟩:=bx3 g7;go_wp2;have hst:∀(wy:World),(∀ v,wx.heap[R]?=some v→wy.heap[R]?=some v)→Stbn 6 5 [[],[],[],[0],[0,1,3],[0,1,2,3,4]] (fun i own ys wx=>match i with|0=>own= .agg #[.int .i64 cw,.int .i64 chh,.bool ci,.int .i64 cq,.slice ca cn cc]|1=>own= .slice ao8 (K) co8|2=>own= .agg #[.int .i64 W8,.int .i64 H8,.slice pa pn pc]|3=>wx.heap[R]?=some (.cells #[.int .i64 cw,.int .i64 chh,.bool ci,.int .i64 cq,.slice ca cn cc] 41 (0,0))|4=>own= .slice ao8 (K) co8|5=>wx.heap[R+1]?=some (.cells #[.int .i64 W8,.int .i64 H8,.slice pa pn pc] 43 (0,0))|_=>True) wx wy:=by
         intro wy hy ii hii hne hc own ys h
         match ii,h with
         | 0,h|1,h|2,h|4,h=>exact h
         | 3,h=>exact hy _ h
         | 5,h=>exact absurd rfl hne
         | _+6,_=>trivial
        have gg:=gs3 wx (R+1) (.int .i64 W8) (.int .i64 H8) (.slice pa pn pc);have bb:=blk_set3 (x' := .int .i64 W8) (y' := .int .i64 H8) (z' := .slice pa pn pc) g7;exact hQo undef _ (hK.out _ _ ⟨bb,⟨grown_any g1 gg (fun q hq=>by cases hq;omega),g2.grE gg (fun q hq=>by cases hq;omega),g3.gr gg g7 (by decide) (by decide),blk_gr g4 gg (by simp;omega),blk_gr g5 gg (by simp;omega),⟨_,_,_,_,_,blk_gr g6 gg (by simp)⟩,_,_,_,bb⟩,hst _ (fun v hv=>blk_gr hv gg (by simp))⟩)
      intro xs wx hV hG;have d3:wx.heap[R]?=some (.cells #[.int .i64 cw,.int .i64 chh,.bool ci,.int .i64 cq,.slice ca cn cc] 41 (0,0)):=hV 3 (by decide);have d4:_=_:=hV 4 (by decide);have d5:wx.heap[R+1]?=some (.cells #[.int .i64 W8,.int .i64 H8,.slice pa pn pc] 43 (0,0)):=hV 5 (by decide);clear hV;simp only[patchS,Nat.reduceAdd,Nat.reduceEqDiff,↓reduceIte];generalize xs 0=y0,xs 1=y1,xs 2=y2,xs 3=y3,xs 4=y4,xs 5=y5 at *
      replace hG:w.grownBy wx (some b)∧RdP wx b (P+100000)∧LR wx w.heap.size ao8 (K) (xN)∧wx.heap[q7]?=some (.cells #[.int .i64 cw,.int .i64 chh,.bool ci,.int .i64 cq,.slice ca cn cc] 41 (0,0))∧wx.heap[q7+1]?=some (.cells #[.int .i64 W8,.int .i64 H8,.slice pa pn pc] 43 (0,0))∧(∃ x0 x1 x2 x3 x4:Value,wx.heap[R]?=some (.cells #[x0,x1,x2,x3,x4] 41 (0,0)))∧(∃ x0 x1 x2:Value,wx.heap[R+1]?=some (.cells #[x0,x1,x2] 43 (0,0))):=hG
      subst d4;go_wp2;refine bodyPost_ret (results_ctc_row rfl _ _ R (R+1) 41 43 _ _ (0,0) (0,0) _ _ rfl d3 Try.underlying41 rfl size_Coded rfl d5 Try.underlying43 rfl size_Picture) rfl ?_;exact⟨cw,chh,cq,ci,ca,cn,cc,W8,H8,pa,pn,pc,K,xN,_,co8,rfl,by omega,hcF.1,hcF.2,hG.2.2.1,hG.2.1,hG.1⟩
    ·have hd:decide (((K:Nat):Int)>1)=false:=by simp;omega
     obtain⟨wz,hwz⟩:∃ v,v=w8:=⟨_,rfl⟩;rw[←hwz]at S8⊢;clear hwz;have F1:=S8.gr;have F2:RdP wz b (P+100000):=S8.rd.mono (by omega);have F4:=S8.b3;have F5:=S8.b4;have F6:=S8.b1;have F7:=S8.b2;have hHoW:w.heap.size≤Ho:=Nat.le_trans S8.hH S8.hHo;have F3:=S8.qo.lr.low hHoW;have hcF:=owns_cap S8.qo.1;clear S8;go_upto_region 15 with fail
     refine wp_region_inv2 (by kernel_rfl) [(5,4),(74,0),(75,1),(76,2)] [[],[],[],[0],[0,1,3],[0,1,2,3,4]] (fun i own ys wx=>match i with|0=>own= .agg #[.int .i64 cw,.int .i64 chh,.bool ci,.int .i64 cq,.slice ca cn cc]|1=>own= .slice ao8 (K) co8|2=>own= .agg #[.int .i64 W8,.int .i64 H8,.slice pa pn pc]|3=>wx.heap[R]?=some (.cells #[.int .i64 cw,.int .i64 chh,.bool ci,.int .i64 cq,.slice ca cn cc] 41 (0,0))|4=>own= .slice ao8 (K) co8|5=>wx.heap[R+1]?=some (.cells #[.int .i64 W8,.int .i64 H8,.slice pa pn pc] 43 (0,0))|_=>True) (fun kx wx=>w.grownBy wx (some b)∧RdP wx b (P+100000)∧LR wx w.heap.size ao8 (K) (xN)∧wx.heap[q7]?=some (.cells #[.int .i64 cw,.int .i64 chh,.bool ci,.int .i64 cq,.slice ca cn cc] 41 (0,0))∧wx.heap[q7+1]?=some (.cells #[.int .i64 W8,.int .i64 H8,.slice pa pn pc] 43 (0,0))∧(∃ x0 x1 x2 x3 x4:Value,wx.heap[R]?=some (.cells #[x0,x1,x2,x3,x4] 41 (0,0)))∧(∃ x0 x1 x2:Value,wx.heap[R+1]?=some (.cells #[x0,x1,x2] 43 (0,0)))) (by kernel_rfl) (by kernel_rfl) (by kernel_rfl) ?g0_r9 ?gop_r9 ?gend_r9
     case g0_r9=>exact⟨grown_drew F1,F2.drew,F3.ext (Ext.drewN _ 1),F4,F5,F6,F7⟩
     case gop_r9 =>
      refine⟨?o0,?o1,?o2,?o3,?o4,?o5,trivial⟩ <;> (intro kx xs wx hk hG hD hI Qo Kx hK hQo;simp only[patchS,Nat.reduceAdd,Nat.reduceEqDiff,↓reduceIte]at hQo⊢)
      case o0 =>
       clear hD hI;obtain⟨-,k0,k1,k2,k3,k4⟩:=bx5 hG.2.2.2.1;go_wp2;exact hK.out _ _ ⟨rfl,hG,kkp⟩
      case o1 =>
       clear hD hI;go_wp2;exact hK.out _ _ ⟨rfl,hG,kkp⟩
      case o2 =>
       clear hD hI;obtain⟨-,k0,k1,k2,-⟩:=bx3 hG.2.2.2.2.1;go_wp2;exact hK.out _ _ ⟨rfl,hG,kkp⟩
      case o3 =>
       rw[ddq (hD 0 rfl)]at hQo⊢;clear hD hI;obtain⟨g1,g2,g3,g4,g5,⟨x0,x1,x2,x3,x4,g6⟩,y0,y1,y2,g7⟩:=hG;obtain⟨-,k0,k1,k2,k3,k4⟩:=bx5 g6;obtain⟨f0,f1,f2,f3,f4⟩:=fz5 g6;go_wp2;have hst:∀(wy:World),(∀ v,wx.heap[R+1]?=some v→wy.heap[R+1]?=some v)→Stbn 6 3 [[],[],[],[0],[0,1,3],[0,1,2,3,4]] (fun i own ys wx=>match i with|0=>own= .agg #[.int .i64 cw,.int .i64 chh,.bool ci,.int .i64 cq,.slice ca cn cc]|1=>own= .slice ao8 (K) co8|2=>own= .agg #[.int .i64 W8,.int .i64 H8,.slice pa pn pc]|3=>wx.heap[R]?=some (.cells #[.int .i64 cw,.int .i64 chh,.bool ci,.int .i64 cq,.slice ca cn cc] 41 (0,0))|4=>own= .slice ao8 (K) co8|5=>wx.heap[R+1]?=some (.cells #[.int .i64 W8,.int .i64 H8,.slice pa pn pc] 43 (0,0))|_=>True) wx wy:=by
        intro wy hy ii hii hne hc own ys h
        match ii,h with
        | 0,h|1,h|2,h=>exact h
        | 3,h=>exact absurd rfl hne
        | 4,h|5,h=>exact absurd hc (by decide)
        | _+6,_=>trivial
       have gg:=gs5 wx R 0 1 2 3 4 (.int .i64 cw) (.int .i64 chh) (.bool ci) (.int .i64 cq) (.slice ca cn cc);have bb:=blk_set5 (y0 := .int .i64 cw) (y1 := .int .i64 chh) (y2 := .bool ci) (y3 := .int .i64 cq) (y4 := .slice ca cn cc) g6;exact hQo undef _ (hK.out _ _ ⟨bb,⟨grown_any g1 gg (fun q hq=>by cases hq;omega),g2.grE gg (fun q hq=>by cases hq;omega),g3.gr gg g6 (by decide) (by decide),blk_gr g4 gg (by simp;omega),blk_gr g5 gg (by simp;omega),⟨_,_,_,_,_,bb⟩,_,_,_,blk_gr g7 gg (by simp)⟩,hst _ (fun v hv=>blk_gr hv gg (by simp))⟩)
      case o4 =>
       rw[ddq (hD 1 rfl)]at hQo⊢;clear hD hI;go_wp2;exact hK.out _ _ ⟨rfl,hG,kkp⟩
      case o5 =>
       rw[ddq (hD 2 rfl)]at hQo⊢;clear hD hI;obtain⟨g1,g2,g3,g4,g5,⟨x0,x1,x2,x3,x4,g6⟩,y0,y1,y2,g7⟩:=hG;obtain⟨-,k0,k1,k2,f0,f1,f2⟩:=bx3 g7;go_wp2;have hst:∀(wy:World),(∀ v,wx.heap[R]?=some v→wy.heap[R]?=some v)→Stbn 6 5 [[],[],[],[0],[0,1,3],[0,1,2,3,4]] (fun i own ys wx=>match i with|0=>own= .agg #[.int .i64 cw,.int .i64 chh,.bool ci,.int .i64 cq,.slice ca cn cc]|1=>own= .slice ao8 (K) co8|2=>own= .agg #[.int .i64 W8,.int .i64 H8,.slice pa pn pc]|3=>wx.heap[R]?=some (.cells #[.int .i64 cw,.int .i64 chh,.bool ci,.int .i64 cq,.slice ca cn cc] 41 (0,0))|4=>own= .slice ao8 (K) co8|5=>wx.heap[R+1]?=some (.cells #[.int .i64 W8,.int .i64 H8,.slice pa pn pc] 43 (0,0))|_=>True) wx wy:=by
        intro wy hy ii hii hne hc own ys h
        match ii,h with
        | 0,h|1,h|2,h|4,h=>exact h
        | 3,h=>exact hy _ h
        | 5,h=>exact absurd rfl hne
        | _+6,_=>trivial
       have gg:=gs3 wx (R+1) (.int .i64 W8) (.int .i64 H8) (.slice pa pn pc);have bb:=blk_set3 (x' := .int .i64 W8) (y' := .int .i64 H8) (z' := .slice pa pn pc) g7;exact hQo undef _ (hK.out _ _ ⟨bb,⟨grown_any g1 gg (fun q hq=>by cases hq;omega),g2.grE gg (fun q hq=>by cases hq;omega),g3.gr gg g7 (by decide) (by decide),blk_gr g4 gg (by simp;omega),blk_gr g5 gg (by simp;omega),⟨_,_,_,_,_,blk_gr g6 gg (by simp)⟩,_,_,_,bb⟩,hst _ (fun v hv=>blk_gr hv gg (by simp))⟩)
     intro xs wx hV hG;have d3:wx.heap[R]?=some (.cells #[.int .i64 cw,.int .i64 chh,.bool ci,.int .i64 cq,.slice ca cn cc] 41 (0,0)):=hV 3 (by decide);have d4:_=_:=hV 4 (by decide);have d5:wx.heap[R+1]?=some (.cells #[.int .i64 W8,.int .i64 H8,.slice pa pn pc] 43 (0,0)):=hV 5 (by decide);clear hV;simp only[patchS,Nat.reduceAdd,Nat.reduceEqDiff,↓reduceIte];generalize xs 0=y0,xs 1=y1,xs 2=y2,xs 3=y3,xs 4=y4,xs 5=y5 at *
     replace hG:w.grownBy wx (some b)∧RdP wx b (P+100000)∧LR wx w.heap.size ao8 (K) (xN)∧wx.heap[q7]?=some (.cells #[.int .i64 cw,.int .i64 chh,.bool ci,.int .i64 cq,.slice ca cn cc] 41 (0,0))∧wx.heap[q7+1]?=some (.cells #[.int .i64 W8,.int .i64 H8,.slice pa pn pc] 43 (0,0))∧(∃ x0 x1 x2 x3 x4:Value,wx.heap[R]?=some (.cells #[x0,x1,x2,x3,x4] 41 (0,0)))∧(∃ x0 x1 x2:Value,wx.heap[R+1]?=some (.cells #[x0,x1,x2] 43 (0,0))):=hG
     subst d4;go_wp2;refine bodyPost_ret (results_ctc_row rfl _ _ R (R+1) 41 43 _ _ (0,0) (0,0) _ _ rfl d3 Try.underlying41 rfl size_Coded rfl d5 Try.underlying43 rfl size_Picture) rfl ?_;exact⟨cw,chh,cq,ci,ca,cn,cc,W8,H8,pa,pn,pc,K,xN,_,co8,rfl,by omega,hcF.1,hcF.2,hG.2.2.1,hG.2.1,hG.1⟩
/-- Packets and two numbers in range. -/
def DmR (w:World) (l1 h1 l2 h2:Int) (e:Ending) (w':World):Prop :=
 ∃(k:Nat) (x:Nat→Pkt) (a:Option Addr) (c:Nat) (lo hi:Int),e= .returned (.tuple #[.slice a k c,.int .i64 lo,.int .i64 hi])∧k≤20001∧(k≤c∧c≤maxLen)∧LR w' w.heap.size a k x∧(l1≤lo∧lo≤h1)∧(l2≤hi∧hi≤h2)∧Ext w w'
theorem DrawCollectSlice_any (a:Option Addr) (c n:Nat) (zs:List Int) (w:World) (hc:n≤c) (hc2:c≤9223372036854775807) (r:Sl w a n (zs.map (Value.int .u8))) (hz:∀ z∈zs,0≤z∧z≤255) :
 Calls Try.prog 10 #[.slice a n c] w (DmR w 0 1 0 2):=by
 go_enter Try.func10,Try.ntmps10
 go_wp2_with fail
 refine(open_any a c n zs _ hc hc2 r hz).mono ?_
 rintro e w1 ⟨b,rfl,rd1,e1,hb1⟩
 have D1:RdP w1 b 0:=⟨0,Nat.le_refl _,rd1⟩;clear rd1 r hz;go_wp2_with fail
 refine(l20Lossy_0 b 0 w1 D1 (by omega)).mono ?_
 rintro e w2 ⟨u0,u1,u3,u2,ua,un,uc,z0,z1,za,zn,zc,k,x,al,cl,rfl,hk,hc1,hc2',L2,D2,g2⟩
 have E2:Ext w w2:=Ext.grown e1 g2 (fun q hq=>by cases hq;exact hb1);have L2':=L2.low e1.size;have e3:=(Ext.alloc w2 (.cells #[.int .i64 u0,.int .i64 u1,.bool u2,.int .i64 u3,.slice ua un uc] 41)).trans (Ext.alloc _ (.cells #[.int .i64 z0,.int .i64 z1,.slice za zn zc] 43));have E3:=E2.trans e3;have L3:=L2'.ext e3;have D3:=D2.ext e3;clear E2 L2 L2' e3 D2 g2 e1 D1;go_wp2_with fail
 generalize (w2.alloc (.cells #[.int .i64 u0,.int .i64 u1,.bool u2,.int .i64 u3,.slice ua un uc] 41)).alloc (.cells #[.int .i64 z0,.int .i64 z1,.slice za zn zc] 43)=w3 at *;refine(pick_c b _ 9 _ D3 (by omega) (by omega) (by omega)).mono ?_
 rintro e w4 ⟨y1,rfl,y1a,y1b,D4,g4⟩
 have E4:Ext w w4:=Ext.grown E3 g4 (fun q hq=>by cases hq;exact hb1);have L4:=L3.rd D3 g4;clear E3 L3 D3 g4;go_wp2_with fail
 refine(pick_c b _ 3 _ D4 (by omega) (by omega) (by omega)).mono ?_
 rintro e w5 ⟨y2,rfl,y2a,y2b,D5,g5⟩
 have E5:Ext w w5:=Ext.grown E4 g5 (fun q hq=>by cases hq;exact hb1);have L5:=L4.rd D4 g5;clear E4 L4 D4 g5;go_wp2_with fail
 go_ret3
 exact⟨k,x,al,cl,_,_,rfl,hk,⟨hc1,hc2'⟩,L5,by omega,by omega,E5⟩
end Go.Proofs.Ytphfacfjhjcllaa
namespace Go.Proofs.Ytphfacfjhjcllaa

open Go.RowKit
end Go.Proofs.Ytphfacfjhjcllaa
