/- Part 8 of the proof. -/
import Derived.Test.YtijnbalgnhigbaaGreatDoorQe7
import Derived.ProofKit
import Derived.OpenShut
import Derived.ShutString
import Derived.ChangeOld
import Derived.Deep.Slices
import Derived.Lib.SmallJoins
set_option linter.unusedVariables false
set_option linter.unusedSimpArgs false
set_option maxRecDepth 100000
set_option maxHeartbeats 4000000
namespace Go.Proofs.YtijnbalgnhigbaaGreatDoor
open Go.RowKit
structure EQ (w wr : World) (B C Pb X g N cN : Nat) (tc rc cc pc : Array Value) (px : List Int) : Prop where
 ex:Ext w wr
 b0:wr.heap[B]?=some (.cells tc 30 (0,0))
 b1:wr.heap[B+1]?=some (.cells rc 30 (0,0))
 b2:wr.heap[B+2]?=some (.cells #[.int .i64 0,.int .i64 0,.bool false,.int .i64 0,.slice none 0 0] 28 (0,0))
 b3:wr.heap[C]?=some (.cells cc 28 (0,0))
 b4:wr.heap[Pb]?=some (.cells pc 30 (0,0))
 ow:wr.ownsRow X 3 1 (.slice (some ⟨g,0,none⟩) N cN) N (px.map (Value.int .i64))
theorem EQ.ext {w wr w2:World}{B C Pb X g N cN:Nat}{tc rc cc pc:Array Value}{px:List Int}(h:EQ w wr B C Pb X g N cN tc rc cc pc px)(e:Ext wr w2):EQ w w2 B C Pb X g N cN tc rc cc pc px :=
 ⟨h.ex.trans e,e.blk h.b0,e.blk h.b1,e.blk h.b2,e.blk h.b3,e.blk h.b4,Ae h.ow e⟩
theorem EQ.row {w wr w2:World}{B C Pb X g N cN b0 T s0 n0:Nat}{tc rc cc pc:Array Value}{px:List Int}{v:Value}{vs:List Value}(h:EQ w wr B C Pb X g N cN tc rc cc pc px)(o:wr.ownsRow b0 T s0 v n0 vs)(gr:wr.grownBy w2 v.ownBlock)(hb:w.heap.size≤b0)(t1:T≠30)(t2:T≠28)(t3:3≠T):EQ w w2 B C Pb X g N cN tc rc cc pc px :=
 ⟨Ext.grown h.ex gr (fun q hq=>by have:=Bt o q hq;omega),Ar h.b0 gr (AW o h.b0 t1),Ar h.b1 gr (AW o h.b1 t1),Ar h.b2 gr (AW o h.b2 t2),Ar h.b3 gr (AW o h.b3 t2),Ar h.b4 gr (AW o h.b4 t1),h.ow.kept gr (BO h.ow o t3)⟩
theorem EQ.pix {w wr w2:World}{B C Pb X g N cN:Nat}{tc rc cc pc:Array Value}{px px2:List Int}(h:EQ w wr B C Pb X g N cN tc rc cc pc px)(o:w2.ownsRow X 3 1 (.slice (some ⟨g,0,none⟩) N cN) N (px2.map (Value.int .i64)))(gr:wr.grownBy w2 (some g))(hb:w.heap.size≤X):EQ w w2 B C Pb X g N cN tc rc cc pc px2 :=
 ⟨Ext.grown h.ex gr (fun q hq=>by have:=Bt h.ow q hq;omega),Ar h.b0 gr (AW h.ow h.b0 (by decide)),Ar h.b1 gr (AW h.ow h.b1 (by decide)),Ar h.b2 gr (AW h.ow h.b2 (by decide)),Ar h.b3 gr (AW h.ow h.b3 (by decide)),Ar h.b4 gr (AW h.ow h.b4 (by decide)),o⟩
theorem EQ.put {w wr:World}{B C Pb X g N cN:Nat}{tc rc pc:Array Value}{x0 x1 x2 x3 x4:Value}{px:List Int}(h:EQ w wr B C Pb X g N cN tc rc #[x0,x1,x2,x3,x4] pc px)(v:Value)(hw:w.heap.size≤C)(h0:B+2<C)(h4:C≠Pb):EQ w (wr.setCell ⟨C,4,none⟩ v) B C Pb X g N cN tc rc #[x0,x1,x2,x3,v] pc px:=by
 have gr:=gs1 wr C 4 v;have hb:=heap_setCell_same wr C 4 _ _ v h.b3;exact⟨Ext.grown h.ex gr (fun q hq=>by cases hq;exact hw),Ar h.b0 gr (by simp;omega),Ar h.b1 gr (by simp;omega),Ar h.b2 gr (by simp;omega),by simpa using hb,Ar h.b4 gr (by simp;omega),h.ow.kept gr (AU h.ow h.b3 (by decide))⟩
theorem MR.of_list {w:World}{X n c:Nat}{a:Option Addr}{L:List Int}{ms:Nat→Mac}(h:w.ownsRow X 50 71 (.slice a n c) n (L.map (Value.int .i64)))(hz:∀ i,i<n→(ms i).ok∧sub L (i*71) 71=(ms i).zs):MR w a n ms:=by
 have hl:L.length=n*71:=by simpa using h.1
 intro i hi;obtain⟨-,b,off,h1,h2⟩:=MR.of_own h i hi;refine⟨(hz i hi).1,b,off,h1,fun j hj => ?_⟩;have:=h2 j hj;rw[LY (Bv _ _ _ (by omega)),(hz i hi).2]at this;exact this
def EnR (w:World)(W H q:Nat)(intra:Bool)(h8:Nat)(f:Nat→List Int)(e:Ending)(w':World):Prop :=
 ∃(a:Option Addr) (c:Nat) (ss:List Value),e= .returned (.agg #[.int .i64 W,.int .i64 H,.bool intra,.int .i64 q,.slice a h8 c])∧SSg w' w.heap.size w'.heap.size (.slice a h8 c) h8 f ss∧Ext w w'
theorem Ds {W H q:Nat}{tp:List Int}{r:Pic}{intra:Bool}(h:okE ⟨W,H,tp⟩ r intra q):∃ W8 H8 N,W=8*W8∧H=8*H8∧(1≤W8∧W8≤4)∧(1≤H8∧H8≤4)∧N=W*H∧64≤N∧N≤1024∧((W:Int)*(H:Int)=(N:Int))∧tp.length=N∧q<16:=by
 obtain⟨hv,hq,-⟩:=h;have h1:8≤(W:Int)∧(W:Int)≤32∧(W:Int)%8=0:=hv.1;have h2:8≤(H:Int)∧(H:Int)≤32∧(H:Int)%8=0:=hv.2.1;have h3:(tp.length:Int)=(W:Int)*(H:Int):=hv.2.2.1;have h4:=Pic.len_le hv;simp only at h4;have h5:tp.length=W*H:=by rw[←Int.natCast_mul]at h3;exact Int.ofNat.inj h3
 refine⟨W/8,H/8,W*H,by omega,by omega,by omega,by omega,rfl,by omega,by omega,by simp,h5,by omega⟩
theorem FQ {W H k j W8 H8:Nat}{px:List Int}(h:Pic.valid ⟨W,H,px⟩)(hW:W=8*W8)(hH:H=8*H8)(hk:k<W8)(hj:j<H8):BJ ⟨W,H,px⟩ ((8*k:Nat):Int) ((8*j:Nat):Int):=by
 refine⟨h,by omega,?_,by omega,by omega,?_,by omega⟩
 ·show((8*k:Nat):Int)<(W:Int);omega
 ·show((8*j:Nat):Int)<(H:Int);omega
theorem KJ {W H:Nat}{tp px:List Int}(h:Pic.valid ⟨W,H,tp⟩)(h2:Pic.valid ⟨W,H,px⟩):AS ⟨W,H,tp⟩ ⟨W,H,px⟩:=⟨h,h2,rfl,rfl⟩
theorem Q9 {t r:Pic}{W H x y q:Nat}{px:List Int}(h:okCh t r ⟨W,H,px⟩ (x:Nat) (y:Nat) (q:Nat) (y:Nat)):chP t r ⟨W,H,px⟩ (x:Nat) (y:Nat) (q:Nat) (y:Nat)=emB t r W H px x y q false:=by
 rw[Ny h];rfl
theorem He {L zs:List Int}{k:Nat}(h:L.length=k*71){i:Nat}(hi:i<k):sub (L++zs) (i*71) 71=sub L (i*71) 71:=by
 unfold sub;rw[List.drop_append_of_le_length (by omega),List.take_append_of_le_length (by simp;omega)]
theorem Hg {L zs:List Int}{k:Nat}(h:L.length=k*71)(hz:zs.length=71):sub (L++zs) (k*71) 71=zs:=by
 unfold sub;rw[List.drop_append_of_le_length (by omega),List.drop_of_length_le (by omega),List.nil_append,List.take_of_length_le (by omega)]
theorem FE (W H:Nat)(tp:List Int)(r:Pic)(q:Nat)(a b:Option Addr)(c d n l:Nat)(w:World)(hT:TabQ w)(hn:n=tp.length)(hl:l=r.px.length)(lc:l≤9223372036854775807)(s:Sl w a n (tp.map (Value.int .i64)))(u:Sl w b l (r.px.map (Value.int .i64)))(hok:okE ⟨W,H,tp⟩ r true q):
 Calls Tryz.prog 7 #[.agg #[.int .i64 W,.int .i64 H,.slice a n c],.agg #[.int .i64 r.w,.int .i64 r.h,.slice b l d],.bool true,.int .i64 q] w (EnR w W H q true (H/8) (slcE ⟨W,H,tp⟩ r W H q true (W/8))):=by
 obtain⟨W8,H8,N,hW,hH,⟨hW1,hW4⟩,⟨hH1,hH4⟩,hN,hN1,hN2,hWH,htl,hq⟩:=Ds hok;rw[show H/8=H8 by omega,show W/8=W8 by omega];have HOK:=Aa hok;have HWH:=Aa hWH;have HNN:=Aa hN;have HN:=Aa hn;have HL:=Aa hl;have HS:=Aa s;have HU:=Aa u;obtain⟨f,hf⟩:∃ f,f=slcE ⟨W,H,tp⟩ r W H q true W8:=⟨_,rfl⟩;rw[←hf];have HF:=Aa hf;have HW:=Aa hW;have HH:=Aa hH;have hWl:8≤W∧W≤32:=by omega
 have hHl:8≤H∧H≤32:=by omega
 have hnl:n≤1024:=by omega
 have hw8:w.heap.size≤w.heap.size:=Nat.le_refl _;clear hok hWH hN hf hW hH hn htl hw8;have HT:=Aa hT;have hT0:=World.block_lt_of_cell? w _ (hT 0 (by omega));simp only at hT0;clear hT hl s u;obtain⟨p0,p1,p2,E0⟩:=bxs3 w (.cells #[.int .i64 W,.int .i64 H,.slice a n c] 30) (.cells #[.int .i64 r.w,.int .i64 r.h,.slice b l d] 30) (.cells #[.int .i64 0,.int .i64 0,.bool false,.int .i64 0,.slice none 0 0] 28);obtain⟨-,i0,i1,i2,-⟩:=bx3 p0;obtain⟨-,j0,j1,j2,-⟩:=bx3 p1;go_enter Tryz.func7,Tryz.ntmps7
 go_wp2_with fail
 refine(Bb ⟨W,H,tp⟩ a c n _ HN.out (by omega) (HS.out.ext E0)).mono ?_;rw[decide_eq_true HOK.out.1]
 rintro e w1 ⟨rfl,e1⟩
 have q0:=e1.blk p0;have q1:=e1.blk p1;have q2:=e1.blk p2;have E1:=E0.trans e1;clear p0 p1 p2 E0 e1 i0 i1 i2 j0 j1 j2;obtain⟨-,i0,i1,i2,-⟩:=bx3 q0;obtain⟨-,j0,j1,j2,-⟩:=bx3 q1;go_wp2_with fail
 refine(KD q _ ⟨by omega,by omega⟩).mono ?_
 rintro e w2 ⟨rfl,rfl⟩
 go_upto_region 4 with fail
 have e2:=Ext.alloc w1 (.cells #[.int .i64 W,.int .i64 H,.bool true,.int .i64 q,.slice none 0 0] 28);have z0:=e2.blk q0;have z1:=e2.blk q1;have z2:=e2.blk q2;have z3:=Aj w1 (.cells #[.int .i64 W,.int .i64 H,.bool true,.int .i64 q,.slice none 0 0] 28);have E2:=E1.trans e2;have hC0:=lt_of_block q2;obtain⟨B,hB⟩:∃ B,B=w.heap.size:=⟨_,rfl⟩;have hB2:w.heap.size≤B:=by omega
 try simp only[World.size_alloc]
 obtain⟨C,hC⟩:∃ C,C=w1.heap.size:=⟨_,rfl⟩;rw[←hC]at z3 hC0⊢;rw[←hB]at z0 z1 z2 hC0⊢;clear hB q0 q1 q2 E1 e2 hC i0 i1 i2 j0 j1 j2;generalize w1.alloc (.cells #[.int .i64 W,.int .i64 H,.bool true,.int .i64 q,.slice none 0 0] 28)=w3 at *;have hC1:=lt_of_block z3;obtain⟨-,i0,i1,i2,-⟩:=bx3 z0;go_wp2_with fail
 refine(Fq W H 128 N _ ⟨by omega,by omega,by have:=HW.out;omega⟩ ⟨by omega,by omega,by have:=HH.out;omega⟩ (by omega) HWH.out hN2).mono ?_
 rintro e w4 ⟨a1,c1,rfl,own1,e4⟩
 have own2:w4.ownsRow w3.heap.size 3 1 (.slice a1 N c1) N ((picE ⟨W,H,tp⟩ r W H q true W8 0).map (Value.int .i64)):=by
  unfold picE;rw[←HNN.out,List.map_replicate];exact own1
 obtain⟨X,hX⟩:∃ X,X=w3.heap.size:=⟨_,rfl⟩;rw[←hX]at own2 hC1;clear hX own1;have hgo:∃ g,a1=some ⟨g,0,none⟩∧X≤g:=by
  rcases own2.2 with⟨-,h0⟩|⟨g,cc,cur,hv,hb,hb2,-⟩
  ·omega
  ·simp only[Value.slice.injEq]at hv;exact⟨g,hv.1,hb⟩
 obtain⟨g,rfl,hg⟩:=hgo;go_upto_region 5 with fail
 have e5:=Ext.alloc w4 (.cells #[.int .i64 W,.int .i64 H,.slice (some ⟨g,0,none⟩) N c1] 30);have b4:=Aj w4 (.cells #[.int .i64 W,.int .i64 H,.slice (some ⟨g,0,none⟩) N c1] 30);have S0:EQ w (w4.alloc (.cells #[.int .i64 W,.int .i64 H,.slice (some ⟨g,0,none⟩) N c1] 30)) B C w4.heap.size X g N c1 #[.int .i64 W,.int .i64 H,.slice a n c] #[.int .i64 r.w,.int .i64 r.h,.slice b l d] #[.int .i64 W,.int .i64 H,.bool true,.int .i64 q,.slice none 0 0] #[.int .i64 W,.int .i64 H,.slice (some ⟨g,0,none⟩) N c1] (picE ⟨W,H,tp⟩ r W H q true W8 0) :=
  ⟨(E2.trans e4).trans e5,e5.blk (e4.blk z0),e5.blk (e4.blk z1),e5.blk (e4.blk z2),e5.blk (e4.blk z3),b4,Ae own2 e5⟩
 have hCP:C<w4.heap.size:=lt_of_block (e4.blk z3);have hs0:=lt_of_block b4;try simp only[World.size_alloc]
 obtain⟨Pb,hPb⟩:∃ Pb,Pb=w4.heap.size:=⟨_,rfl⟩;rw[←hPb]at S0 hCP hs0⊢;clear hPb z0 z1 z2 z3 E2 e4 e5 b4 own2 i0 i1 i2;generalize w4.alloc (.cells #[.int .i64 W,.int .i64 H,.slice (some ⟨g,0,none⟩) N c1] 30)=w5 at *;have SS0:=SSk.nil w5 (Pb+1) w5.heap.size f hs0;go_wp2_with fail
 go_loopw [11] (fun yy wr=>∃(j:Nat) (zv:Value) (cs:List Value),j≤H8∧yy= .int .i64 ((8*j:Nat):Int)∧EQ w wr B C Pb X g N c1 #[.int .i64 W,.int .i64 H,.slice a n c] #[.int .i64 r.w,.int .i64 r.h,.slice b l d] #[.int .i64 W,.int .i64 H,.bool true,.int .i64 q,zv] #[.int .i64 W,.int .i64 H,.slice (some ⟨g,0,none⟩) N c1] (picE ⟨W,H,tp⟩ r W H q true W8 j)∧Pb+1≤wr.heap.size∧SSk wr (Pb+1) wr.heap.size zv j j f cs) (fun yy _=>H-(intOf yy).toNat)
 case atStart=>exact⟨0,_,[],by omega,rfl,S0,hs0,SS0⟩
 case round =>
  clear S0 hs0 SS0;obtain⟨j,zv,cs,hj,rfl,S,hs,SS⟩:=hrel;obtain⟨-,i0,i1,i2,-⟩:=bx3 S.b0;obtain⟨yt,hyt⟩:∃ y,y=8*j:=⟨_,rfl⟩;rw[←hyt];have HY:=Aa hyt;clear hyt
  by_cases hlt:j<H8
  ·have hjH:yt+8≤H:=by have:=HH.out;have:=HY.out;omega
   have hd:decide (yt<H)=true:=by simp;omega
   have hd':decide ((yt:Int)<(H:Int))=true:=by simp;omega
   have hpv:=DN (t:=⟨W,H,tp⟩) (r:=r) (q:=q) (intra:=true) (W8:=W8) HOK.out.1.1 HOK.out.1.2.1 j;obtain⟨px0,hpx⟩:∃ p,p=picE ⟨W,H,tp⟩ r W H q true W8 j:=⟨_,rfl⟩;rw[←hpx]at S hpv;have HPX:=Aa (show f j=slcL (rowB ⟨W,H,tp⟩ r W H yt q true px0) true W8 by rw[HF.out,hpx,HY.out];rfl);have HPN:=Aa (show rowE ⟨W,H,tp⟩ r W H yt q true px0 W8=picE ⟨W,H,tp⟩ r W H q true W8 (j+1) by rw[hpx,HY.out];rfl);have HPV:=Aa hpv;clear hpx hpv;have oA:=World.ownsRow_nil wr B 50 71;go_wp2_with fail
   go_loopw [12,13] (fun v xx wr=>∃(k:Nat) (L:List Int),k≤W8∧xx= .int .i64 ((8*k:Nat):Int)∧EQ w wr B C Pb X g N c1 #[.int .i64 W,.int .i64 H,.slice a n c] #[.int .i64 r.w,.int .i64 r.h,.slice b l d] #[.int .i64 W,.int .i64 H,.bool true,.int .i64 q,zv] #[.int .i64 W,.int .i64 H,.slice (some ⟨g,0,none⟩) N c1] (rowE ⟨W,H,tp⟩ r W H yt q true px0 k)∧Pb+1≤wr.heap.size∧SSk wr (Pb+1) wr.heap.size zv j j f cs∧wr.ownsRow B 50 71 v k (L.map (Value.int .i64))∧(∀ o,o<k→sub L (o*71) 71=(rowB ⟨W,H,tp⟩ r W H yt q true px0 o).zs)) (fun _ xx _=>W-(intOf xx).toNat)
   case atStart=>exact⟨0,[],by omega,rfl,S,hs,SS,oA,fun o ho=>absurd ho (by omega)⟩
   case round =>
    clear S SS hs oA i0 i1 i2 hd hd';obtain⟨k,L,hk,rfl,S,hs,SS,o3,hz⟩:=hrel;have hLl:L.length=k*71:=by simpa using o3.1
    have Hz:=Aa hz;clear hz;obtain⟨a3,c3,rfl⟩:=Al o3;obtain⟨xt,hxt⟩:∃ x,x=8*k:=⟨_,rfl⟩;rw[←hxt];have HX:=Aa hxt;clear hxt
    by_cases hlk:k<W8
    ·have hkW:xt+8≤W:=by have:=HW.out;have:=HX.out;omega
     have hd:decide (xt<W)=true:=by simp;omega
     have hd':decide ((xt:Int)<(W:Int))=true:=by simp;omega
     have Z1:=IB.new wr 50 (zl 71);have e1:=Ext.alloc wr (.cells (ic (zl 71)) 50);have HPL0:=FQ HOK.out.1 HW.out HH.out hlk hlt;rw[←HX.out,←HY.out]at HPL0;have HPL:=Aa HPL0;clear HPL0;have S1:=S.ext e1;have SS1:=(SS.ext e1).up e1.size;have o1:=Ae o3 e1;have hlst:∀ x,(Value.slice a3 k c3).ownBlock=some x→x<wr.heap.size:=fun x hx=>(o3.lt x hx).2
     obtain⟨-,i0,i1,i2,-⟩:=bx3 S1.b0;obtain⟨-,j0,j1,j2,-⟩:=bx3 S1.b1;obtain⟨-,k0,k1,k2,-⟩:=bx3 S1.b4;obtain⟨-,i3,-⟩:=bx3 S.b0;have hs1:=Nat.le_trans hs e1.size;have hq0:=lt_of_block S.b4;obtain⟨px,hpx⟩:∃ p,p=(rowE ⟨W,H,tp⟩ r W H yt q true px0 k):=⟨_,rfl⟩;have HPXk:=Aa hpx;have hpv:Pic.valid ⟨W,H,px⟩:=by rw[hpx];exact Ce HPV.out k
     rw[←hpx]at S1;have HS0:=Aa S;have HSS0:=Aa SS;have HO0:=Aa o3;clear hpx S SS o3;have HPK:=Aa hpv;have HPJ0:=FQ hpv HW.out HH.out hlk hlt;rw[←HX.out,←HY.out]at HPJ0;have HPJ:=Aa HPJ0;clear HPJ0;have hxl:px.length=N:=by
      have:=S1.ow.1
      simpa using this
     have Hxl:=Aa hxl;clear hxl;go_wp2_with (refine Au 50 rfl rfl 71 Bf ?_;(try simp only[World.size_alloc]))
     refine(Cw ⟨W,H,tp⟩ W H xt yt px q (yt:Int) a (some ⟨g,0,none⟩) c c1 n N _ (HT.out.ext S1.ex) HN.out Hxl.out.symm (by omega) (by omega) (HS.out.ext S1.ex) (Sl.of_owns S1.ow) HOK.out.1 HPK.out (by omega) (by omega) (by omega) (by omega) hq (by omega) (KJ HOK.out.1 HPK.out) HPL.out.2 ⟨by omega,by omega⟩ (by omega) (by omega)).mono ?_;rw[show BP ⟨W,H,tp⟩ ⟨W,H,px⟩ xt yt q (yt:Int) 4=emB ⟨W,H,tp⟩ r W H px xt yt q true from rfl];have hmb:=Jy (t:=⟨W,H,tp⟩) (r:=r) (intra:=true) xt yt HOK.out.1 (fun h=>(HOK.out.2.2 h).2.1) HPK.out hq;have hmo:=Fw ⟨W,H,tp⟩ r W H px xt yt q true;have HSt:=Aa (show bldS r ⟨W,H,px⟩ xt yt (emB ⟨W,H,tp⟩ r W H px xt yt q true) q (yt:Int) 4=rowE ⟨W,H,tp⟩ r W H yt q true px0 (k+1) by rw[HPXk.out,HX.out];rfl);have HRB:=Aa (show emB ⟨W,H,tp⟩ r W H px xt yt q true=rowB ⟨W,H,tp⟩ r W H yt q true px0 k by rw[HPXk.out,HX.out];rfl);generalize emB ⟨W,H,tp⟩ r W H px xt yt q true=m at *;have Hmb:=Aa hmb;have Hmo:=Aa hmo;have Hzl:=Aa (Mac.zs_len hmo);clear hmb hmo
     rintro e w2 ⟨rfl,e2⟩
     have Z2:=Z1.ext e2;have e12:=e1.trans e2;clear Z1 S1 SS1 o1 e1 e2 i0 i1 i2 j0 j1 j2 k0 k1 k2 i3;go_wp2_with (refine Af 50 _ _ rfl rfl Z2 0 71 rfl _ rfl m.zs rfl Ah Hzl.out (by simp[zl]) ?_;intro w3 q3 g3;refine Hid.out ?_)
     rw[Ap (by rw[AB,Hzl.out])]at q3;have e3:Ext wr w3:=Ext.grown e12 g3 (fun x hx=>by cases hx;exact Nat.le_refl _);have S3:=HS0.out.ext e3;have SS3:=(HSS0.out.ext e3).up e3.size;have o4:=Ae HO0.out e3;have hs3:=Nat.le_trans hs e3.size;rw[←HPXk.out]at S3;clear Z2 g3 e12 e3 hs hs1;obtain⟨mq,hmq⟩:∃ x,x=wr.heap.size:=⟨_,rfl⟩;rw[←hmq]at q3 hlst hq0⊢;clear hmq;refine Aa ?_;go_wp2_with (first|(at_builtin;refine Dp _ o4 (Nat.le_of_lt (lt_of_block S3.b0)) m.zs Hzl.out rfl _ _ rfl rfl rfl (by omega) ?_;intro v5 w5 own5 gr5;refine Hid.out ?_)|refine Fb _ rfl rfl m.zs rfl Hzl.out ?_|(refine Ab 50 _ rfl rfl q3 0 71 rfl _ Ro rfl Ah (by rw[Hzl.out];omega) _ (by rw[Ak _ _ Hzl.out]) ?_))
     have S5:=S3.row o4 gr5 hB2 (by decide) (by decide) (by decide);have SS5:=(SSk.kept SS3 gr5 o4 (by decide) (by decide)).up gr5.size;have q5:=q3.gr gr5 (fun e=>by have:=hlst mq e;omega);have hs5:=Nat.le_trans hs3 gr5.size;have o5:w5.ownsRow B 50 71 v5 (k+1) ((L++m.zs).map (Value.int .i64)):=by rw[List.map_append];exact own5
     obtain⟨a5,c5,rfl⟩:=Al o5;clear S3 SS3 q3 o4 hs3 own5 gr5;refine Aa ?_;obtain⟨-,j0,j1,j2,-⟩:=bx3 S5.b1;obtain⟨-,k0,k1,k2,-⟩:=bx3 S5.b4;go_wp2_with (refine Ab 50 _ rfl rfl q5 0 71 rfl _ Ro rfl Ah (by rw[Hzl.out];omega) _ (by rw[Ak _ _ Hzl.out]) ?_)
     have hrv : ¬ m.kind=2→r.valid:=fun hk=>absurd (Hmb.out.2 rfl) hk
     have hrz : ¬ m.kind=2→∀ z,b=some z→z.block≠g:=fun hk z hz=>by
      have h9:=Pic.len_le (hrv hk);rw[←HL.out]at h9;have:=Cs HU.out z hz (by omega);omega
     refine(FV r W H xt yt px m q (yt:Int) b l d X g N c1 _ (HT.out.ext S5.ex) (by omega) S5.ow HPJ.out Hmo.out Hmb.out.1 hq hrv HL.out (HU.out.ext S5.ex) hrz).mono ?_;rw[HSt.out]
     rintro e w6 ⟨rfl,own7,gr7⟩
     have S6:=S5.pix own7 gr7 (by omega);have SS6:=(SSk.kept (v0 := .slice (some ⟨g,0,none⟩) N c1) SS5 gr7 S5.ow (by decide) (by decide)).up gr7.size;have o6:=o5.kept gr7 (BO (v2 := .slice (some ⟨g,0,none⟩) N c1) o5 S5.ow (by decide));have hs6:=Nat.le_trans hs5 gr7.size;have q6:=q5.gr gr7 (AW (v := .slice (some ⟨g,0,none⟩) N c1) S5.ow q5 (by decide));clear S5 SS5 o5 hs5 q5 own7 gr7 j0 j1 j2 k0 k1 k2 hrz hrv;go_wp2;go_roundw
     case rel =>
      refine⟨k+1,L++m.zs,by omega,by rw[show 8*(k+1)=xt+8 by have:=HX.out;omega];go_num,S6,hs6,SS6,o6,fun o ho => ?_⟩
      by_cases ho2:o<k
      ·rw[He hLl ho2];exact Hz.out o ho2
      ·obtain rfl:o=k:=by omega
       rw[Hg hLl Hzl.out,HRB.out]
     case measure=>have:=HX.out;simp[intOf] <;> omega
    ·obtain rfl:k=W8:=by omega
     have hkE:W≤xt:=by have:=HW.out;have:=HX.out;omega
     have hd:decide (xt<W)=false:=by simp;omega
     have hd':decide ((xt:Int)<(W:Int))=false:=by simp;omega
     obtain⟨-,i0,i1,i2,-⟩:=bx3 S.b0;obtain⟨al,cl,rfl⟩:=Al SS.own;obtain⟨HI,hHI⟩:∃ HI,HI=wr.heap.size:=⟨_,rfl⟩;have hHI2:HI≤wr.heap.size:=by omega
     have hvl:∀ x,(Value.slice al j cl).ownBlock=some x→x<HI:=fun x hx=>by rw[hHI];exact(SS.own.lt x hx).2
     rw[←hHI]at SS hs;clear hHI;obtain⟨ms,hms⟩:∃ ms,ms=rowB ⟨W,H,tp⟩ r W H yt q true px0:=⟨_,rfl⟩;have HM:=Aa (show ∀ o,o<k→(ms o).ok∧sub L (o*71) 71=(ms o).zs from fun o ho=>by rw[hms];exact⟨Fw _ _ _ _ _ _ _ _ _,Hz.out o ho⟩);have HSL:=Aa (show IN ms true k by rw[hms];exact Lh HOK.out.1 (fun h=>(HOK.out.2.2 h).2.1) HPV.out hq ⟨hW1,hW4⟩);obtain⟨zs,hzs⟩:∃ zs,zs=f j:=⟨_,rfl⟩;have HZ:=Aa (show slcL ms true k=zs by rw[hzs,HPX.out,hms]);have Hzs:=Aa hzs;obtain⟨m,hm⟩:∃ m,m=zs.length:=⟨_,rfl⟩;have Hm:=Aa hm;rw[HPN.out]at S;obtain⟨px1,hpx1⟩:∃ p,p=picE ⟨W,H,tp⟩ r W H q true k (j+1):=⟨_,rfl⟩;rw[←hpx1]at S;have HP1:=Aa hpx1;have hCw:w.heap.size≤C:=by omega
     clear hms hzs hm hpx1;go_upto_region 18 with fail
     have hext:Stab (fun wa wb=>Ext wa wb) (fun i own ys wx=>match i with|0=>own= .pointer (some ⟨C,4,none⟩)|1=>own= .slice al j cl|2=>own= .slice a3 k c3|3=>own= .bool true|4=>∃(a1':Option Addr) (c1':Nat),own= .slice a1' m c1'∧wx.ownsRow HI 5 1 (.slice a1' m c1') m (zs.map (Value.int .u8))|5=>∃(p:Nat) (a1':Option Addr) (c1':Nat),own= .slice (some ⟨p,0,none⟩) 1 1∧wx.ownsRow HI 54 1 (.slice (some ⟨p,0,none⟩) 1 1) 1 [.slice a1' m c1']∧wx.ownsRow HI 5 1 (.slice a1' m c1') m (zs.map (Value.int .u8))|6=>∃(an:Option Addr) (cc:Nat) (cn:List Value),own= .slice an (j+1) cc∧SSk wx (Pb+1) wx.heap.size (.slice an (j+1) cc) (j+1) (j+1) f cn|7=>own= .pointer (some ⟨C,4,none⟩)|8=>∃(an:Option Addr) (cc:Nat) (cn:List Value),EQ w wx B C Pb X g N c1 #[.int .i64 W,.int .i64 H,.slice a n c] #[.int .i64 r.w,.int .i64 r.h,.slice b l d] #[.int .i64 W,.int .i64 H,.bool true,.int .i64 q,.slice an (j+1) cc] #[.int .i64 W,.int .i64 H,.slice (some ⟨g,0,none⟩) N c1] px1∧SSk wx (Pb+1) wx.heap.size (.slice an (j+1) cc) (j+1) (j+1) f cn|_=>True):=by
      intro i own ys wa wb e h
      match i,h with
      | 0,h|1,h|2,h|3,h|7,h=>exact h
      | 4,h=>obtain⟨a9,c9,h1,h2⟩:=h;exact⟨a9,c9,h1,Ae h2 e⟩
      | 5,h=>obtain⟨p9,a9,c9,h1,h2,h3⟩:=h;exact⟨p9,a9,c9,h1,Ae h2 e,Ae h3 e⟩
      | 6,h=>obtain⟨a9,d9,c9,h1,h2⟩:=h;exact⟨a9,d9,c9,h1,(h2.ext e).up e.size⟩
      | 8,h=>obtain⟨a9,d9,c9,h1,h2⟩:=h;exact⟨a9,d9,c9,h1.ext e,(h2.ext e).up e.size⟩
      | _+9,_=>trivial
     have Hext:=Aa hext;clear hext;refine Am (by kernel_rfl) [(86,0),(87,1),(88,2),(89,3),(90,4),(91,5),(92,6),(93,7)] [[],[0],[],[],[2,3],[2,3,4],[0,1,2,3,4,5],[0,1,2,3,4,5,6],[0,1,2,3,4,5,6,7]] (fun i own ys wx=>match i with|0=>own= .pointer (some ⟨C,4,none⟩)|1=>own= .slice al j cl|2=>own= .slice a3 k c3|3=>own= .bool true|4=>∃(a1':Option Addr) (c1':Nat),own= .slice a1' m c1'∧wx.ownsRow HI 5 1 (.slice a1' m c1') m (zs.map (Value.int .u8))|5=>∃(p:Nat) (a1':Option Addr) (c1':Nat),own= .slice (some ⟨p,0,none⟩) 1 1∧wx.ownsRow HI 54 1 (.slice (some ⟨p,0,none⟩) 1 1) 1 [.slice a1' m c1']∧wx.ownsRow HI 5 1 (.slice a1' m c1') m (zs.map (Value.int .u8))|6=>∃(an:Option Addr) (cc:Nat) (cn:List Value),own= .slice an (j+1) cc∧SSk wx (Pb+1) wx.heap.size (.slice an (j+1) cc) (j+1) (j+1) f cn|7=>own= .pointer (some ⟨C,4,none⟩)|8=>∃(an:Option Addr) (cc:Nat) (cn:List Value),EQ w wx B C Pb X g N c1 #[.int .i64 W,.int .i64 H,.slice a n c] #[.int .i64 r.w,.int .i64 r.h,.slice b l d] #[.int .i64 W,.int .i64 H,.bool true,.int .i64 q,.slice an (j+1) cc] #[.int .i64 W,.int .i64 H,.slice (some ⟨g,0,none⟩) N c1] px1∧SSk wx (Pb+1) wx.heap.size (.slice an (j+1) cc) (j+1) (j+1) f cn|_=>True) (fun Lx wx=>(∃ z,EQ w wx B C Pb X g N c1 #[.int .i64 W,.int .i64 H,.slice a n c] #[.int .i64 r.w,.int .i64 r.h,.slice b l d] #[.int .i64 W,.int .i64 H,.bool true,.int .i64 q,z] #[.int .i64 W,.int .i64 H,.slice (some ⟨g,0,none⟩) N c1] px1∧(Lx 8=false→z= .slice al j cl))∧HI≤wx.heap.size∧SSk wx (Pb+1) HI (.slice al j cl) j j f cs∧wx.ownsRow B 50 71 (.slice a3 k c3) k (L.map (Value.int .i64))) (by kernel_rfl) (by kernel_rfl) (by kernel_rfl) ?g0_r1 ?gop_r1 ?gend_r1
     case g0_r1=>exact⟨⟨_,S.ext (Ext.drewN _ 1),fun _=>rfl⟩,hHI2,SS.ext (Ext.drewN _ 1),Ae o3 (Ext.drewN _ 1)⟩
     case gop_r1 =>
      refine⟨?_,?o1,?_,?_,?o4,?o5,?o6,?_,?o8,trivial⟩ <;> (intro Lx xs wx hG hl ha hb hD hI Qo Kx hK hQo;simp only[Ad,Nat.reduceAdd,Nat.reduceEqDiff,↓reduceIte]at hQo⊢)
      case o1 =>
       have l8:Lx 8=false:=hb 8 rfl;clear hl ha hb;rw[ddq (hD 0 rfl)]at hQo⊢;clear hD hI;obtain⟨z,g1,g2⟩:=hG.1;obtain rfl:=g2 l8;obtain⟨-,k0,k1,k2,k3,k4⟩:=bx5 g1.b3;go_wp2;exact hK.out _ _ ⟨rfl,hG,kkp⟩
      case o4 =>
       clear hl ha hb;rw[ddq (hD 2 rfl),ddq (hD 3 rfl)]at hQo⊢;clear hD hI;have HG4:=Aa hG;go_wp2_with fail
       refine(Dd a3 _ c3 _ true _ (MR.of_list (ms:=ms) HG4.out.2.2.2 HM.out) HSL.out).mono ?_;rw[HZ.out,←Hm.out]
       rintro e w9 ⟨a9,c9,rfl,o9,e9⟩
       go_wp2;obtain⟨⟨z,g1,g4⟩,g2,g6,g7⟩:=HG4.out;exact hK.out _ _ ⟨⟨a9,c9,rfl,AH o9 g2⟩,⟨⟨z,g1.ext e9,g4⟩,Nat.le_trans g2 e9.size,g6.ext e9,Ae g7 e9⟩,fun i _ _ _ own ys h=>Hext.out i own ys _ _ e9 h⟩
      case o5 =>
       clear hl ha hb;have d4:∃(a1':Option Addr) (c1':Nat),(xs 4) = .slice a1' m c1'∧wx.ownsRow HI 5 1 (.slice a1' m c1') m (zs.map (Value.int .u8)):=hD 4 rfl;clear hD hI;generalize xs 4=y4 at *;obtain⟨a4,c4,rfl,o4⟩:=d4;have e8:=Ext.alloc wx (.cells #[.slice a4 m c4] 54);have o9:=World.ownsRow_lit (base:=HI) (e:=54) (size:=1) wx #[.slice a4 m c4] 1 hG.2.1 (by unfold maxLen;omega) rfl;go_wp2;obtain⟨⟨z,g1,g4⟩,g2,g6,g7⟩:=hG;exact hK.out _ _ ⟨⟨_,_,_,rfl,o9,Ae o4 e8⟩,⟨⟨z,g1.ext e8,g4⟩,Nat.le_trans g2 e8.size,g6.ext e8,Ae g7 e8⟩,fun i _ _ _ own ys h=>Hext.out i own ys _ _ e8 h⟩
      case o6 =>
       have l8:Lx 8=false:=hb 8 rfl;clear hl ha hb;rw[ddq (hD 1 rfl)]at hQo⊢;have d5:∃(p:Nat) (a1':Option Addr) (c1':Nat),(xs 5) = .slice (some ⟨p,0,none⟩) 1 1∧wx.ownsRow HI 54 1 (.slice (some ⟨p,0,none⟩) 1 1) 1 [.slice a1' m c1']∧wx.ownsRow HI 5 1 (.slice a1' m c1') m (zs.map (Value.int .u8)):=hD 5 rfl;clear hD hI;generalize xs 5=y5 at *;obtain⟨p5,a5,c5,rfl,q5,o5⟩:=d5;have o9:=hG.2.2.1.own;refine Aw _ rfl o9 (Nat.le_trans hs hG.2.1) _ _ _ rfl (.slice none 0 0) 24 Rz ER rfl (by decide) rfl ⟨p5,0,none⟩ 1 1 _ rfl rfl (q5.cells rfl) (by intro u hu;simp at hu;subst hu;rfl) (by omega) (by omega) ?_;intro v14 w14 own14 gr14 keep14;obtain⟨a14,c14,rfl⟩:=Al own14;have hst:∀(wy:World),(∀ b' own n' xs',wx.ownsRow b' 5 1 own n' xs'→wy.ownsRow b' 5 1 own n' xs')∧(∀ e' own n' xs',wx.ownsRow HI e' 1 own n' xs'→wy.ownsRow HI e' 1 own n' xs')→Stbn 9 6 [[],[0],[],[],[2,3],[2,3,4],[0,1,2,3,4,5],[0,1,2,3,4,5,6],[0,1,2,3,4,5,6,7]] (fun i own ys wx=>match i with|0=>own= .pointer (some ⟨C,4,none⟩)|1=>own= .slice al j cl|2=>own= .slice a3 k c3|3=>own= .bool true|4=>∃(a1':Option Addr) (c1':Nat),own= .slice a1' m c1'∧wx.ownsRow HI 5 1 (.slice a1' m c1') m (zs.map (Value.int .u8))|5=>∃(p:Nat) (a1':Option Addr) (c1':Nat),own= .slice (some ⟨p,0,none⟩) 1 1∧wx.ownsRow HI 54 1 (.slice (some ⟨p,0,none⟩) 1 1) 1 [.slice a1' m c1']∧wx.ownsRow HI 5 1 (.slice a1' m c1') m (zs.map (Value.int .u8))|6=>∃(an:Option Addr) (cc:Nat) (cn:List Value),own= .slice an (j+1) cc∧SSk wx (Pb+1) wx.heap.size (.slice an (j+1) cc) (j+1) (j+1) f cn|7=>own= .pointer (some ⟨C,4,none⟩)|8=>∃(an:Option Addr) (cc:Nat) (cn:List Value),EQ w wx B C Pb X g N c1 #[.int .i64 W,.int .i64 H,.slice a n c] #[.int .i64 r.w,.int .i64 r.h,.slice b l d] #[.int .i64 W,.int .i64 H,.bool true,.int .i64 q,.slice an (j+1) cc] #[.int .i64 W,.int .i64 H,.slice (some ⟨g,0,none⟩) N c1] px1∧SSk wx (Pb+1) wx.heap.size (.slice an (j+1) cc) (j+1) (j+1) f cn|_=>True) wx wy:=by
        intro wy hy ii hii hne hc own ys h
        match ii,h with
        | 0,h|1,h|2,h|3,h=>exact h
        | 4,h=>obtain⟨a9,c9,h1,h2⟩:=h;exact⟨a9,c9,h1,hy.1 _ _ _ _ h2⟩
        | 5,h=>obtain⟨p9,a9,c9,h1,h2,h3⟩:=h;exact⟨p9,a9,c9,h1,hy.2 _ _ _ _ h2,hy.2 _ _ _ _ h3⟩
        | 6,h=>exact absurd rfl hne
        | 7,h|8,h=>exact absurd hc (by decide)
        | _+9,_=>trivial
       obtain⟨⟨z,g1,g4⟩,g2,g6,g7⟩:=hG;have hz:=g4 l8;subst hz;have hS:=g1.row o9 gr14 (by omega) (by decide) (by decide) (by decide);have hk6:=SSk.again g6 gr14 (keep14 _ _ _ _ (Nat.le_refl _) o9);have hlt4:∀ y,a5=some y→y.block<w14.heap.size:=fun y hy=>Nat.lt_of_lt_of_le (o5.lt y.block (by rw[hy];rfl)).2 gr14.size
       have happ:SSk w14 (Pb+1) w14.heap.size (.slice a14 (j+1) c14) (j+1) (j+1) f _:=SSk.app (hi':=w14.heap.size) (a1:=a5) (c1:=c5) g6 (by rw[←Hzs.out,←Hm.out];exact o5) (Nat.le_trans g2 gr14.size) hlt4 (by rw[←Hzs.out,←Hm.out];exact own14) gr14;exact hQo _ _ (hK.out _ _ ⟨⟨_,_,_,rfl,happ⟩,⟨⟨_,hS,fun _=>rfl⟩,Nat.le_trans g2 gr14.size,hk6,g7.kept gr14 (BO g7 o9 (by decide))⟩,hst _ ⟨fun _ _ _ _ h=>Jp o9 gr14 h,fun _ _ _ _ h=>Le h gr14 hvl⟩⟩)
      case o8 =>
       clear hl ha hb;rw[ddq (hD 7 rfl)]at hQo⊢;have d6:∃(an:Option Addr) (cc:Nat) (cn:List Value),(xs 6) = .slice an (j+1) cc∧SSk wx (Pb+1) wx.heap.size (.slice an (j+1) cc) (j+1) (j+1) f cn:=hD 6 rfl;clear hD hI;generalize xs 6=y6 at *;obtain⟨a6,d6,cn6,rfl,s6⟩:=d6;obtain⟨⟨z,g1,g4⟩,g2,g6,g7⟩:=hG;obtain⟨-,k0,k1,k2,k3,k4⟩:=bx5 g1.b3;obtain⟨f0,f1,f2,f3,f4⟩:=fz5 g1.b3;go_wp2;have hst:∀(wy:World),wx.grownBy wy (some C)→Stbn 9 8 [[],[0],[],[],[2,3],[2,3,4],[0,1,2,3,4,5],[0,1,2,3,4,5,6],[0,1,2,3,4,5,6,7]] (fun i own ys wx=>match i with|0=>own= .pointer (some ⟨C,4,none⟩)|1=>own= .slice al j cl|2=>own= .slice a3 k c3|3=>own= .bool true|4=>∃(a1':Option Addr) (c1':Nat),own= .slice a1' m c1'∧wx.ownsRow HI 5 1 (.slice a1' m c1') m (zs.map (Value.int .u8))|5=>∃(p:Nat) (a1':Option Addr) (c1':Nat),own= .slice (some ⟨p,0,none⟩) 1 1∧wx.ownsRow HI 54 1 (.slice (some ⟨p,0,none⟩) 1 1) 1 [.slice a1' m c1']∧wx.ownsRow HI 5 1 (.slice a1' m c1') m (zs.map (Value.int .u8))|6=>∃(an:Option Addr) (cc:Nat) (cn:List Value),own= .slice an (j+1) cc∧SSk wx (Pb+1) wx.heap.size (.slice an (j+1) cc) (j+1) (j+1) f cn|7=>own= .pointer (some ⟨C,4,none⟩)|8=>∃(an:Option Addr) (cc:Nat) (cn:List Value),EQ w wx B C Pb X g N c1 #[.int .i64 W,.int .i64 H,.slice a n c] #[.int .i64 r.w,.int .i64 r.h,.slice b l d] #[.int .i64 W,.int .i64 H,.bool true,.int .i64 q,.slice an (j+1) cc] #[.int .i64 W,.int .i64 H,.slice (some ⟨g,0,none⟩) N c1] px1∧SSk wx (Pb+1) wx.heap.size (.slice an (j+1) cc) (j+1) (j+1) f cn|_=>True) wx wy:=by
        intro wy hy ii hii hne hc own ys h
        match ii,h with
        | 0,h|1,h|2,h|3,h|7,h=>exact h
        | 4,h=>obtain⟨a9,c9,h1,h2⟩:=h;exact⟨a9,c9,h1,BI h2 hy (by omega)⟩
        | 5,h=>obtain⟨p9,a9,c9,h1,h2,h3⟩:=h;exact⟨p9,a9,c9,h1,BI h2 hy (by omega),BI h3 hy (by omega)⟩
        | 6,h=>obtain⟨a9,d9,c9,h1,h2⟩:=h;exact⟨a9,d9,c9,h1,(SSk.gr h2 hy (by omega)).up hy.size⟩
        | 8,h=>exact absurd rfl hne
        | _+9,_=>trivial
       have gB:=gs1 wx C 4 (.slice a6 (j+1) d6);have hS:=g1.put (.slice a6 (j+1) d6) hCw hC0 (by omega);exact hQo undef _ (hK.out _ _ ⟨⟨a6,d6,cn6,hS,(SSk.gr s6 gB (by omega)).up gB.size⟩,⟨⟨_,hS,fun h=>by cases h⟩,Nat.le_trans g2 gB.size,SSk.gr g6 gB (by omega),g7.kept gB (AU g7 g1.b3 (by decide))⟩,hst _ gB⟩)
      all_goals
       clear hl ha hb hD hI;go_wp2;exact hK.out _ _ ⟨rfl,hG,kkp⟩
     clear Hext;intro xs wx hV hG0;obtain⟨Lx,hL,hG⟩:=hG0;have l8:Lx 8=true:=hL 8 (by decide);clear hL;have d8:∃(an:Option Addr) (cc:Nat) (cn:List Value),EQ w wx B C Pb X g N c1 #[.int .i64 W,.int .i64 H,.slice a n c] #[.int .i64 r.w,.int .i64 r.h,.slice b l d] #[.int .i64 W,.int .i64 H,.bool true,.int .i64 q,.slice an (j+1) cc] #[.int .i64 W,.int .i64 H,.slice (some ⟨g,0,none⟩) N c1] px1∧SSk wx (Pb+1) wx.heap.size (.slice an (j+1) cc) (j+1) (j+1) f cn:=hV 8 (by decide);clear hV;simp only[Ad,Nat.reduceAdd,Nat.reduceEqDiff,↓reduceIte];generalize xs 0=y0,xs 1=y1,xs 2=y2,xs 3=y3,xs 4=y4,xs 5=y5,xs 6=y6,xs 7=y7,xs 8=y8 at *
     replace hG:(∃ z,EQ w wx B C Pb X g N c1 #[.int .i64 W,.int .i64 H,.slice a n c] #[.int .i64 r.w,.int .i64 r.h,.slice b l d] #[.int .i64 W,.int .i64 H,.bool true,.int .i64 q,z] #[.int .i64 W,.int .i64 H,.slice (some ⟨g,0,none⟩) N c1] px1∧(Lx 8=false→z= .slice al j cl))∧HI≤wx.heap.size∧SSk wx (Pb+1) HI (.slice al j cl) j j f cs∧wx.ownsRow B 50 71 (.slice a3 k c3) k (L.map (Value.int .i64)):=hG
     obtain⟨a8,d8,cn8,S8,s8⟩:=d8;have hsn:=Nat.le_trans hs hG.2.1;have HS8:=Aa S8;have Hs8:=Aa s8;clear hG S8 s8 S SS o3 i0 i1 i2;go_wp2;go_roundw
     case rel=>exact⟨j+1,_,cn8,by omega,by rw[show 8*(j+1)=yt+8 by have:=HY.out;omega];go_num,by rw[←HP1.out];exact HS8.out,hsn,Hs8.out⟩
     case measure=>have:=HY.out;simp[intOf] <;> omega
  ·obtain rfl:j=H8:=by omega
   have hjE:H≤yt:=by have:=HH.out;have:=HY.out;omega
   have hd:decide (yt<H)=false:=by simp;omega
   have hd':decide ((yt:Int)<(H:Int))=false:=by simp;omega
   obtain⟨al,cl,rfl⟩:=Al SS.own;obtain⟨-,k0,k1,k2,k3,k4⟩:=bx5 S.b3;obtain⟨-,j0,j1,j2,j3,j4⟩:=bx5 S.b2;obtain⟨f0,f1,f2,f3,f4⟩:=fz5 S.b2;have HS9:=Aa S;have HSS9:=Aa SS;have hB3:=lt_of_block S.b2;clear S SS;go_wp2;refine bodyPost_ret (v := .agg #[.int .i64 W,.int .i64 H,.bool true,.int .i64 q,.slice al j cl]) (results_cell_row rfl _ _ (B+2) 28 #[.int .i64 W,.int .i64 H,.bool true,.int .i64 q,.slice al j cl] (0,0) _ rfl (BA HS9.out.b2) Rw rfl Bi) rfl ⟨_,_,cs,rfl,?_,?_⟩
   ·have hg:=gs5 wr (B+2) 0 1 2 3 4 (.int .i64 W) (.int .i64 H) (.bool true) (.int .i64 q) (.slice al j cl);exact((SSk.gr HSS9.out hg (by omega)).mono (by omega)).up hg.size
   ·exact Ext.grown HS9.out.ex (gs5 wr (B+2) 0 1 2 3 4 (.int .i64 W) (.int .i64 H) (.bool true) (.int .i64 q) (.slice al j cl)) (fun p hp=>by cases hp;omega)
theorem FD (W H:Nat)(tp:List Int)(r:Pic)(q:Nat)(a b:Option Addr)(c d n l:Nat)(w:World)(hT:TabQ w)(hn:n=tp.length)(hl:l=r.px.length)(lc:l≤9223372036854775807)(s:Sl w a n (tp.map (Value.int .i64)))(u:Sl w b l (r.px.map (Value.int .i64)))(hok:okE ⟨W,H,tp⟩ r false q):
 Calls Tryz.prog 7 #[.agg #[.int .i64 W,.int .i64 H,.slice a n c],.agg #[.int .i64 r.w,.int .i64 r.h,.slice b l d],.bool false,.int .i64 q] w (EnR w W H q false (H/8) (slcE ⟨W,H,tp⟩ r W H q false (W/8))):=by
 obtain⟨W8,H8,N,hW,hH,⟨hW1,hW4⟩,⟨hH1,hH4⟩,hN,hN1,hN2,hWH,htl,hq⟩:=Ds hok;rw[show H/8=H8 by omega,show W/8=W8 by omega];have HOK:=Aa hok;have HWH:=Aa hWH;have HNN:=Aa hN;have HN:=Aa hn;have HL:=Aa hl;have HS:=Aa s;have HU:=Aa u;obtain⟨f,hf⟩:∃ f,f=slcE ⟨W,H,tp⟩ r W H q false W8:=⟨_,rfl⟩;rw[←hf];have HF:=Aa hf;have HW:=Aa hW;have HH:=Aa hH;have hWl:8≤W∧W≤32:=by omega
 have hHl:8≤H∧H≤32:=by omega
 have hnl:n≤1024:=by omega
 have hw8:w.heap.size≤w.heap.size:=Nat.le_refl _;clear hok hWH hN hf hW hH hn htl hw8;have HT:=Aa hT;have hT0:=World.block_lt_of_cell? w _ (hT 0 (by omega));simp only at hT0;clear hT hl s u;obtain⟨p0,p1,p2,E0⟩:=bxs3 w (.cells #[.int .i64 W,.int .i64 H,.slice a n c] 30) (.cells #[.int .i64 r.w,.int .i64 r.h,.slice b l d] 30) (.cells #[.int .i64 0,.int .i64 0,.bool false,.int .i64 0,.slice none 0 0] 28);obtain⟨-,i0,i1,i2,-⟩:=bx3 p0;obtain⟨-,j0,j1,j2,-⟩:=bx3 p1;go_enter Tryz.func7,Tryz.ntmps7
 go_wp2_with fail
 refine(Bb ⟨W,H,tp⟩ a c n _ HN.out (by omega) (HS.out.ext E0)).mono ?_;rw[decide_eq_true HOK.out.1]
 rintro e w1 ⟨rfl,e1⟩
 have q0:=e1.blk p0;have q1:=e1.blk p1;have q2:=e1.blk p2;have E1:=E0.trans e1;clear p0 p1 p2 E0 e1 i0 i1 i2 j0 j1 j2;obtain⟨-,i0,i1,i2,-⟩:=bx3 q0;obtain⟨-,j0,j1,j2,-⟩:=bx3 q1;go_wp2_with fail
 refine(KD q _ ⟨by omega,by omega⟩).mono ?_
 rintro e w2 ⟨rfl,rfl⟩
 go_wp2_with fail
 refine(Du ⟨W,H,tp⟩ r a b c d n l _ HN.out HL.out (by omega) lc (HS.out.ext E1) (HU.out.ext E1)).mono ?_;rw[decide_eq_true (HOK.out.2.2 rfl)]
 rintro e w2 ⟨rfl,e1⟩
 have p0:=e1.blk q0;have p1:=e1.blk q1;have p2:=e1.blk q2;have E0:=E1.trans e1;clear q0 q1 q2 E1 e1 i0 i1 i2 j0 j1 j2;obtain⟨-,i0,i1,i2,-⟩:=bx3 p0;obtain⟨-,j0,j1,j2,-⟩:=bx3 p1;have q0:=p0;have q1:=p1;have q2:=p2;have E1:=E0;clear p0 p1 p2 E0;go_upto_region 4 with fail
 have e2:=Ext.alloc w2 (.cells #[.int .i64 W,.int .i64 H,.bool false,.int .i64 q,.slice none 0 0] 28);have z0:=e2.blk q0;have z1:=e2.blk q1;have z2:=e2.blk q2;have z3:=Aj w2 (.cells #[.int .i64 W,.int .i64 H,.bool false,.int .i64 q,.slice none 0 0] 28);have E2:=E1.trans e2;have hC0:=lt_of_block q2;obtain⟨B,hB⟩:∃ B,B=w.heap.size:=⟨_,rfl⟩;have hB2:w.heap.size≤B:=by omega
 try simp only[World.size_alloc]
 obtain⟨C,hC⟩:∃ C,C=w2.heap.size:=⟨_,rfl⟩;rw[←hC]at z3 hC0⊢;rw[←hB]at z0 z1 z2 hC0⊢;clear hB q0 q1 q2 E1 e2 hC i0 i1 i2 j0 j1 j2;generalize w2.alloc (.cells #[.int .i64 W,.int .i64 H,.bool false,.int .i64 q,.slice none 0 0] 28)=w3 at *;have hC1:=lt_of_block z3;obtain⟨-,i0,i1,i2,-⟩:=bx3 z0;go_wp2_with fail
 refine(Fq W H 128 N _ ⟨by omega,by omega,by have:=HW.out;omega⟩ ⟨by omega,by omega,by have:=HH.out;omega⟩ (by omega) HWH.out hN2).mono ?_
 rintro e w4 ⟨a1,c1,rfl,own1,e4⟩
 have own2:w4.ownsRow w3.heap.size 3 1 (.slice a1 N c1) N ((picE ⟨W,H,tp⟩ r W H q false W8 0).map (Value.int .i64)):=by
  unfold picE;rw[←HNN.out,List.map_replicate];exact own1
 obtain⟨X,hX⟩:∃ X,X=w3.heap.size:=⟨_,rfl⟩;rw[←hX]at own2 hC1;clear hX own1;have hgo:∃ g,a1=some ⟨g,0,none⟩∧X≤g:=by
  rcases own2.2 with⟨-,h0⟩|⟨g,cc,cur,hv,hb,hb2,-⟩
  ·omega
  ·simp only[Value.slice.injEq]at hv;exact⟨g,hv.1,hb⟩
 obtain⟨g,rfl,hg⟩:=hgo;go_upto_region 5 with fail
 have e5:=Ext.alloc w4 (.cells #[.int .i64 W,.int .i64 H,.slice (some ⟨g,0,none⟩) N c1] 30);have b4:=Aj w4 (.cells #[.int .i64 W,.int .i64 H,.slice (some ⟨g,0,none⟩) N c1] 30);have S0:EQ w (w4.alloc (.cells #[.int .i64 W,.int .i64 H,.slice (some ⟨g,0,none⟩) N c1] 30)) B C w4.heap.size X g N c1 #[.int .i64 W,.int .i64 H,.slice a n c] #[.int .i64 r.w,.int .i64 r.h,.slice b l d] #[.int .i64 W,.int .i64 H,.bool false,.int .i64 q,.slice none 0 0] #[.int .i64 W,.int .i64 H,.slice (some ⟨g,0,none⟩) N c1] (picE ⟨W,H,tp⟩ r W H q false W8 0) :=
  ⟨(E2.trans e4).trans e5,e5.blk (e4.blk z0),e5.blk (e4.blk z1),e5.blk (e4.blk z2),e5.blk (e4.blk z3),b4,Ae own2 e5⟩
 have hCP:C<w4.heap.size:=lt_of_block (e4.blk z3);have hs0:=lt_of_block b4;try simp only[World.size_alloc]
 obtain⟨Pb,hPb⟩:∃ Pb,Pb=w4.heap.size:=⟨_,rfl⟩;rw[←hPb]at S0 hCP hs0⊢;clear hPb z0 z1 z2 z3 E2 e4 e5 b4 own2 i0 i1 i2;generalize w4.alloc (.cells #[.int .i64 W,.int .i64 H,.slice (some ⟨g,0,none⟩) N c1] 30)=w5 at *;have SS0:=SSk.nil w5 (Pb+1) w5.heap.size f hs0;go_wp2_with fail
 go_loopw [11] (fun yy wr=>∃(j:Nat) (zv:Value) (cs:List Value),j≤H8∧yy= .int .i64 ((8*j:Nat):Int)∧EQ w wr B C Pb X g N c1 #[.int .i64 W,.int .i64 H,.slice a n c] #[.int .i64 r.w,.int .i64 r.h,.slice b l d] #[.int .i64 W,.int .i64 H,.bool false,.int .i64 q,zv] #[.int .i64 W,.int .i64 H,.slice (some ⟨g,0,none⟩) N c1] (picE ⟨W,H,tp⟩ r W H q false W8 j)∧Pb+1≤wr.heap.size∧SSk wr (Pb+1) wr.heap.size zv j j f cs) (fun yy _=>H-(intOf yy).toNat)
 case atStart=>exact⟨0,_,[],by omega,rfl,S0,hs0,SS0⟩
 case round =>
  clear S0 hs0 SS0;obtain⟨j,zv,cs,hj,rfl,S,hs,SS⟩:=hrel;obtain⟨-,i0,i1,i2,-⟩:=bx3 S.b0;obtain⟨yt,hyt⟩:∃ y,y=8*j:=⟨_,rfl⟩;rw[←hyt];have HY:=Aa hyt;clear hyt
  by_cases hlt:j<H8
  ·have hjH:yt+8≤H:=by have:=HH.out;have:=HY.out;omega
   have hd:decide (yt<H)=true:=by simp;omega
   have hd':decide ((yt:Int)<(H:Int))=true:=by simp;omega
   have hpv:=DN (t:=⟨W,H,tp⟩) (r:=r) (q:=q) (intra:=false) (W8:=W8) HOK.out.1.1 HOK.out.1.2.1 j;obtain⟨px0,hpx⟩:∃ p,p=picE ⟨W,H,tp⟩ r W H q false W8 j:=⟨_,rfl⟩;rw[←hpx]at S hpv;have HPX:=Aa (show f j=slcL (rowB ⟨W,H,tp⟩ r W H yt q false px0) false W8 by rw[HF.out,hpx,HY.out];rfl);have HPN:=Aa (show rowE ⟨W,H,tp⟩ r W H yt q false px0 W8=picE ⟨W,H,tp⟩ r W H q false W8 (j+1) by rw[hpx,HY.out];rfl);have HPV:=Aa hpv;clear hpx hpv;have oA:=World.ownsRow_nil wr B 50 71;go_wp2_with fail
   go_loopw [12,13] (fun v xx wr=>∃(k:Nat) (L:List Int),k≤W8∧xx= .int .i64 ((8*k:Nat):Int)∧EQ w wr B C Pb X g N c1 #[.int .i64 W,.int .i64 H,.slice a n c] #[.int .i64 r.w,.int .i64 r.h,.slice b l d] #[.int .i64 W,.int .i64 H,.bool false,.int .i64 q,zv] #[.int .i64 W,.int .i64 H,.slice (some ⟨g,0,none⟩) N c1] (rowE ⟨W,H,tp⟩ r W H yt q false px0 k)∧Pb+1≤wr.heap.size∧SSk wr (Pb+1) wr.heap.size zv j j f cs∧wr.ownsRow B 50 71 v k (L.map (Value.int .i64))∧(∀ o,o<k→sub L (o*71) 71=(rowB ⟨W,H,tp⟩ r W H yt q false px0 o).zs)) (fun _ xx _=>W-(intOf xx).toNat)
   case atStart=>exact⟨0,[],by omega,rfl,S,hs,SS,oA,fun o ho=>absurd ho (by omega)⟩
   case round =>
    clear S SS hs oA i0 i1 i2 hd hd';obtain⟨k,L,hk,rfl,S,hs,SS,o3,hz⟩:=hrel;have hLl:L.length=k*71:=by simpa using o3.1
    have Hz:=Aa hz;clear hz;obtain⟨a3,c3,rfl⟩:=Al o3;obtain⟨xt,hxt⟩:∃ x,x=8*k:=⟨_,rfl⟩;rw[←hxt];have HX:=Aa hxt;clear hxt
    by_cases hlk:k<W8
    ·have hkW:xt+8≤W:=by have:=HW.out;have:=HX.out;omega
     have hd:decide (xt<W)=true:=by simp;omega
     have hd':decide ((xt:Int)<(W:Int))=true:=by simp;omega
     have Z1:=IB.new wr 50 (zl 71);have e1:=Ext.alloc wr (.cells (ic (zl 71)) 50);have HPL0:=FQ HOK.out.1 HW.out HH.out hlk hlt;rw[←HX.out,←HY.out]at HPL0;have HPL:=Aa HPL0;clear HPL0;have S1:=S.ext e1;have SS1:=(SS.ext e1).up e1.size;have o1:=Ae o3 e1;have hlst:∀ x,(Value.slice a3 k c3).ownBlock=some x→x<wr.heap.size:=fun x hx=>(o3.lt x hx).2
     obtain⟨-,i0,i1,i2,-⟩:=bx3 S1.b0;obtain⟨-,j0,j1,j2,-⟩:=bx3 S1.b1;obtain⟨-,k0,k1,k2,-⟩:=bx3 S1.b4;obtain⟨-,i3,-⟩:=bx3 S.b0;have hs1:=Nat.le_trans hs e1.size;have hq0:=lt_of_block S.b4;obtain⟨px,hpx⟩:∃ p,p=(rowE ⟨W,H,tp⟩ r W H yt q false px0 k):=⟨_,rfl⟩;have HPXk:=Aa hpx;have hpv:Pic.valid ⟨W,H,px⟩:=by rw[hpx];exact Ce HPV.out k
     rw[←hpx]at S1;have HS0:=Aa S;have HSS0:=Aa SS;have HO0:=Aa o3;clear hpx S SS o3;have HPK:=Aa hpv;have HPJ0:=FQ hpv HW.out HH.out hlk hlt;rw[←HX.out,←HY.out]at HPJ0;have HPJ:=Aa HPJ0;clear HPJ0;have hxl:px.length=N:=by
      have:=S1.ow.1
      simpa using this
     have Hxl:=Aa hxl;clear hxl;go_wp2_with (refine Au 50 rfl rfl 71 Bf ?_;(try simp only[World.size_alloc]))
     refine(FC ⟨W,H,tp⟩ r ⟨W,H,px⟩ (xt:Int) (yt:Int) q (yt:Int) a b (some ⟨g,0,none⟩) c d c1 n l N _ (HT.out.ext S1.ex) HN.out HL.out Hxl.out.symm (by omega) lc (by omega) (HS.out.ext S1.ex) (HU.out.ext S1.ex) (Sl.of_owns S1.ow) ⟨HOK.out.2.2 rfl,KJ HOK.out.1 HPK.out,HPL.out,⟨by omega,by omega⟩,by omega,by omega⟩).mono ?_;rw[Q9 ⟨HOK.out.2.2 rfl,KJ HOK.out.1 HPK.out,HPL.out,⟨by omega,by omega⟩,by omega,by omega⟩];have hmb:=Jy (t:=⟨W,H,tp⟩) (r:=r) (intra:=false) xt yt HOK.out.1 (fun h=>(HOK.out.2.2 h).2.1) HPK.out hq;have hmo:=Fw ⟨W,H,tp⟩ r W H px xt yt q false;have HSt:=Aa (show bldS r ⟨W,H,px⟩ xt yt (emB ⟨W,H,tp⟩ r W H px xt yt q false) q (yt:Int) 4=rowE ⟨W,H,tp⟩ r W H yt q false px0 (k+1) by rw[HPXk.out,HX.out];rfl);have HRB:=Aa (show emB ⟨W,H,tp⟩ r W H px xt yt q false=rowB ⟨W,H,tp⟩ r W H yt q false px0 k by rw[HPXk.out,HX.out];rfl);generalize emB ⟨W,H,tp⟩ r W H px xt yt q false=m at *;have Hmb:=Aa hmb;have Hmo:=Aa hmo;have Hzl:=Aa (Mac.zs_len hmo);clear hmb hmo
     rintro e w2 ⟨rfl,e2⟩
     have Z2:=Z1.ext e2;have e12:=e1.trans e2;clear Z1 S1 SS1 o1 e1 e2 i0 i1 i2 j0 j1 j2 k0 k1 k2 i3;go_wp2_with (refine Af 50 _ _ rfl rfl Z2 0 71 rfl _ rfl m.zs rfl Ah Hzl.out (by simp[zl]) ?_;intro w3 q3 g3;refine Hid.out ?_)
     rw[Ap (by rw[AB,Hzl.out])]at q3;have e3:Ext wr w3:=Ext.grown e12 g3 (fun x hx=>by cases hx;exact Nat.le_refl _);have S3:=HS0.out.ext e3;have SS3:=(HSS0.out.ext e3).up e3.size;have o4:=Ae HO0.out e3;have hs3:=Nat.le_trans hs e3.size;rw[←HPXk.out]at S3;clear Z2 g3 e12 e3 hs hs1;obtain⟨mq,hmq⟩:∃ x,x=wr.heap.size:=⟨_,rfl⟩;rw[←hmq]at q3 hlst hq0⊢;clear hmq;refine Aa ?_;go_wp2_with (first|(at_builtin;refine Dp _ o4 (Nat.le_of_lt (lt_of_block S3.b0)) m.zs Hzl.out rfl _ _ rfl rfl rfl (by omega) ?_;intro v5 w5 own5 gr5;refine Hid.out ?_)|refine Fb _ rfl rfl m.zs rfl Hzl.out ?_|(refine Ab 50 _ rfl rfl q3 0 71 rfl _ Ro rfl Ah (by rw[Hzl.out];omega) _ (by rw[Ak _ _ Hzl.out]) ?_))
     have S5:=S3.row o4 gr5 hB2 (by decide) (by decide) (by decide);have SS5:=(SSk.kept SS3 gr5 o4 (by decide) (by decide)).up gr5.size;have q5:=q3.gr gr5 (fun e=>by have:=hlst mq e;omega);have hs5:=Nat.le_trans hs3 gr5.size;have o5:w5.ownsRow B 50 71 v5 (k+1) ((L++m.zs).map (Value.int .i64)):=by rw[List.map_append];exact own5
     obtain⟨a5,c5,rfl⟩:=Al o5;clear S3 SS3 q3 o4 hs3 own5 gr5;refine Aa ?_;obtain⟨-,j0,j1,j2,-⟩:=bx3 S5.b1;obtain⟨-,k0,k1,k2,-⟩:=bx3 S5.b4;go_wp2_with (refine Ab 50 _ rfl rfl q5 0 71 rfl _ Ro rfl Ah (by rw[Hzl.out];omega) _ (by rw[Ak _ _ Hzl.out]) ?_)
     have hrv : ¬ m.kind=2→r.valid:=fun hk=>(HOK.out.2.2 rfl).2.1
     have hrz : ¬ m.kind=2→∀ z,b=some z→z.block≠g:=fun hk z hz=>by
      have h9:=Pic.len_le (hrv hk);rw[←HL.out]at h9;have:=Cs HU.out z hz (by omega);omega
     refine(FV r W H xt yt px m q (yt:Int) b l d X g N c1 _ (HT.out.ext S5.ex) (by omega) S5.ow HPJ.out Hmo.out Hmb.out.1 hq hrv HL.out (HU.out.ext S5.ex) hrz).mono ?_;rw[HSt.out]
     rintro e w6 ⟨rfl,own7,gr7⟩
     have S6:=S5.pix own7 gr7 (by omega);have SS6:=(SSk.kept (v0 := .slice (some ⟨g,0,none⟩) N c1) SS5 gr7 S5.ow (by decide) (by decide)).up gr7.size;have o6:=o5.kept gr7 (BO (v2 := .slice (some ⟨g,0,none⟩) N c1) o5 S5.ow (by decide));have hs6:=Nat.le_trans hs5 gr7.size;have q6:=q5.gr gr7 (AW (v := .slice (some ⟨g,0,none⟩) N c1) S5.ow q5 (by decide));clear S5 SS5 o5 hs5 q5 own7 gr7 j0 j1 j2 k0 k1 k2 hrz hrv;go_wp2;go_roundw
     case rel =>
      refine⟨k+1,L++m.zs,by omega,by rw[show 8*(k+1)=xt+8 by have:=HX.out;omega];go_num,S6,hs6,SS6,o6,fun o ho => ?_⟩
      by_cases ho2:o<k
      ·rw[He hLl ho2];exact Hz.out o ho2
      ·obtain rfl:o=k:=by omega
       rw[Hg hLl Hzl.out,HRB.out]
     case measure=>have:=HX.out;simp[intOf] <;> omega
    ·obtain rfl:k=W8:=by omega
     have hkE:W≤xt:=by have:=HW.out;have:=HX.out;omega
     have hd:decide (xt<W)=false:=by simp;omega
     have hd':decide ((xt:Int)<(W:Int))=false:=by simp;omega
     obtain⟨-,i0,i1,i2,-⟩:=bx3 S.b0;obtain⟨al,cl,rfl⟩:=Al SS.own;obtain⟨HI,hHI⟩:∃ HI,HI=wr.heap.size:=⟨_,rfl⟩;have hHI2:HI≤wr.heap.size:=by omega
     have hvl:∀ x,(Value.slice al j cl).ownBlock=some x→x<HI:=fun x hx=>by rw[hHI];exact(SS.own.lt x hx).2
     rw[←hHI]at SS hs;clear hHI;obtain⟨ms,hms⟩:∃ ms,ms=rowB ⟨W,H,tp⟩ r W H yt q false px0:=⟨_,rfl⟩;have HM:=Aa (show ∀ o,o<k→(ms o).ok∧sub L (o*71) 71=(ms o).zs from fun o ho=>by rw[hms];exact⟨Fw _ _ _ _ _ _ _ _ _,Hz.out o ho⟩);have HSL:=Aa (show IN ms false k by rw[hms];exact Lh HOK.out.1 (fun h=>(HOK.out.2.2 h).2.1) HPV.out hq ⟨hW1,hW4⟩);obtain⟨zs,hzs⟩:∃ zs,zs=f j:=⟨_,rfl⟩;have HZ:=Aa (show slcL ms false k=zs by rw[hzs,HPX.out,hms]);have Hzs:=Aa hzs;obtain⟨m,hm⟩:∃ m,m=zs.length:=⟨_,rfl⟩;have Hm:=Aa hm;rw[HPN.out]at S;obtain⟨px1,hpx1⟩:∃ p,p=picE ⟨W,H,tp⟩ r W H q false k (j+1):=⟨_,rfl⟩;rw[←hpx1]at S;have HP1:=Aa hpx1;have hCw:w.heap.size≤C:=by omega
     clear hms hzs hm hpx1;go_upto_region 18 with fail
     have hext:Stab (fun wa wb=>Ext wa wb) (fun i own ys wx=>match i with|0=>own= .pointer (some ⟨C,4,none⟩)|1=>own= .slice al j cl|2=>own= .slice a3 k c3|3=>own= .bool false|4=>∃(a1':Option Addr) (c1':Nat),own= .slice a1' m c1'∧wx.ownsRow HI 5 1 (.slice a1' m c1') m (zs.map (Value.int .u8))|5=>∃(p:Nat) (a1':Option Addr) (c1':Nat),own= .slice (some ⟨p,0,none⟩) 1 1∧wx.ownsRow HI 54 1 (.slice (some ⟨p,0,none⟩) 1 1) 1 [.slice a1' m c1']∧wx.ownsRow HI 5 1 (.slice a1' m c1') m (zs.map (Value.int .u8))|6=>∃(an:Option Addr) (cc:Nat) (cn:List Value),own= .slice an (j+1) cc∧SSk wx (Pb+1) wx.heap.size (.slice an (j+1) cc) (j+1) (j+1) f cn|7=>own= .pointer (some ⟨C,4,none⟩)|8=>∃(an:Option Addr) (cc:Nat) (cn:List Value),EQ w wx B C Pb X g N c1 #[.int .i64 W,.int .i64 H,.slice a n c] #[.int .i64 r.w,.int .i64 r.h,.slice b l d] #[.int .i64 W,.int .i64 H,.bool false,.int .i64 q,.slice an (j+1) cc] #[.int .i64 W,.int .i64 H,.slice (some ⟨g,0,none⟩) N c1] px1∧SSk wx (Pb+1) wx.heap.size (.slice an (j+1) cc) (j+1) (j+1) f cn|_=>True):=by
      intro i own ys wa wb e h
      match i,h with
      | 0,h|1,h|2,h|3,h|7,h=>exact h
      | 4,h=>obtain⟨a9,c9,h1,h2⟩:=h;exact⟨a9,c9,h1,Ae h2 e⟩
      | 5,h=>obtain⟨p9,a9,c9,h1,h2,h3⟩:=h;exact⟨p9,a9,c9,h1,Ae h2 e,Ae h3 e⟩
      | 6,h=>obtain⟨a9,d9,c9,h1,h2⟩:=h;exact⟨a9,d9,c9,h1,(h2.ext e).up e.size⟩
      | 8,h=>obtain⟨a9,d9,c9,h1,h2⟩:=h;exact⟨a9,d9,c9,h1.ext e,(h2.ext e).up e.size⟩
      | _+9,_=>trivial
     have Hext:=Aa hext;clear hext;refine Am (by kernel_rfl) [(86,0),(87,1),(88,2),(89,3),(90,4),(91,5),(92,6),(93,7)] [[],[0],[],[],[2,3],[2,3,4],[0,1,2,3,4,5],[0,1,2,3,4,5,6],[0,1,2,3,4,5,6,7]] (fun i own ys wx=>match i with|0=>own= .pointer (some ⟨C,4,none⟩)|1=>own= .slice al j cl|2=>own= .slice a3 k c3|3=>own= .bool false|4=>∃(a1':Option Addr) (c1':Nat),own= .slice a1' m c1'∧wx.ownsRow HI 5 1 (.slice a1' m c1') m (zs.map (Value.int .u8))|5=>∃(p:Nat) (a1':Option Addr) (c1':Nat),own= .slice (some ⟨p,0,none⟩) 1 1∧wx.ownsRow HI 54 1 (.slice (some ⟨p,0,none⟩) 1 1) 1 [.slice a1' m c1']∧wx.ownsRow HI 5 1 (.slice a1' m c1') m (zs.map (Value.int .u8))|6=>∃(an:Option Addr) (cc:Nat) (cn:List Value),own= .slice an (j+1) cc∧SSk wx (Pb+1) wx.heap.size (.slice an (j+1) cc) (j+1) (j+1) f cn|7=>own= .pointer (some ⟨C,4,none⟩)|8=>∃(an:Option Addr) (cc:Nat) (cn:List Value),EQ w wx B C Pb X g N c1 #[.int .i64 W,.int .i64 H,.slice a n c] #[.int .i64 r.w,.int .i64 r.h,.slice b l d] #[.int .i64 W,.int .i64 H,.bool false,.int .i64 q,.slice an (j+1) cc] #[.int .i64 W,.int .i64 H,.slice (some ⟨g,0,none⟩) N c1] px1∧SSk wx (Pb+1) wx.heap.size (.slice an (j+1) cc) (j+1) (j+1) f cn|_=>True) (fun Lx wx=>(∃ z,EQ w wx B C Pb X g N c1 #[.int .i64 W,.int .i64 H,.slice a n c] #[.int .i64 r.w,.int .i64 r.h,.slice b l d] #[.int .i64 W,.int .i64 H,.bool false,.int .i64 q,z] #[.int .i64 W,.int .i64 H,.slice (some ⟨g,0,none⟩) N c1] px1∧(Lx 8=false→z= .slice al j cl))∧HI≤wx.heap.size∧SSk wx (Pb+1) HI (.slice al j cl) j j f cs∧wx.ownsRow B 50 71 (.slice a3 k c3) k (L.map (Value.int .i64))) (by kernel_rfl) (by kernel_rfl) (by kernel_rfl) ?g0_r2 ?gop_r2 ?gend_r2
     case g0_r2=>exact⟨⟨_,S.ext (Ext.drewN _ 1),fun _=>rfl⟩,hHI2,SS.ext (Ext.drewN _ 1),Ae o3 (Ext.drewN _ 1)⟩
     case gop_r2 =>
      refine⟨?_,?o1,?_,?_,?o4,?o5,?o6,?_,?o8,trivial⟩ <;> (intro Lx xs wx hG hl ha hb hD hI Qo Kx hK hQo;simp only[Ad,Nat.reduceAdd,Nat.reduceEqDiff,↓reduceIte]at hQo⊢)
      case o1 =>
       have l8:Lx 8=false:=hb 8 rfl;clear hl ha hb;rw[ddq (hD 0 rfl)]at hQo⊢;clear hD hI;obtain⟨z,g1,g2⟩:=hG.1;obtain rfl:=g2 l8;obtain⟨-,k0,k1,k2,k3,k4⟩:=bx5 g1.b3;go_wp2;exact hK.out _ _ ⟨rfl,hG,kkp⟩
      case o4 =>
       clear hl ha hb;rw[ddq (hD 2 rfl),ddq (hD 3 rfl)]at hQo⊢;clear hD hI;have HG4:=Aa hG;go_wp2_with fail
       refine(Dd a3 _ c3 _ false _ (MR.of_list (ms:=ms) HG4.out.2.2.2 HM.out) HSL.out).mono ?_;rw[HZ.out,←Hm.out]
       rintro e w9 ⟨a9,c9,rfl,o9,e9⟩
       go_wp2;obtain⟨⟨z,g1,g4⟩,g2,g6,g7⟩:=HG4.out;exact hK.out _ _ ⟨⟨a9,c9,rfl,AH o9 g2⟩,⟨⟨z,g1.ext e9,g4⟩,Nat.le_trans g2 e9.size,g6.ext e9,Ae g7 e9⟩,fun i _ _ _ own ys h=>Hext.out i own ys _ _ e9 h⟩
      case o5 =>
       clear hl ha hb;have d4:∃(a1':Option Addr) (c1':Nat),(xs 4) = .slice a1' m c1'∧wx.ownsRow HI 5 1 (.slice a1' m c1') m (zs.map (Value.int .u8)):=hD 4 rfl;clear hD hI;generalize xs 4=y4 at *;obtain⟨a4,c4,rfl,o4⟩:=d4;have e8:=Ext.alloc wx (.cells #[.slice a4 m c4] 54);have o9:=World.ownsRow_lit (base:=HI) (e:=54) (size:=1) wx #[.slice a4 m c4] 1 hG.2.1 (by unfold maxLen;omega) rfl;go_wp2;obtain⟨⟨z,g1,g4⟩,g2,g6,g7⟩:=hG;exact hK.out _ _ ⟨⟨_,_,_,rfl,o9,Ae o4 e8⟩,⟨⟨z,g1.ext e8,g4⟩,Nat.le_trans g2 e8.size,g6.ext e8,Ae g7 e8⟩,fun i _ _ _ own ys h=>Hext.out i own ys _ _ e8 h⟩
      case o6 =>
       have l8:Lx 8=false:=hb 8 rfl;clear hl ha hb;rw[ddq (hD 1 rfl)]at hQo⊢;have d5:∃(p:Nat) (a1':Option Addr) (c1':Nat),(xs 5) = .slice (some ⟨p,0,none⟩) 1 1∧wx.ownsRow HI 54 1 (.slice (some ⟨p,0,none⟩) 1 1) 1 [.slice a1' m c1']∧wx.ownsRow HI 5 1 (.slice a1' m c1') m (zs.map (Value.int .u8)):=hD 5 rfl;clear hD hI;generalize xs 5=y5 at *;obtain⟨p5,a5,c5,rfl,q5,o5⟩:=d5;have o9:=hG.2.2.1.own;refine Aw _ rfl o9 (Nat.le_trans hs hG.2.1) _ _ _ rfl (.slice none 0 0) 24 Rz ER rfl (by decide) rfl ⟨p5,0,none⟩ 1 1 _ rfl rfl (q5.cells rfl) (by intro u hu;simp at hu;subst hu;rfl) (by omega) (by omega) ?_;intro v14 w14 own14 gr14 keep14;obtain⟨a14,c14,rfl⟩:=Al own14;have hst:∀(wy:World),(∀ b' own n' xs',wx.ownsRow b' 5 1 own n' xs'→wy.ownsRow b' 5 1 own n' xs')∧(∀ e' own n' xs',wx.ownsRow HI e' 1 own n' xs'→wy.ownsRow HI e' 1 own n' xs')→Stbn 9 6 [[],[0],[],[],[2,3],[2,3,4],[0,1,2,3,4,5],[0,1,2,3,4,5,6],[0,1,2,3,4,5,6,7]] (fun i own ys wx=>match i with|0=>own= .pointer (some ⟨C,4,none⟩)|1=>own= .slice al j cl|2=>own= .slice a3 k c3|3=>own= .bool false|4=>∃(a1':Option Addr) (c1':Nat),own= .slice a1' m c1'∧wx.ownsRow HI 5 1 (.slice a1' m c1') m (zs.map (Value.int .u8))|5=>∃(p:Nat) (a1':Option Addr) (c1':Nat),own= .slice (some ⟨p,0,none⟩) 1 1∧wx.ownsRow HI 54 1 (.slice (some ⟨p,0,none⟩) 1 1) 1 [.slice a1' m c1']∧wx.ownsRow HI 5 1 (.slice a1' m c1') m (zs.map (Value.int .u8))|6=>∃(an:Option Addr) (cc:Nat) (cn:List Value),own= .slice an (j+1) cc∧SSk wx (Pb+1) wx.heap.size (.slice an (j+1) cc) (j+1) (j+1) f cn|7=>own= .pointer (some ⟨C,4,none⟩)|8=>∃(an:Option Addr) (cc:Nat) (cn:List Value),EQ w wx B C Pb X g N c1 #[.int .i64 W,.int .i64 H,.slice a n c] #[.int .i64 r.w,.int .i64 r.h,.slice b l d] #[.int .i64 W,.int .i64 H,.bool false,.int .i64 q,.slice an (j+1) cc] #[.int .i64 W,.int .i64 H,.slice (some ⟨g,0,none⟩) N c1] px1∧SSk wx (Pb+1) wx.heap.size (.slice an (j+1) cc) (j+1) (j+1) f cn|_=>True) wx wy:=by
        intro wy hy ii hii hne hc own ys h
        match ii,h with
        | 0,h|1,h|2,h|3,h=>exact h
        | 4,h=>obtain⟨a9,c9,h1,h2⟩:=h;exact⟨a9,c9,h1,hy.1 _ _ _ _ h2⟩
        | 5,h=>obtain⟨p9,a9,c9,h1,h2,h3⟩:=h;exact⟨p9,a9,c9,h1,hy.2 _ _ _ _ h2,hy.2 _ _ _ _ h3⟩
        | 6,h=>exact absurd rfl hne
        | 7,h|8,h=>exact absurd hc (by decide)
        | _+9,_=>trivial
       obtain⟨⟨z,g1,g4⟩,g2,g6,g7⟩:=hG;have hz:=g4 l8;subst hz;have hS:=g1.row o9 gr14 (by omega) (by decide) (by decide) (by decide);have hk6:=SSk.again g6 gr14 (keep14 _ _ _ _ (Nat.le_refl _) o9);have hlt4:∀ y,a5=some y→y.block<w14.heap.size:=fun y hy=>Nat.lt_of_lt_of_le (o5.lt y.block (by rw[hy];rfl)).2 gr14.size
       have happ:SSk w14 (Pb+1) w14.heap.size (.slice a14 (j+1) c14) (j+1) (j+1) f _:=SSk.app (hi':=w14.heap.size) (a1:=a5) (c1:=c5) g6 (by rw[←Hzs.out,←Hm.out];exact o5) (Nat.le_trans g2 gr14.size) hlt4 (by rw[←Hzs.out,←Hm.out];exact own14) gr14;exact hQo _ _ (hK.out _ _ ⟨⟨_,_,_,rfl,happ⟩,⟨⟨_,hS,fun _=>rfl⟩,Nat.le_trans g2 gr14.size,hk6,g7.kept gr14 (BO g7 o9 (by decide))⟩,hst _ ⟨fun _ _ _ _ h=>Jp o9 gr14 h,fun _ _ _ _ h=>Le h gr14 hvl⟩⟩)
      case o8 =>
       clear hl ha hb;rw[ddq (hD 7 rfl)]at hQo⊢;have d6:∃(an:Option Addr) (cc:Nat) (cn:List Value),(xs 6) = .slice an (j+1) cc∧SSk wx (Pb+1) wx.heap.size (.slice an (j+1) cc) (j+1) (j+1) f cn:=hD 6 rfl;clear hD hI;generalize xs 6=y6 at *;obtain⟨a6,d6,cn6,rfl,s6⟩:=d6;obtain⟨⟨z,g1,g4⟩,g2,g6,g7⟩:=hG;obtain⟨-,k0,k1,k2,k3,k4⟩:=bx5 g1.b3;obtain⟨f0,f1,f2,f3,f4⟩:=fz5 g1.b3;go_wp2;have hst:∀(wy:World),wx.grownBy wy (some C)→Stbn 9 8 [[],[0],[],[],[2,3],[2,3,4],[0,1,2,3,4,5],[0,1,2,3,4,5,6],[0,1,2,3,4,5,6,7]] (fun i own ys wx=>match i with|0=>own= .pointer (some ⟨C,4,none⟩)|1=>own= .slice al j cl|2=>own= .slice a3 k c3|3=>own= .bool false|4=>∃(a1':Option Addr) (c1':Nat),own= .slice a1' m c1'∧wx.ownsRow HI 5 1 (.slice a1' m c1') m (zs.map (Value.int .u8))|5=>∃(p:Nat) (a1':Option Addr) (c1':Nat),own= .slice (some ⟨p,0,none⟩) 1 1∧wx.ownsRow HI 54 1 (.slice (some ⟨p,0,none⟩) 1 1) 1 [.slice a1' m c1']∧wx.ownsRow HI 5 1 (.slice a1' m c1') m (zs.map (Value.int .u8))|6=>∃(an:Option Addr) (cc:Nat) (cn:List Value),own= .slice an (j+1) cc∧SSk wx (Pb+1) wx.heap.size (.slice an (j+1) cc) (j+1) (j+1) f cn|7=>own= .pointer (some ⟨C,4,none⟩)|8=>∃(an:Option Addr) (cc:Nat) (cn:List Value),EQ w wx B C Pb X g N c1 #[.int .i64 W,.int .i64 H,.slice a n c] #[.int .i64 r.w,.int .i64 r.h,.slice b l d] #[.int .i64 W,.int .i64 H,.bool false,.int .i64 q,.slice an (j+1) cc] #[.int .i64 W,.int .i64 H,.slice (some ⟨g,0,none⟩) N c1] px1∧SSk wx (Pb+1) wx.heap.size (.slice an (j+1) cc) (j+1) (j+1) f cn|_=>True) wx wy:=by
        intro wy hy ii hii hne hc own ys h
        match ii,h with
        | 0,h|1,h|2,h|3,h|7,h=>exact h
        | 4,h=>obtain⟨a9,c9,h1,h2⟩:=h;exact⟨a9,c9,h1,BI h2 hy (by omega)⟩
        | 5,h=>obtain⟨p9,a9,c9,h1,h2,h3⟩:=h;exact⟨p9,a9,c9,h1,BI h2 hy (by omega),BI h3 hy (by omega)⟩
        | 6,h=>obtain⟨a9,d9,c9,h1,h2⟩:=h;exact⟨a9,d9,c9,h1,(SSk.gr h2 hy (by omega)).up hy.size⟩
        | 8,h=>exact absurd rfl hne
        | _+9,_=>trivial
       have gB:=gs1 wx C 4 (.slice a6 (j+1) d6);have hS:=g1.put (.slice a6 (j+1) d6) hCw hC0 (by omega);exact hQo undef _ (hK.out _ _ ⟨⟨a6,d6,cn6,hS,(SSk.gr s6 gB (by omega)).up gB.size⟩,⟨⟨_,hS,fun h=>by cases h⟩,Nat.le_trans g2 gB.size,SSk.gr g6 gB (by omega),g7.kept gB (AU g7 g1.b3 (by decide))⟩,hst _ gB⟩)
      all_goals
       clear hl ha hb hD hI;go_wp2;exact hK.out _ _ ⟨rfl,hG,kkp⟩
     clear Hext;intro xs wx hV hG0;obtain⟨Lx,hL,hG⟩:=hG0;have l8:Lx 8=true:=hL 8 (by decide);clear hL;have d8:∃(an:Option Addr) (cc:Nat) (cn:List Value),EQ w wx B C Pb X g N c1 #[.int .i64 W,.int .i64 H,.slice a n c] #[.int .i64 r.w,.int .i64 r.h,.slice b l d] #[.int .i64 W,.int .i64 H,.bool false,.int .i64 q,.slice an (j+1) cc] #[.int .i64 W,.int .i64 H,.slice (some ⟨g,0,none⟩) N c1] px1∧SSk wx (Pb+1) wx.heap.size (.slice an (j+1) cc) (j+1) (j+1) f cn:=hV 8 (by decide);clear hV;simp only[Ad,Nat.reduceAdd,Nat.reduceEqDiff,↓reduceIte];generalize xs 0=y0,xs 1=y1,xs 2=y2,xs 3=y3,xs 4=y4,xs 5=y5,xs 6=y6,xs 7=y7,xs 8=y8 at *
     replace hG:(∃ z,EQ w wx B C Pb X g N c1 #[.int .i64 W,.int .i64 H,.slice a n c] #[.int .i64 r.w,.int .i64 r.h,.slice b l d] #[.int .i64 W,.int .i64 H,.bool false,.int .i64 q,z] #[.int .i64 W,.int .i64 H,.slice (some ⟨g,0,none⟩) N c1] px1∧(Lx 8=false→z= .slice al j cl))∧HI≤wx.heap.size∧SSk wx (Pb+1) HI (.slice al j cl) j j f cs∧wx.ownsRow B 50 71 (.slice a3 k c3) k (L.map (Value.int .i64)):=hG
     obtain⟨a8,d8,cn8,S8,s8⟩:=d8;have hsn:=Nat.le_trans hs hG.2.1;have HS8:=Aa S8;have Hs8:=Aa s8;clear hG S8 s8 S SS o3 i0 i1 i2;go_wp2;go_roundw
     case rel=>exact⟨j+1,_,cn8,by omega,by rw[show 8*(j+1)=yt+8 by have:=HY.out;omega];go_num,by rw[←HP1.out];exact HS8.out,hsn,Hs8.out⟩
     case measure=>have:=HY.out;simp[intOf] <;> omega
  ·obtain rfl:j=H8:=by omega
   have hjE:H≤yt:=by have:=HH.out;have:=HY.out;omega
   have hd:decide (yt<H)=false:=by simp;omega
   have hd':decide ((yt:Int)<(H:Int))=false:=by simp;omega
   obtain⟨al,cl,rfl⟩:=Al SS.own;obtain⟨-,k0,k1,k2,k3,k4⟩:=bx5 S.b3;obtain⟨-,j0,j1,j2,j3,j4⟩:=bx5 S.b2;obtain⟨f0,f1,f2,f3,f4⟩:=fz5 S.b2;have HS9:=Aa S;have HSS9:=Aa SS;have hB3:=lt_of_block S.b2;clear S SS;go_wp2;refine bodyPost_ret (v := .agg #[.int .i64 W,.int .i64 H,.bool false,.int .i64 q,.slice al j cl]) (results_cell_row rfl _ _ (B+2) 28 #[.int .i64 W,.int .i64 H,.bool false,.int .i64 q,.slice al j cl] (0,0) _ rfl (BA HS9.out.b2) Rw rfl Bi) rfl ⟨_,_,cs,rfl,?_,?_⟩
   ·have hg:=gs5 wr (B+2) 0 1 2 3 4 (.int .i64 W) (.int .i64 H) (.bool false) (.int .i64 q) (.slice al j cl);exact((SSk.gr HSS9.out hg (by omega)).mono (by omega)).up hg.size
   ·exact Ext.grown HS9.out.ex (gs5 wr (B+2) 0 1 2 3 4 (.int .i64 W) (.int .i64 H) (.bool false) (.int .i64 q) (.slice al j cl)) (fun p hp=>by cases hp;omega)
theorem LK (W H:Nat)(tp:List Int)(r:Pic)(q:Nat)(a b:Option Addr)(c d n l:Nat)(w:World)(hn:n=tp.length)(hl:l=r.px.length)(lc:l≤9223372036854775807)(s:Sl w a n (tp.map (Value.int .i64)))(u:Sl w b l (r.px.map (Value.int .i64)))(hok:okE ⟨W,H,tp⟩ r true q):
 Calls Tryz.prog 17 #[.agg #[.int .i64 W,.int .i64 H,.slice a n c],.agg #[.int .i64 r.w,.int .i64 r.h,.slice b l d],.bool true,.int .i64 q] w (EnR w W H q true (H/8) (slcE ⟨W,H,tp⟩ r W H q true (W/8))):=by
 obtain⟨W8,H8,N,hW,hH,⟨hW1,hW4⟩,⟨hH1,hH4⟩,hN,hN1,hN2,hWH,htl,hq⟩:=Ds hok;rw[show H/8=H8 by omega,show W/8=W8 by omega];have HOK:=Aa hok;have HWH:=Aa hWH;have HNN:=Aa hN;have HN:=Aa hn;have HL:=Aa hl;have HS:=Aa s;have HU:=Aa u;obtain⟨f,hf⟩:∃ f,f=slcE ⟨W,H,tp⟩ r W H q true W8:=⟨_,rfl⟩;rw[←hf];have HF:=Aa hf;have HW:=Aa hW;have HH:=Aa hH;have hWl:8≤W∧W≤32:=by omega
 have hHl:8≤H∧H≤32:=by omega
 have hnl:n≤1024:=by omega
 have hw8:w.heap.size≤w.heap.size:=Nat.le_refl _;clear hok hWH hN hf hW hH hn htl hw8 hl s u;obtain⟨p0,p1,p2,E0⟩:=bxs3 w (.cells #[.int .i64 W,.int .i64 H,.slice a n c] 30) (.cells #[.int .i64 r.w,.int .i64 r.h,.slice b l d] 30) (.cells #[.int .i64 0,.int .i64 0,.bool false,.int .i64 0,.slice none 0 0] 28);obtain⟨-,i0,i1,i2,-⟩:=bx3 p0;obtain⟨-,j0,j1,j2,-⟩:=bx3 p1;go_enter Tryz.func17,Tryz.ntmps17
 have q0:=p0;have q1:=p1;have q2:=p2;have E1:=E0;clear p0 p1 p2 E0;go_upto_region 2 with fail
 have e2:=Ext.alloc (((w.alloc (.cells #[.int .i64 W,.int .i64 H,.slice a n c] 30)).alloc (.cells #[.int .i64 r.w,.int .i64 r.h,.slice b l d] 30)).alloc (.cells #[.int .i64 0,.int .i64 0,.bool false,.int .i64 0,.slice none 0 0] 28)) (.cells #[.int .i64 W,.int .i64 H,.bool true,.int .i64 q,.slice none 0 0] 28);have z0:=e2.blk q0;have z1:=e2.blk q1;have z2:=e2.blk q2;have z3:=Aj (((w.alloc (.cells #[.int .i64 W,.int .i64 H,.slice a n c] 30)).alloc (.cells #[.int .i64 r.w,.int .i64 r.h,.slice b l d] 30)).alloc (.cells #[.int .i64 0,.int .i64 0,.bool false,.int .i64 0,.slice none 0 0] 28)) (.cells #[.int .i64 W,.int .i64 H,.bool true,.int .i64 q,.slice none 0 0] 28);have E2:=E1.trans e2;have hC0:=lt_of_block q2;obtain⟨B,hB⟩:∃ B,B=w.heap.size:=⟨_,rfl⟩;have hB2:w.heap.size≤B:=by omega
 try simp only[World.size_alloc]
 simp only[World.size_alloc]at z3 hC0;obtain⟨C,hC⟩:∃ C,C=w.heap.size+1+1+1:=⟨_,rfl⟩;rw[←hC]at z3 hC0⊢;rw[←hB]at z0 z1 z2 hC0⊢;clear hB q0 q1 q2 E1 e2 hC i0 i1 i2 j0 j1 j2;generalize (((w.alloc (.cells #[.int .i64 W,.int .i64 H,.slice a n c] 30)).alloc (.cells #[.int .i64 r.w,.int .i64 r.h,.slice b l d] 30)).alloc (.cells #[.int .i64 0,.int .i64 0,.bool false,.int .i64 0,.slice none 0 0] 28)).alloc (.cells #[.int .i64 W,.int .i64 H,.bool true,.int .i64 q,.slice none 0 0] 28)=w3 at *;have hC1:=lt_of_block z3;obtain⟨-,i0,i1,i2,-⟩:=bx3 z0;go_wp2_with fail
 refine(Df W H 128 N _ ⟨by omega,by omega,by have:=HW.out;omega⟩ ⟨by omega,by omega,by have:=HH.out;omega⟩ (by omega) HWH.out hN2).mono ?_
 rintro e w4 ⟨a1,c1,rfl,own1,e4⟩
 have own2:w4.ownsRow w3.heap.size 3 1 (.slice a1 N c1) N ((picE ⟨W,H,tp⟩ r W H q true W8 0).map (Value.int .i64)):=by
  unfold picE;rw[←HNN.out,List.map_replicate];exact own1
 obtain⟨X,hX⟩:∃ X,X=w3.heap.size:=⟨_,rfl⟩;rw[←hX]at own2 hC1;clear hX own1;have hgo:∃ g,a1=some ⟨g,0,none⟩∧X≤g:=by
  rcases own2.2 with⟨-,h0⟩|⟨g,cc,cur,hv,hb,hb2,-⟩
  ·omega
  ·simp only[Value.slice.injEq]at hv;exact⟨g,hv.1,hb⟩
 obtain⟨g,rfl,hg⟩:=hgo;go_upto_region 3 with fail
 have e5:=Ext.alloc w4 (.cells #[.int .i64 W,.int .i64 H,.slice (some ⟨g,0,none⟩) N c1] 30);have b4:=Aj w4 (.cells #[.int .i64 W,.int .i64 H,.slice (some ⟨g,0,none⟩) N c1] 30);have S0:EQ w (w4.alloc (.cells #[.int .i64 W,.int .i64 H,.slice (some ⟨g,0,none⟩) N c1] 30)) B C w4.heap.size X g N c1 #[.int .i64 W,.int .i64 H,.slice a n c] #[.int .i64 r.w,.int .i64 r.h,.slice b l d] #[.int .i64 W,.int .i64 H,.bool true,.int .i64 q,.slice none 0 0] #[.int .i64 W,.int .i64 H,.slice (some ⟨g,0,none⟩) N c1] (picE ⟨W,H,tp⟩ r W H q true W8 0) :=
  ⟨(E2.trans e4).trans e5,e5.blk (e4.blk z0),e5.blk (e4.blk z1),e5.blk (e4.blk z2),e5.blk (e4.blk z3),b4,Ae own2 e5⟩
 have hCP:C<w4.heap.size:=lt_of_block (e4.blk z3);have hs0:=lt_of_block b4;try simp only[World.size_alloc]
 obtain⟨Pb,hPb⟩:∃ Pb,Pb=w4.heap.size:=⟨_,rfl⟩;rw[←hPb]at S0 hCP hs0⊢;clear hPb z0 z1 z2 z3 E2 e4 e5 b4 own2 i0 i1 i2;generalize w4.alloc (.cells #[.int .i64 W,.int .i64 H,.slice (some ⟨g,0,none⟩) N c1] 30)=w5 at *;have SS0:=SSk.nil w5 (Pb+1) w5.heap.size f hs0;go_wp2_with fail
 go_loopw [11] (fun yy wr=>∃(j:Nat) (zv:Value) (cs:List Value),j≤H8∧yy= .int .i64 ((8*j:Nat):Int)∧EQ w wr B C Pb X g N c1 #[.int .i64 W,.int .i64 H,.slice a n c] #[.int .i64 r.w,.int .i64 r.h,.slice b l d] #[.int .i64 W,.int .i64 H,.bool true,.int .i64 q,zv] #[.int .i64 W,.int .i64 H,.slice (some ⟨g,0,none⟩) N c1] (picE ⟨W,H,tp⟩ r W H q true W8 j)∧Pb+1≤wr.heap.size∧SSk wr (Pb+1) wr.heap.size zv j j f cs) (fun yy _=>H-(intOf yy).toNat)
 case atStart=>exact⟨0,_,[],by omega,rfl,S0,hs0,SS0⟩
 case round =>
  clear S0 hs0 SS0;obtain⟨j,zv,cs,hj,rfl,S,hs,SS⟩:=hrel;obtain⟨-,i0,i1,i2,-⟩:=bx3 S.b0;obtain⟨yt,hyt⟩:∃ y,y=8*j:=⟨_,rfl⟩;rw[←hyt];have HY:=Aa hyt;clear hyt
  by_cases hlt:j<H8
  ·have hjH:yt+8≤H:=by have:=HH.out;have:=HY.out;omega
   have hd:decide (yt<H)=true:=by simp;omega
   have hd':decide ((yt:Int)<(H:Int))=true:=by simp;omega
   have hpv:=DN (t:=⟨W,H,tp⟩) (r:=r) (q:=q) (intra:=true) (W8:=W8) HOK.out.1.1 HOK.out.1.2.1 j;obtain⟨px0,hpx⟩:∃ p,p=picE ⟨W,H,tp⟩ r W H q true W8 j:=⟨_,rfl⟩;rw[←hpx]at S hpv;have HPX:=Aa (show f j=slcL (rowB ⟨W,H,tp⟩ r W H yt q true px0) true W8 by rw[HF.out,hpx,HY.out];rfl);have HPN:=Aa (show rowE ⟨W,H,tp⟩ r W H yt q true px0 W8=picE ⟨W,H,tp⟩ r W H q true W8 (j+1) by rw[hpx,HY.out];rfl);have HPV:=Aa hpv;clear hpx hpv;have oA:=World.ownsRow_made (base:=B) (e:=50) (size:=71) wr #[] 0 (Nat.le_of_lt (lt_of_block S.b0)) (by simp) rfl;have eA:=Ext.alloc wr (.cells #[] 50);have SA:=S.ext eA;have SSA:=(SS.ext eA).up eA.size;have hsA:=Nat.le_trans hs eA.size;clear S SS eA;go_wp2_with fail
   go_loopw [12,13] (fun v xx wr=>∃(k:Nat) (L:List Int),k≤W8∧xx= .int .i64 ((8*k:Nat):Int)∧EQ w wr B C Pb X g N c1 #[.int .i64 W,.int .i64 H,.slice a n c] #[.int .i64 r.w,.int .i64 r.h,.slice b l d] #[.int .i64 W,.int .i64 H,.bool true,.int .i64 q,zv] #[.int .i64 W,.int .i64 H,.slice (some ⟨g,0,none⟩) N c1] (rowE ⟨W,H,tp⟩ r W H yt q true px0 k)∧Pb+1≤wr.heap.size∧SSk wr (Pb+1) wr.heap.size zv j j f cs∧wr.ownsRow B 50 71 v k (L.map (Value.int .i64))∧(∀ o,o<k→sub L (o*71) 71=(rowB ⟨W,H,tp⟩ r W H yt q true px0 o).zs)) (fun _ xx _=>W-(intOf xx).toNat)
   case atStart=>exact⟨0,[],by omega,rfl,SA,hsA,SSA,oA,fun o ho=>absurd ho (by omega)⟩
   case round =>
    clear SA SSA hsA oA i0 i1 i2 hd hd' hs;obtain⟨k,L,hk,rfl,S,hs,SS,o3,hz⟩:=hrel;have hLl:L.length=k*71:=by simpa using o3.1
    have Hz:=Aa hz;clear hz;obtain⟨a3,c3,rfl⟩:=Al o3;obtain⟨xt,hxt⟩:∃ x,x=8*k:=⟨_,rfl⟩;rw[←hxt];have HX:=Aa hxt;clear hxt
    by_cases hlk:k<W8
    ·have hkW:xt+8≤W:=by have:=HW.out;have:=HX.out;omega
     have hd:decide (xt<W)=true:=by simp;omega
     have hd':decide ((xt:Int)<(W:Int))=true:=by simp;omega
     have Z0:=IB.new wr 50 (zl 71);have e0:=Ext.alloc wr (.cells (ic (zl 71)) 50);obtain⟨-,i3,i4,-⟩:=bx3 S.b0;go_wp2_with (first|(refine Au 50 rfl rfl 71 Bf ?_;(try simp only[World.size_alloc]))|(refine Af 50 _ _ rfl rfl Z0 0 71 rfl _ rfl (zl 71) Ls Ah (AB 71) (by simp[zl]) ?_;intro w0 Z1 g0;refine Hid.out ?_))
     rw[Ap (by rw[AB])]at Z1;have e1:Ext wr w0:=Ext.grown e0 g0 (fun x hx=>by cases hx;exact Nat.le_refl _);clear Z0 e0 g0 i3 i4;have HPL0:=FQ HOK.out.1 HW.out HH.out hlk hlt;rw[←HX.out,←HY.out]at HPL0;have HPL:=Aa HPL0;clear HPL0;have S1:=S.ext e1;have SS1:=(SS.ext e1).up e1.size;have o1:=Ae o3 e1;have hlst:∀ x,(Value.slice a3 k c3).ownBlock=some x→x<wr.heap.size:=fun x hx=>(o3.lt x hx).2
     obtain⟨-,i0,i1,i2,-⟩:=bx3 S1.b0;obtain⟨-,j0,j1,j2,-⟩:=bx3 S1.b1;obtain⟨-,k0,k1,k2,-⟩:=bx3 S1.b4;obtain⟨-,i3,-⟩:=bx3 S.b0;have hs1:=Nat.le_trans hs e1.size;have hq0:=lt_of_block S.b4;obtain⟨px,hpx⟩:∃ p,p=(rowE ⟨W,H,tp⟩ r W H yt q true px0 k):=⟨_,rfl⟩;have HPXk:=Aa hpx;have hpv:Pic.valid ⟨W,H,px⟩:=by rw[hpx];exact Ce HPV.out k
     rw[←hpx]at S1;have HS0:=Aa S;have HSS0:=Aa SS;have HO0:=Aa o3;clear hpx S SS o3;have HPK:=Aa hpv;have HPJ0:=FQ hpv HW.out HH.out hlk hlt;rw[←HX.out,←HY.out]at HPJ0;have HPJ:=Aa HPJ0;clear HPJ0;have hxl:px.length=N:=by
      have:=S1.ow.1
      simpa using this
     have Hxl:=Aa hxl;clear hxl;refine Aa ?_;go_wp2_with fail
     refine(IK ⟨W,H,tp⟩ W H xt yt px q (yt:Int) a (some ⟨g,0,none⟩) c c1 n N _ HN.out Hxl.out.symm (by omega) (by omega) (HS.out.ext S1.ex) (Sl.of_owns S1.ow) HOK.out.1 HPK.out (by omega) (by omega) (by omega) (by omega) hq (by omega)).mono ?_;rw[show BP ⟨W,H,tp⟩ ⟨W,H,px⟩ xt yt q (yt:Int) 4=emB ⟨W,H,tp⟩ r W H px xt yt q true from rfl];have hmb:=Jy (t:=⟨W,H,tp⟩) (r:=r) (intra:=true) xt yt HOK.out.1 (fun h=>(HOK.out.2.2 h).2.1) HPK.out hq;have hmo:=Fw ⟨W,H,tp⟩ r W H px xt yt q true;have HSt:=Aa (show bldS r ⟨W,H,px⟩ xt yt (emB ⟨W,H,tp⟩ r W H px xt yt q true) q (yt:Int) 4=rowE ⟨W,H,tp⟩ r W H yt q true px0 (k+1) by rw[HPXk.out,HX.out];rfl);have HRB:=Aa (show emB ⟨W,H,tp⟩ r W H px xt yt q true=rowB ⟨W,H,tp⟩ r W H yt q true px0 k by rw[HPXk.out,HX.out];rfl);generalize emB ⟨W,H,tp⟩ r W H px xt yt q true=m at *;have Hmb:=Aa hmb;have Hmo:=Aa hmo;have Hzl:=Aa (Mac.zs_len hmo);clear hmb hmo
     rintro e w2 ⟨rfl,e2⟩
     have Z2:=Z1.ext e2;have e12:=e1.trans e2;clear Z1 S1 SS1 o1 e1 e2 i0 i1 i2 j0 j1 j2 k0 k1 k2 i3;go_wp2_with (refine Af 50 _ _ rfl rfl Z2 0 71 rfl _ rfl m.zs rfl Ah Hzl.out (by simp[zl]) ?_;intro w3 q3 g3;refine Hid.out ?_)
     rw[Ap (by rw[AB,Hzl.out])]at q3;have e3:Ext wr w3:=Ext.grown e12 g3 (fun x hx=>by cases hx;exact Nat.le_refl _);have S3:=HS0.out.ext e3;have SS3:=(HSS0.out.ext e3).up e3.size;have o4:=Ae HO0.out e3;have hs3:=Nat.le_trans hs e3.size;rw[←HPXk.out]at S3;clear Z2 g3 e12 e3 hs hs1;obtain⟨mq,hmq⟩:∃ x,x=wr.heap.size:=⟨_,rfl⟩;rw[←hmq]at q3 hlst hq0⊢;clear hmq;refine Aa ?_;obtain⟨-,j0,j1,j2,-⟩:=bx3 S3.b1;obtain⟨-,k0,k1,k2,-⟩:=bx3 S3.b4;go_wp2_with (refine Ab 50 _ rfl rfl q3 0 71 rfl _ Ro rfl Ah (by rw[Hzl.out];omega) _ (by rw[Ak _ _ Hzl.out]) ?_)
     have hrv : ¬ m.kind=2→r.valid:=fun hk=>absurd (Hmb.out.2 rfl) hk
     have hrz : ¬ m.kind=2→∀ z,b=some z→z.block≠g:=fun hk z hz=>by
      have h9:=Pic.len_le (hrv hk);rw[←HL.out]at h9;have:=Cs HU.out z hz (by omega);omega
     refine(FM r W H xt yt px m q (yt:Int) b l d X g N c1 _ S3.ow HPJ.out Hmo.out Hmb.out.1 hq (by omega) hrv HL.out (HU.out.ext S3.ex) hrz).mono ?_;rw[HSt.out]
     rintro e w5 ⟨rfl,own7,gr7⟩
     have S5:=S3.pix own7 gr7 (by omega);have SS5:=(SSk.kept (v0 := .slice (some ⟨g,0,none⟩) N c1) SS3 gr7 S3.ow (by decide) (by decide)).up gr7.size;have o5:=o4.kept gr7 (BO (v2 := .slice (some ⟨g,0,none⟩) N c1) o4 S3.ow (by decide));have hs5:=Nat.le_trans hs3 gr7.size;have q5:=q3.gr gr7 (AW (v := .slice (some ⟨g,0,none⟩) N c1) S3.ow q3 (by decide));clear S3 SS3 o4 hs3 q3 own7 gr7 j0 j1 j2 k0 k1 k2 hrz hrv;go_wp2_with (first|(at_builtin;refine Dp _ o5 (Nat.le_of_lt (lt_of_block S5.b0)) m.zs Hzl.out rfl _ _ rfl rfl rfl (by omega) ?_;intro v5 w6 own5 gr5;refine Hid.out ?_)|refine Fb _ rfl rfl m.zs rfl Hzl.out ?_|(refine Ab 50 _ rfl rfl q5 0 71 rfl _ Ro rfl Ah (by rw[Hzl.out];omega) _ (by rw[Ak _ _ Hzl.out]) ?_))
     have S6:=S5.row o5 gr5 hB2 (by decide) (by decide) (by decide);have SS6:=(SSk.kept SS5 gr5 o5 (by decide) (by decide)).up gr5.size;have q6:=q5.gr gr5 (fun e=>by have:=hlst mq e;omega);have hs6:=Nat.le_trans hs5 gr5.size;have o6:w6.ownsRow B 50 71 v5 (k+1) ((L++m.zs).map (Value.int .i64)):=by rw[List.map_append];exact own5
     obtain⟨a5,c5,rfl⟩:=Al o6;clear S5 SS5 q5 o5 hs5 own5 gr5;refine Aa ?_;go_wp2;go_roundw
     case rel =>
      refine⟨k+1,L++m.zs,by omega,by rw[show 8*(k+1)=xt+8 by have:=HX.out;omega];go_num,S6,hs6,SS6,o6,fun o ho => ?_⟩
      by_cases ho2:o<k
      ·rw[He hLl ho2];exact Hz.out o ho2
      ·obtain rfl:o=k:=by omega
       rw[Hg hLl Hzl.out,HRB.out]
     case measure=>have:=HX.out;simp[intOf] <;> omega
    ·obtain rfl:k=W8:=by omega
     have hkE:W≤xt:=by have:=HW.out;have:=HX.out;omega
     have hd:decide (xt<W)=false:=by simp;omega
     have hd':decide ((xt:Int)<(W:Int))=false:=by simp;omega
     obtain⟨-,i0,i1,i2,-⟩:=bx3 S.b0;obtain⟨al,cl,rfl⟩:=Al SS.own;obtain⟨HI,hHI⟩:∃ HI,HI=wr.heap.size:=⟨_,rfl⟩;have hHI2:HI≤wr.heap.size:=by omega
     have hvl:∀ x,(Value.slice al j cl).ownBlock=some x→x<HI:=fun x hx=>by rw[hHI];exact(SS.own.lt x hx).2
     rw[←hHI]at SS hs;clear hHI;obtain⟨ms,hms⟩:∃ ms,ms=rowB ⟨W,H,tp⟩ r W H yt q true px0:=⟨_,rfl⟩;have HM:=Aa (show ∀ o,o<k→(ms o).ok∧sub L (o*71) 71=(ms o).zs from fun o ho=>by rw[hms];exact⟨Fw _ _ _ _ _ _ _ _ _,Hz.out o ho⟩);have HSL:=Aa (show IN ms true k by rw[hms];exact Lh HOK.out.1 (fun h=>(HOK.out.2.2 h).2.1) HPV.out hq ⟨hW1,hW4⟩);obtain⟨zs,hzs⟩:∃ zs,zs=f j:=⟨_,rfl⟩;have HZ:=Aa (show slcL ms true k=zs by rw[hzs,HPX.out,hms]);have Hzs:=Aa hzs;obtain⟨m,hm⟩:∃ m,m=zs.length:=⟨_,rfl⟩;have Hm:=Aa hm;rw[HPN.out]at S;obtain⟨px1,hpx1⟩:∃ p,p=picE ⟨W,H,tp⟩ r W H q true k (j+1):=⟨_,rfl⟩;rw[←hpx1]at S;have HP1:=Aa hpx1;have hCw:w.heap.size≤C:=by omega
     clear hms hzs hm hpx1;go_upto_region 16 with fail
     have hext:Stab (fun wa wb=>Ext wa wb) (fun i own ys wx=>match i with|0=>own= .pointer (some ⟨C,4,none⟩)|1=>own= .slice al j cl|2=>own= .slice a3 k c3|3=>own= .bool true|4=>∃(a1':Option Addr) (c1':Nat),own= .slice a1' m c1'∧wx.ownsRow HI 5 1 (.slice a1' m c1') m (zs.map (Value.int .u8))|5=>∃(p:Nat) (a1':Option Addr) (c1':Nat),own= .slice (some ⟨p,0,none⟩) 1 1∧wx.ownsRow HI 54 1 (.slice (some ⟨p,0,none⟩) 1 1) 1 [.slice a1' m c1']∧wx.ownsRow HI 5 1 (.slice a1' m c1') m (zs.map (Value.int .u8))|6=>∃(an:Option Addr) (cc:Nat) (cn:List Value),own= .slice an (j+1) cc∧SSk wx (Pb+1) wx.heap.size (.slice an (j+1) cc) (j+1) (j+1) f cn|7=>own= .pointer (some ⟨C,4,none⟩)|8=>∃(an:Option Addr) (cc:Nat) (cn:List Value),EQ w wx B C Pb X g N c1 #[.int .i64 W,.int .i64 H,.slice a n c] #[.int .i64 r.w,.int .i64 r.h,.slice b l d] #[.int .i64 W,.int .i64 H,.bool true,.int .i64 q,.slice an (j+1) cc] #[.int .i64 W,.int .i64 H,.slice (some ⟨g,0,none⟩) N c1] px1∧SSk wx (Pb+1) wx.heap.size (.slice an (j+1) cc) (j+1) (j+1) f cn|_=>True):=by
      intro i own ys wa wb e h
      match i,h with
      | 0,h|1,h|2,h|3,h|7,h=>exact h
      | 4,h=>obtain⟨a9,c9,h1,h2⟩:=h;exact⟨a9,c9,h1,Ae h2 e⟩
      | 5,h=>obtain⟨p9,a9,c9,h1,h2,h3⟩:=h;exact⟨p9,a9,c9,h1,Ae h2 e,Ae h3 e⟩
      | 6,h=>obtain⟨a9,d9,c9,h1,h2⟩:=h;exact⟨a9,d9,c9,h1,(h2.ext e).up e.size⟩
      | 8,h=>obtain⟨a9,d9,c9,h1,h2⟩:=h;exact⟨a9,d9,c9,h1.ext e,(h2.ext e).up e.size⟩
      | _+9,_=>trivial
     have Hext:=Aa hext;clear hext;refine Am (by kernel_rfl) [(69,0),(70,1),(71,2),(72,3),(73,4),(74,5),(75,6),(76,7)] [[],[0],[],[],[2,3],[2,3,4],[0,1,2,3,4,5],[0,1,2,3,4,5,6],[0,1,2,3,4,5,6,7]] (fun i own ys wx=>match i with|0=>own= .pointer (some ⟨C,4,none⟩)|1=>own= .slice al j cl|2=>own= .slice a3 k c3|3=>own= .bool true|4=>∃(a1':Option Addr) (c1':Nat),own= .slice a1' m c1'∧wx.ownsRow HI 5 1 (.slice a1' m c1') m (zs.map (Value.int .u8))|5=>∃(p:Nat) (a1':Option Addr) (c1':Nat),own= .slice (some ⟨p,0,none⟩) 1 1∧wx.ownsRow HI 54 1 (.slice (some ⟨p,0,none⟩) 1 1) 1 [.slice a1' m c1']∧wx.ownsRow HI 5 1 (.slice a1' m c1') m (zs.map (Value.int .u8))|6=>∃(an:Option Addr) (cc:Nat) (cn:List Value),own= .slice an (j+1) cc∧SSk wx (Pb+1) wx.heap.size (.slice an (j+1) cc) (j+1) (j+1) f cn|7=>own= .pointer (some ⟨C,4,none⟩)|8=>∃(an:Option Addr) (cc:Nat) (cn:List Value),EQ w wx B C Pb X g N c1 #[.int .i64 W,.int .i64 H,.slice a n c] #[.int .i64 r.w,.int .i64 r.h,.slice b l d] #[.int .i64 W,.int .i64 H,.bool true,.int .i64 q,.slice an (j+1) cc] #[.int .i64 W,.int .i64 H,.slice (some ⟨g,0,none⟩) N c1] px1∧SSk wx (Pb+1) wx.heap.size (.slice an (j+1) cc) (j+1) (j+1) f cn|_=>True) (fun Lx wx=>(∃ z,EQ w wx B C Pb X g N c1 #[.int .i64 W,.int .i64 H,.slice a n c] #[.int .i64 r.w,.int .i64 r.h,.slice b l d] #[.int .i64 W,.int .i64 H,.bool true,.int .i64 q,z] #[.int .i64 W,.int .i64 H,.slice (some ⟨g,0,none⟩) N c1] px1∧(Lx 8=false→z= .slice al j cl))∧HI≤wx.heap.size∧SSk wx (Pb+1) HI (.slice al j cl) j j f cs∧wx.ownsRow B 50 71 (.slice a3 k c3) k (L.map (Value.int .i64))) (by kernel_rfl) (by kernel_rfl) (by kernel_rfl) ?g0_r1 ?gop_r1 ?gend_r1
     case g0_r1=>exact⟨⟨_,S.ext (Ext.drewN _ 1),fun _=>rfl⟩,hHI2,SS.ext (Ext.drewN _ 1),Ae o3 (Ext.drewN _ 1)⟩
     case gop_r1 =>
      refine⟨?_,?o1,?_,?_,?o4,?o5,?o6,?_,?o8,trivial⟩ <;> (intro Lx xs wx hG hl ha hb hD hI Qo Kx hK hQo;simp only[Ad,Nat.reduceAdd,Nat.reduceEqDiff,↓reduceIte]at hQo⊢)
      case o1 =>
       have l8:Lx 8=false:=hb 8 rfl;clear hl ha hb;rw[ddq (hD 0 rfl)]at hQo⊢;clear hD hI;obtain⟨z,g1,g2⟩:=hG.1;obtain rfl:=g2 l8;obtain⟨-,k0,k1,k2,k3,k4⟩:=bx5 g1.b3;go_wp2;exact hK.out _ _ ⟨rfl,hG,kkp⟩
      case o4 =>
       clear hl ha hb;rw[ddq (hD 2 rfl),ddq (hD 3 rfl)]at hQo⊢;clear hD hI;have HG4:=Aa hG;go_wp2_with fail
       refine(C5 a3 _ c3 ms true _ (MR.of_list (ms:=ms) HG4.out.2.2.2 HM.out) (by omega)).mono ?_;rw[HZ.out,←Hm.out]
       rintro e w9 ⟨a9,c9,rfl,o9,e9⟩
       go_wp2;obtain⟨⟨z,g1,g4⟩,g2,g6,g7⟩:=HG4.out;exact hK.out _ _ ⟨⟨a9,c9,rfl,AH o9 g2⟩,⟨⟨z,g1.ext e9,g4⟩,Nat.le_trans g2 e9.size,g6.ext e9,Ae g7 e9⟩,fun i _ _ _ own ys h=>Hext.out i own ys _ _ e9 h⟩
      case o5 =>
       clear hl ha hb;have d4:∃(a1':Option Addr) (c1':Nat),(xs 4) = .slice a1' m c1'∧wx.ownsRow HI 5 1 (.slice a1' m c1') m (zs.map (Value.int .u8)):=hD 4 rfl;clear hD hI;generalize xs 4=y4 at *;obtain⟨a4,c4,rfl,o4⟩:=d4;have e8:=Ext.alloc wx (.cells #[.slice a4 m c4] 54);have o9:=World.ownsRow_lit (base:=HI) (e:=54) (size:=1) wx #[.slice a4 m c4] 1 hG.2.1 (by unfold maxLen;omega) rfl;go_wp2;obtain⟨⟨z,g1,g4⟩,g2,g6,g7⟩:=hG;exact hK.out _ _ ⟨⟨_,_,_,rfl,o9,Ae o4 e8⟩,⟨⟨z,g1.ext e8,g4⟩,Nat.le_trans g2 e8.size,g6.ext e8,Ae g7 e8⟩,fun i _ _ _ own ys h=>Hext.out i own ys _ _ e8 h⟩
      case o6 =>
       have l8:Lx 8=false:=hb 8 rfl;clear hl ha hb;rw[ddq (hD 1 rfl)]at hQo⊢;have d5:∃(p:Nat) (a1':Option Addr) (c1':Nat),(xs 5) = .slice (some ⟨p,0,none⟩) 1 1∧wx.ownsRow HI 54 1 (.slice (some ⟨p,0,none⟩) 1 1) 1 [.slice a1' m c1']∧wx.ownsRow HI 5 1 (.slice a1' m c1') m (zs.map (Value.int .u8)):=hD 5 rfl;clear hD hI;generalize xs 5=y5 at *;obtain⟨p5,a5,c5,rfl,q5,o5⟩:=d5;have o9:=hG.2.2.1.own;refine Aw _ rfl o9 (Nat.le_trans hs hG.2.1) _ _ _ rfl (.slice none 0 0) 24 Rz ER rfl (by decide) rfl ⟨p5,0,none⟩ 1 1 _ rfl rfl (q5.cells rfl) (by intro u hu;simp at hu;subst hu;rfl) (by omega) (by omega) ?_;intro v14 w14 own14 gr14 keep14;obtain⟨a14,c14,rfl⟩:=Al own14;have hst:∀(wy:World),(∀ b' own n' xs',wx.ownsRow b' 5 1 own n' xs'→wy.ownsRow b' 5 1 own n' xs')∧(∀ e' own n' xs',wx.ownsRow HI e' 1 own n' xs'→wy.ownsRow HI e' 1 own n' xs')→Stbn 9 6 [[],[0],[],[],[2,3],[2,3,4],[0,1,2,3,4,5],[0,1,2,3,4,5,6],[0,1,2,3,4,5,6,7]] (fun i own ys wx=>match i with|0=>own= .pointer (some ⟨C,4,none⟩)|1=>own= .slice al j cl|2=>own= .slice a3 k c3|3=>own= .bool true|4=>∃(a1':Option Addr) (c1':Nat),own= .slice a1' m c1'∧wx.ownsRow HI 5 1 (.slice a1' m c1') m (zs.map (Value.int .u8))|5=>∃(p:Nat) (a1':Option Addr) (c1':Nat),own= .slice (some ⟨p,0,none⟩) 1 1∧wx.ownsRow HI 54 1 (.slice (some ⟨p,0,none⟩) 1 1) 1 [.slice a1' m c1']∧wx.ownsRow HI 5 1 (.slice a1' m c1') m (zs.map (Value.int .u8))|6=>∃(an:Option Addr) (cc:Nat) (cn:List Value),own= .slice an (j+1) cc∧SSk wx (Pb+1) wx.heap.size (.slice an (j+1) cc) (j+1) (j+1) f cn|7=>own= .pointer (some ⟨C,4,none⟩)|8=>∃(an:Option Addr) (cc:Nat) (cn:List Value),EQ w wx B C Pb X g N c1 #[.int .i64 W,.int .i64 H,.slice a n c] #[.int .i64 r.w,.int .i64 r.h,.slice b l d] #[.int .i64 W,.int .i64 H,.bool true,.int .i64 q,.slice an (j+1) cc] #[.int .i64 W,.int .i64 H,.slice (some ⟨g,0,none⟩) N c1] px1∧SSk wx (Pb+1) wx.heap.size (.slice an (j+1) cc) (j+1) (j+1) f cn|_=>True) wx wy:=by
        intro wy hy ii hii hne hc own ys h
        match ii,h with
        | 0,h|1,h|2,h|3,h=>exact h
        | 4,h=>obtain⟨a9,c9,h1,h2⟩:=h;exact⟨a9,c9,h1,hy.1 _ _ _ _ h2⟩
        | 5,h=>obtain⟨p9,a9,c9,h1,h2,h3⟩:=h;exact⟨p9,a9,c9,h1,hy.2 _ _ _ _ h2,hy.2 _ _ _ _ h3⟩
        | 6,h=>exact absurd rfl hne
        | 7,h|8,h=>exact absurd hc (by decide)
        | _+9,_=>trivial
       obtain⟨⟨z,g1,g4⟩,g2,g6,g7⟩:=hG;have hz:=g4 l8;subst hz;have hS:=g1.row o9 gr14 (by omega) (by decide) (by decide) (by decide);have hk6:=SSk.again g6 gr14 (keep14 _ _ _ _ (Nat.le_refl _) o9);have hlt4:∀ y,a5=some y→y.block<w14.heap.size:=fun y hy=>Nat.lt_of_lt_of_le (o5.lt y.block (by rw[hy];rfl)).2 gr14.size
       have happ:SSk w14 (Pb+1) w14.heap.size (.slice a14 (j+1) c14) (j+1) (j+1) f _:=SSk.app (hi':=w14.heap.size) (a1:=a5) (c1:=c5) g6 (by rw[←Hzs.out,←Hm.out];exact o5) (Nat.le_trans g2 gr14.size) hlt4 (by rw[←Hzs.out,←Hm.out];exact own14) gr14;exact hQo _ _ (hK.out _ _ ⟨⟨_,_,_,rfl,happ⟩,⟨⟨_,hS,fun _=>rfl⟩,Nat.le_trans g2 gr14.size,hk6,g7.kept gr14 (BO g7 o9 (by decide))⟩,hst _ ⟨fun _ _ _ _ h=>Jp o9 gr14 h,fun _ _ _ _ h=>Le h gr14 hvl⟩⟩)
      case o8 =>
       clear hl ha hb;rw[ddq (hD 7 rfl)]at hQo⊢;have d6:∃(an:Option Addr) (cc:Nat) (cn:List Value),(xs 6) = .slice an (j+1) cc∧SSk wx (Pb+1) wx.heap.size (.slice an (j+1) cc) (j+1) (j+1) f cn:=hD 6 rfl;clear hD hI;generalize xs 6=y6 at *;obtain⟨a6,d6,cn6,rfl,s6⟩:=d6;obtain⟨⟨z,g1,g4⟩,g2,g6,g7⟩:=hG;obtain⟨-,k0,k1,k2,k3,k4⟩:=bx5 g1.b3;obtain⟨f0,f1,f2,f3,f4⟩:=fz5 g1.b3;go_wp2;have hst:∀(wy:World),wx.grownBy wy (some C)→Stbn 9 8 [[],[0],[],[],[2,3],[2,3,4],[0,1,2,3,4,5],[0,1,2,3,4,5,6],[0,1,2,3,4,5,6,7]] (fun i own ys wx=>match i with|0=>own= .pointer (some ⟨C,4,none⟩)|1=>own= .slice al j cl|2=>own= .slice a3 k c3|3=>own= .bool true|4=>∃(a1':Option Addr) (c1':Nat),own= .slice a1' m c1'∧wx.ownsRow HI 5 1 (.slice a1' m c1') m (zs.map (Value.int .u8))|5=>∃(p:Nat) (a1':Option Addr) (c1':Nat),own= .slice (some ⟨p,0,none⟩) 1 1∧wx.ownsRow HI 54 1 (.slice (some ⟨p,0,none⟩) 1 1) 1 [.slice a1' m c1']∧wx.ownsRow HI 5 1 (.slice a1' m c1') m (zs.map (Value.int .u8))|6=>∃(an:Option Addr) (cc:Nat) (cn:List Value),own= .slice an (j+1) cc∧SSk wx (Pb+1) wx.heap.size (.slice an (j+1) cc) (j+1) (j+1) f cn|7=>own= .pointer (some ⟨C,4,none⟩)|8=>∃(an:Option Addr) (cc:Nat) (cn:List Value),EQ w wx B C Pb X g N c1 #[.int .i64 W,.int .i64 H,.slice a n c] #[.int .i64 r.w,.int .i64 r.h,.slice b l d] #[.int .i64 W,.int .i64 H,.bool true,.int .i64 q,.slice an (j+1) cc] #[.int .i64 W,.int .i64 H,.slice (some ⟨g,0,none⟩) N c1] px1∧SSk wx (Pb+1) wx.heap.size (.slice an (j+1) cc) (j+1) (j+1) f cn|_=>True) wx wy:=by
        intro wy hy ii hii hne hc own ys h
        match ii,h with
        | 0,h|1,h|2,h|3,h|7,h=>exact h
        | 4,h=>obtain⟨a9,c9,h1,h2⟩:=h;exact⟨a9,c9,h1,BI h2 hy (by omega)⟩
        | 5,h=>obtain⟨p9,a9,c9,h1,h2,h3⟩:=h;exact⟨p9,a9,c9,h1,BI h2 hy (by omega),BI h3 hy (by omega)⟩
        | 6,h=>obtain⟨a9,d9,c9,h1,h2⟩:=h;exact⟨a9,d9,c9,h1,(SSk.gr h2 hy (by omega)).up hy.size⟩
        | 8,h=>exact absurd rfl hne
        | _+9,_=>trivial
       have gB:=gs1 wx C 4 (.slice a6 (j+1) d6);have hS:=g1.put (.slice a6 (j+1) d6) hCw hC0 (by omega);exact hQo undef _ (hK.out _ _ ⟨⟨a6,d6,cn6,hS,(SSk.gr s6 gB (by omega)).up gB.size⟩,⟨⟨_,hS,fun h=>by cases h⟩,Nat.le_trans g2 gB.size,SSk.gr g6 gB (by omega),g7.kept gB (AU g7 g1.b3 (by decide))⟩,hst _ gB⟩)
      all_goals
       clear hl ha hb hD hI;go_wp2;exact hK.out _ _ ⟨rfl,hG,kkp⟩
     clear Hext;intro xs wx hV hG0;obtain⟨Lx,hL,hG⟩:=hG0;have l8:Lx 8=true:=hL 8 (by decide);clear hL;have d8:∃(an:Option Addr) (cc:Nat) (cn:List Value),EQ w wx B C Pb X g N c1 #[.int .i64 W,.int .i64 H,.slice a n c] #[.int .i64 r.w,.int .i64 r.h,.slice b l d] #[.int .i64 W,.int .i64 H,.bool true,.int .i64 q,.slice an (j+1) cc] #[.int .i64 W,.int .i64 H,.slice (some ⟨g,0,none⟩) N c1] px1∧SSk wx (Pb+1) wx.heap.size (.slice an (j+1) cc) (j+1) (j+1) f cn:=hV 8 (by decide);clear hV;simp only[Ad,Nat.reduceAdd,Nat.reduceEqDiff,↓reduceIte];generalize xs 0=y0,xs 1=y1,xs 2=y2,xs 3=y3,xs 4=y4,xs 5=y5,xs 6=y6,xs 7=y7,xs 8=y8 at *
     replace hG:(∃ z,EQ w wx B C Pb X g N c1 #[.int .i64 W,.int .i64 H,.slice a n c] #[.int .i64 r.w,.int .i64 r.h,.slice b l d] #[.int .i64 W,.int .i64 H,.bool true,.int .i64 q,z] #[.int .i64 W,.int .i64 H,.slice (some ⟨g,0,none⟩) N c1] px1∧(Lx 8=false→z= .slice al j cl))∧HI≤wx.heap.size∧SSk wx (Pb+1) HI (.slice al j cl) j j f cs∧wx.ownsRow B 50 71 (.slice a3 k c3) k (L.map (Value.int .i64)):=hG
     obtain⟨a8,d8,cn8,S8,s8⟩:=d8;have hsn:=Nat.le_trans hs hG.2.1;have HS8:=Aa S8;have Hs8:=Aa s8;clear hG S8 s8 S SS o3 i0 i1 i2;go_wp2;go_roundw
     case rel=>exact⟨j+1,_,cn8,by omega,by rw[show 8*(j+1)=yt+8 by have:=HY.out;omega];go_num,by rw[←HP1.out];exact HS8.out,hsn,Hs8.out⟩
     case measure=>have:=HY.out;simp[intOf] <;> omega
  ·obtain rfl:j=H8:=by omega
   have hjE:H≤yt:=by have:=HH.out;have:=HY.out;omega
   have hd:decide (yt<H)=false:=by simp;omega
   have hd':decide ((yt:Int)<(H:Int))=false:=by simp;omega
   obtain⟨al,cl,rfl⟩:=Al SS.own;obtain⟨-,k0,k1,k2,k3,k4⟩:=bx5 S.b3;obtain⟨-,j0,j1,j2,j3,j4⟩:=bx5 S.b2;obtain⟨f0,f1,f2,f3,f4⟩:=fz5 S.b2;have HS9:=Aa S;have HSS9:=Aa SS;have hB3:=lt_of_block S.b2;clear S SS;go_wp2;refine bodyPost_ret (v := .agg #[.int .i64 W,.int .i64 H,.bool true,.int .i64 q,.slice al j cl]) (results_cell_row rfl _ _ (B+2) 28 #[.int .i64 W,.int .i64 H,.bool true,.int .i64 q,.slice al j cl] (0,0) _ rfl (BA HS9.out.b2) Rw rfl Bi) rfl ⟨_,_,cs,rfl,?_,?_⟩
   ·have hg:=gs5 wr (B+2) 0 1 2 3 4 (.int .i64 W) (.int .i64 H) (.bool true) (.int .i64 q) (.slice al j cl);exact((SSk.gr HSS9.out hg (by omega)).mono (by omega)).up hg.size
   ·exact Ext.grown HS9.out.ex (gs5 wr (B+2) 0 1 2 3 4 (.int .i64 W) (.int .i64 H) (.bool true) (.int .i64 q) (.slice al j cl)) (fun p hp=>by cases hp;omega)
theorem LJ (W H:Nat)(tp:List Int)(r:Pic)(q:Nat)(a b:Option Addr)(c d n l:Nat)(w:World)(hn:n=tp.length)(hl:l=r.px.length)(lc:l≤9223372036854775807)(s:Sl w a n (tp.map (Value.int .i64)))(u:Sl w b l (r.px.map (Value.int .i64)))(hok:okE ⟨W,H,tp⟩ r false q):
 Calls Tryz.prog 17 #[.agg #[.int .i64 W,.int .i64 H,.slice a n c],.agg #[.int .i64 r.w,.int .i64 r.h,.slice b l d],.bool false,.int .i64 q] w (EnR w W H q false (H/8) (slcE ⟨W,H,tp⟩ r W H q false (W/8))):=by
 obtain⟨W8,H8,N,hW,hH,⟨hW1,hW4⟩,⟨hH1,hH4⟩,hN,hN1,hN2,hWH,htl,hq⟩:=Ds hok;rw[show H/8=H8 by omega,show W/8=W8 by omega];have HOK:=Aa hok;have HWH:=Aa hWH;have HNN:=Aa hN;have HN:=Aa hn;have HL:=Aa hl;have HS:=Aa s;have HU:=Aa u;obtain⟨f,hf⟩:∃ f,f=slcE ⟨W,H,tp⟩ r W H q false W8:=⟨_,rfl⟩;rw[←hf];have HF:=Aa hf;have HW:=Aa hW;have HH:=Aa hH;have hWl:8≤W∧W≤32:=by omega
 have hHl:8≤H∧H≤32:=by omega
 have hnl:n≤1024:=by omega
 have hw8:w.heap.size≤w.heap.size:=Nat.le_refl _;clear hok hWH hN hf hW hH hn htl hw8 hl s u;obtain⟨p0,p1,p2,E0⟩:=bxs3 w (.cells #[.int .i64 W,.int .i64 H,.slice a n c] 30) (.cells #[.int .i64 r.w,.int .i64 r.h,.slice b l d] 30) (.cells #[.int .i64 0,.int .i64 0,.bool false,.int .i64 0,.slice none 0 0] 28);obtain⟨-,i0,i1,i2,-⟩:=bx3 p0;obtain⟨-,j0,j1,j2,-⟩:=bx3 p1;go_enter Tryz.func17,Tryz.ntmps17
 have q0:=p0;have q1:=p1;have q2:=p2;have E1:=E0;clear p0 p1 p2 E0;go_upto_region 2 with fail
 have e2:=Ext.alloc (((w.alloc (.cells #[.int .i64 W,.int .i64 H,.slice a n c] 30)).alloc (.cells #[.int .i64 r.w,.int .i64 r.h,.slice b l d] 30)).alloc (.cells #[.int .i64 0,.int .i64 0,.bool false,.int .i64 0,.slice none 0 0] 28)) (.cells #[.int .i64 W,.int .i64 H,.bool false,.int .i64 q,.slice none 0 0] 28);have z0:=e2.blk q0;have z1:=e2.blk q1;have z2:=e2.blk q2;have z3:=Aj (((w.alloc (.cells #[.int .i64 W,.int .i64 H,.slice a n c] 30)).alloc (.cells #[.int .i64 r.w,.int .i64 r.h,.slice b l d] 30)).alloc (.cells #[.int .i64 0,.int .i64 0,.bool false,.int .i64 0,.slice none 0 0] 28)) (.cells #[.int .i64 W,.int .i64 H,.bool false,.int .i64 q,.slice none 0 0] 28);have E2:=E1.trans e2;have hC0:=lt_of_block q2;obtain⟨B,hB⟩:∃ B,B=w.heap.size:=⟨_,rfl⟩;have hB2:w.heap.size≤B:=by omega
 try simp only[World.size_alloc]
 simp only[World.size_alloc]at z3 hC0;obtain⟨C,hC⟩:∃ C,C=w.heap.size+1+1+1:=⟨_,rfl⟩;rw[←hC]at z3 hC0⊢;rw[←hB]at z0 z1 z2 hC0⊢;clear hB q0 q1 q2 E1 e2 hC i0 i1 i2 j0 j1 j2;generalize (((w.alloc (.cells #[.int .i64 W,.int .i64 H,.slice a n c] 30)).alloc (.cells #[.int .i64 r.w,.int .i64 r.h,.slice b l d] 30)).alloc (.cells #[.int .i64 0,.int .i64 0,.bool false,.int .i64 0,.slice none 0 0] 28)).alloc (.cells #[.int .i64 W,.int .i64 H,.bool false,.int .i64 q,.slice none 0 0] 28)=w3 at *;have hC1:=lt_of_block z3;obtain⟨-,i0,i1,i2,-⟩:=bx3 z0;go_wp2_with fail
 refine(Df W H 128 N _ ⟨by omega,by omega,by have:=HW.out;omega⟩ ⟨by omega,by omega,by have:=HH.out;omega⟩ (by omega) HWH.out hN2).mono ?_
 rintro e w4 ⟨a1,c1,rfl,own1,e4⟩
 have own2:w4.ownsRow w3.heap.size 3 1 (.slice a1 N c1) N ((picE ⟨W,H,tp⟩ r W H q false W8 0).map (Value.int .i64)):=by
  unfold picE;rw[←HNN.out,List.map_replicate];exact own1
 obtain⟨X,hX⟩:∃ X,X=w3.heap.size:=⟨_,rfl⟩;rw[←hX]at own2 hC1;clear hX own1;have hgo:∃ g,a1=some ⟨g,0,none⟩∧X≤g:=by
  rcases own2.2 with⟨-,h0⟩|⟨g,cc,cur,hv,hb,hb2,-⟩
  ·omega
  ·simp only[Value.slice.injEq]at hv;exact⟨g,hv.1,hb⟩
 obtain⟨g,rfl,hg⟩:=hgo;go_upto_region 3 with fail
 have e5:=Ext.alloc w4 (.cells #[.int .i64 W,.int .i64 H,.slice (some ⟨g,0,none⟩) N c1] 30);have b4:=Aj w4 (.cells #[.int .i64 W,.int .i64 H,.slice (some ⟨g,0,none⟩) N c1] 30);have S0:EQ w (w4.alloc (.cells #[.int .i64 W,.int .i64 H,.slice (some ⟨g,0,none⟩) N c1] 30)) B C w4.heap.size X g N c1 #[.int .i64 W,.int .i64 H,.slice a n c] #[.int .i64 r.w,.int .i64 r.h,.slice b l d] #[.int .i64 W,.int .i64 H,.bool false,.int .i64 q,.slice none 0 0] #[.int .i64 W,.int .i64 H,.slice (some ⟨g,0,none⟩) N c1] (picE ⟨W,H,tp⟩ r W H q false W8 0) :=
  ⟨(E2.trans e4).trans e5,e5.blk (e4.blk z0),e5.blk (e4.blk z1),e5.blk (e4.blk z2),e5.blk (e4.blk z3),b4,Ae own2 e5⟩
 have hCP:C<w4.heap.size:=lt_of_block (e4.blk z3);have hs0:=lt_of_block b4;try simp only[World.size_alloc]
 obtain⟨Pb,hPb⟩:∃ Pb,Pb=w4.heap.size:=⟨_,rfl⟩;rw[←hPb]at S0 hCP hs0⊢;clear hPb z0 z1 z2 z3 E2 e4 e5 b4 own2 i0 i1 i2;generalize w4.alloc (.cells #[.int .i64 W,.int .i64 H,.slice (some ⟨g,0,none⟩) N c1] 30)=w5 at *;have SS0:=SSk.nil w5 (Pb+1) w5.heap.size f hs0;go_wp2_with fail
 go_loopw [11] (fun yy wr=>∃(j:Nat) (zv:Value) (cs:List Value),j≤H8∧yy= .int .i64 ((8*j:Nat):Int)∧EQ w wr B C Pb X g N c1 #[.int .i64 W,.int .i64 H,.slice a n c] #[.int .i64 r.w,.int .i64 r.h,.slice b l d] #[.int .i64 W,.int .i64 H,.bool false,.int .i64 q,zv] #[.int .i64 W,.int .i64 H,.slice (some ⟨g,0,none⟩) N c1] (picE ⟨W,H,tp⟩ r W H q false W8 j)∧Pb+1≤wr.heap.size∧SSk wr (Pb+1) wr.heap.size zv j j f cs) (fun yy _=>H-(intOf yy).toNat)
 case atStart=>exact⟨0,_,[],by omega,rfl,S0,hs0,SS0⟩
 case round =>
  clear S0 hs0 SS0;obtain⟨j,zv,cs,hj,rfl,S,hs,SS⟩:=hrel;obtain⟨-,i0,i1,i2,-⟩:=bx3 S.b0;obtain⟨yt,hyt⟩:∃ y,y=8*j:=⟨_,rfl⟩;rw[←hyt];have HY:=Aa hyt;clear hyt
  by_cases hlt:j<H8
  ·have hjH:yt+8≤H:=by have:=HH.out;have:=HY.out;omega
   have hd:decide (yt<H)=true:=by simp;omega
   have hd':decide ((yt:Int)<(H:Int))=true:=by simp;omega
   have hpv:=DN (t:=⟨W,H,tp⟩) (r:=r) (q:=q) (intra:=false) (W8:=W8) HOK.out.1.1 HOK.out.1.2.1 j;obtain⟨px0,hpx⟩:∃ p,p=picE ⟨W,H,tp⟩ r W H q false W8 j:=⟨_,rfl⟩;rw[←hpx]at S hpv;have HPX:=Aa (show f j=slcL (rowB ⟨W,H,tp⟩ r W H yt q false px0) false W8 by rw[HF.out,hpx,HY.out];rfl);have HPN:=Aa (show rowE ⟨W,H,tp⟩ r W H yt q false px0 W8=picE ⟨W,H,tp⟩ r W H q false W8 (j+1) by rw[hpx,HY.out];rfl);have HPV:=Aa hpv;clear hpx hpv;have oA:=World.ownsRow_made (base:=B) (e:=50) (size:=71) wr #[] 0 (Nat.le_of_lt (lt_of_block S.b0)) (by simp) rfl;have eA:=Ext.alloc wr (.cells #[] 50);have SA:=S.ext eA;have SSA:=(SS.ext eA).up eA.size;have hsA:=Nat.le_trans hs eA.size;clear S SS eA;go_wp2_with fail
   go_loopw [12,13] (fun v xx wr=>∃(k:Nat) (L:List Int),k≤W8∧xx= .int .i64 ((8*k:Nat):Int)∧EQ w wr B C Pb X g N c1 #[.int .i64 W,.int .i64 H,.slice a n c] #[.int .i64 r.w,.int .i64 r.h,.slice b l d] #[.int .i64 W,.int .i64 H,.bool false,.int .i64 q,zv] #[.int .i64 W,.int .i64 H,.slice (some ⟨g,0,none⟩) N c1] (rowE ⟨W,H,tp⟩ r W H yt q false px0 k)∧Pb+1≤wr.heap.size∧SSk wr (Pb+1) wr.heap.size zv j j f cs∧wr.ownsRow B 50 71 v k (L.map (Value.int .i64))∧(∀ o,o<k→sub L (o*71) 71=(rowB ⟨W,H,tp⟩ r W H yt q false px0 o).zs)) (fun _ xx _=>W-(intOf xx).toNat)
   case atStart=>exact⟨0,[],by omega,rfl,SA,hsA,SSA,oA,fun o ho=>absurd ho (by omega)⟩
   case round =>
    clear SA SSA hsA oA i0 i1 i2 hd hd' hs;obtain⟨k,L,hk,rfl,S,hs,SS,o3,hz⟩:=hrel;have hLl:L.length=k*71:=by simpa using o3.1
    have Hz:=Aa hz;clear hz;obtain⟨a3,c3,rfl⟩:=Al o3;obtain⟨xt,hxt⟩:∃ x,x=8*k:=⟨_,rfl⟩;rw[←hxt];have HX:=Aa hxt;clear hxt
    by_cases hlk:k<W8
    ·have hkW:xt+8≤W:=by have:=HW.out;have:=HX.out;omega
     have hd:decide (xt<W)=true:=by simp;omega
     have hd':decide ((xt:Int)<(W:Int))=true:=by simp;omega
     have Z0:=IB.new wr 50 (zl 71);have e0:=Ext.alloc wr (.cells (ic (zl 71)) 50);obtain⟨-,i3,i4,-⟩:=bx3 S.b0;go_wp2_with (first|(refine Au 50 rfl rfl 71 Bf ?_;(try simp only[World.size_alloc]))|(refine Af 50 _ _ rfl rfl Z0 0 71 rfl _ rfl (zl 71) Ls Ah (AB 71) (by simp[zl]) ?_;intro w0 Z1 g0;refine Hid.out ?_))
     rw[Ap (by rw[AB])]at Z1;have e1:Ext wr w0:=Ext.grown e0 g0 (fun x hx=>by cases hx;exact Nat.le_refl _);clear Z0 e0 g0 i3 i4;have HPL0:=FQ HOK.out.1 HW.out HH.out hlk hlt;rw[←HX.out,←HY.out]at HPL0;have HPL:=Aa HPL0;clear HPL0;have S1:=S.ext e1;have SS1:=(SS.ext e1).up e1.size;have o1:=Ae o3 e1;have hlst:∀ x,(Value.slice a3 k c3).ownBlock=some x→x<wr.heap.size:=fun x hx=>(o3.lt x hx).2
     obtain⟨-,i0,i1,i2,-⟩:=bx3 S1.b0;obtain⟨-,j0,j1,j2,-⟩:=bx3 S1.b1;obtain⟨-,k0,k1,k2,-⟩:=bx3 S1.b4;obtain⟨-,i3,-⟩:=bx3 S.b0;have hs1:=Nat.le_trans hs e1.size;have hq0:=lt_of_block S.b4;obtain⟨px,hpx⟩:∃ p,p=(rowE ⟨W,H,tp⟩ r W H yt q false px0 k):=⟨_,rfl⟩;have HPXk:=Aa hpx;have hpv:Pic.valid ⟨W,H,px⟩:=by rw[hpx];exact Ce HPV.out k
     rw[←hpx]at S1;have HS0:=Aa S;have HSS0:=Aa SS;have HO0:=Aa o3;clear hpx S SS o3;have HPK:=Aa hpv;have HPJ0:=FQ hpv HW.out HH.out hlk hlt;rw[←HX.out,←HY.out]at HPJ0;have HPJ:=Aa HPJ0;clear HPJ0;have hxl:px.length=N:=by
      have:=S1.ow.1
      simpa using this
     have Hxl:=Aa hxl;clear hxl;refine Aa ?_;go_wp2_with fail
     refine(K8 ⟨W,H,tp⟩ r W H xt yt q px (yt:Int) a b (some ⟨g,0,none⟩) c d c1 n l N _ (HOK.out.2.2 rfl) (KJ HOK.out.1 HPK.out) HPL.out hq ⟨by omega,by omega⟩ HN.out HL.out Hxl.out.symm (HS.out.ext S1.ex) (HU.out.ext S1.ex) (Sl.of_owns S1.ow)).mono ?_;rw[show chM ⟨W,H,tp⟩ r ⟨W,H,px⟩ xt yt q (yt:Int)=emB ⟨W,H,tp⟩ r W H px xt yt q false from rfl];have hmb:=Jy (t:=⟨W,H,tp⟩) (r:=r) (intra:=false) xt yt HOK.out.1 (fun h=>(HOK.out.2.2 h).2.1) HPK.out hq;have hmo:=Fw ⟨W,H,tp⟩ r W H px xt yt q false;have HSt:=Aa (show bldS r ⟨W,H,px⟩ xt yt (emB ⟨W,H,tp⟩ r W H px xt yt q false) q (yt:Int) 4=rowE ⟨W,H,tp⟩ r W H yt q false px0 (k+1) by rw[HPXk.out,HX.out];rfl);have HRB:=Aa (show emB ⟨W,H,tp⟩ r W H px xt yt q false=rowB ⟨W,H,tp⟩ r W H yt q false px0 k by rw[HPXk.out,HX.out];rfl);generalize emB ⟨W,H,tp⟩ r W H px xt yt q false=m at *;have Hmb:=Aa hmb;have Hmo:=Aa hmo;have Hzl:=Aa (Mac.zs_len hmo);clear hmb hmo
     rintro e w2 ⟨rfl,e2⟩
     have Z2:=Z1.ext e2;have e12:=e1.trans e2;clear Z1 S1 SS1 o1 e1 e2 i0 i1 i2 j0 j1 j2 k0 k1 k2 i3;go_wp2_with (refine Af 50 _ _ rfl rfl Z2 0 71 rfl _ rfl m.zs rfl Ah Hzl.out (by simp[zl]) ?_;intro w3 q3 g3;refine Hid.out ?_)
     rw[Ap (by rw[AB,Hzl.out])]at q3;have e3:Ext wr w3:=Ext.grown e12 g3 (fun x hx=>by cases hx;exact Nat.le_refl _);have S3:=HS0.out.ext e3;have SS3:=(HSS0.out.ext e3).up e3.size;have o4:=Ae HO0.out e3;have hs3:=Nat.le_trans hs e3.size;rw[←HPXk.out]at S3;clear Z2 g3 e12 e3 hs hs1;obtain⟨mq,hmq⟩:∃ x,x=wr.heap.size:=⟨_,rfl⟩;rw[←hmq]at q3 hlst hq0⊢;clear hmq;refine Aa ?_;obtain⟨-,j0,j1,j2,-⟩:=bx3 S3.b1;obtain⟨-,k0,k1,k2,-⟩:=bx3 S3.b4;go_wp2_with (refine Ab 50 _ rfl rfl q3 0 71 rfl _ Ro rfl Ah (by rw[Hzl.out];omega) _ (by rw[Ak _ _ Hzl.out]) ?_)
     have hrv : ¬ m.kind=2→r.valid:=fun hk=>(HOK.out.2.2 rfl).2.1
     have hrz : ¬ m.kind=2→∀ z,b=some z→z.block≠g:=fun hk z hz=>by
      have h9:=Pic.len_le (hrv hk);rw[←HL.out]at h9;have:=Cs HU.out z hz (by omega);omega
     refine(FM r W H xt yt px m q (yt:Int) b l d X g N c1 _ S3.ow HPJ.out Hmo.out Hmb.out.1 hq (by omega) hrv HL.out (HU.out.ext S3.ex) hrz).mono ?_;rw[HSt.out]
     rintro e w5 ⟨rfl,own7,gr7⟩
     have S5:=S3.pix own7 gr7 (by omega);have SS5:=(SSk.kept (v0 := .slice (some ⟨g,0,none⟩) N c1) SS3 gr7 S3.ow (by decide) (by decide)).up gr7.size;have o5:=o4.kept gr7 (BO (v2 := .slice (some ⟨g,0,none⟩) N c1) o4 S3.ow (by decide));have hs5:=Nat.le_trans hs3 gr7.size;have q5:=q3.gr gr7 (AW (v := .slice (some ⟨g,0,none⟩) N c1) S3.ow q3 (by decide));clear S3 SS3 o4 hs3 q3 own7 gr7 j0 j1 j2 k0 k1 k2 hrz hrv;go_wp2_with (first|(at_builtin;refine Dp _ o5 (Nat.le_of_lt (lt_of_block S5.b0)) m.zs Hzl.out rfl _ _ rfl rfl rfl (by omega) ?_;intro v5 w6 own5 gr5;refine Hid.out ?_)|refine Fb _ rfl rfl m.zs rfl Hzl.out ?_|(refine Ab 50 _ rfl rfl q5 0 71 rfl _ Ro rfl Ah (by rw[Hzl.out];omega) _ (by rw[Ak _ _ Hzl.out]) ?_))
     have S6:=S5.row o5 gr5 hB2 (by decide) (by decide) (by decide);have SS6:=(SSk.kept SS5 gr5 o5 (by decide) (by decide)).up gr5.size;have q6:=q5.gr gr5 (fun e=>by have:=hlst mq e;omega);have hs6:=Nat.le_trans hs5 gr5.size;have o6:w6.ownsRow B 50 71 v5 (k+1) ((L++m.zs).map (Value.int .i64)):=by rw[List.map_append];exact own5
     obtain⟨a5,c5,rfl⟩:=Al o6;clear S5 SS5 q5 o5 hs5 own5 gr5;refine Aa ?_;go_wp2;go_roundw
     case rel =>
      refine⟨k+1,L++m.zs,by omega,by rw[show 8*(k+1)=xt+8 by have:=HX.out;omega];go_num,S6,hs6,SS6,o6,fun o ho => ?_⟩
      by_cases ho2:o<k
      ·rw[He hLl ho2];exact Hz.out o ho2
      ·obtain rfl:o=k:=by omega
       rw[Hg hLl Hzl.out,HRB.out]
     case measure=>have:=HX.out;simp[intOf] <;> omega
    ·obtain rfl:k=W8:=by omega
     have hkE:W≤xt:=by have:=HW.out;have:=HX.out;omega
     have hd:decide (xt<W)=false:=by simp;omega
     have hd':decide ((xt:Int)<(W:Int))=false:=by simp;omega
     obtain⟨-,i0,i1,i2,-⟩:=bx3 S.b0;obtain⟨al,cl,rfl⟩:=Al SS.own;obtain⟨HI,hHI⟩:∃ HI,HI=wr.heap.size:=⟨_,rfl⟩;have hHI2:HI≤wr.heap.size:=by omega
     have hvl:∀ x,(Value.slice al j cl).ownBlock=some x→x<HI:=fun x hx=>by rw[hHI];exact(SS.own.lt x hx).2
     rw[←hHI]at SS hs;clear hHI;obtain⟨ms,hms⟩:∃ ms,ms=rowB ⟨W,H,tp⟩ r W H yt q false px0:=⟨_,rfl⟩;have HM:=Aa (show ∀ o,o<k→(ms o).ok∧sub L (o*71) 71=(ms o).zs from fun o ho=>by rw[hms];exact⟨Fw _ _ _ _ _ _ _ _ _,Hz.out o ho⟩);have HSL:=Aa (show IN ms false k by rw[hms];exact Lh HOK.out.1 (fun h=>(HOK.out.2.2 h).2.1) HPV.out hq ⟨hW1,hW4⟩);obtain⟨zs,hzs⟩:∃ zs,zs=f j:=⟨_,rfl⟩;have HZ:=Aa (show slcL ms false k=zs by rw[hzs,HPX.out,hms]);have Hzs:=Aa hzs;obtain⟨m,hm⟩:∃ m,m=zs.length:=⟨_,rfl⟩;have Hm:=Aa hm;rw[HPN.out]at S;obtain⟨px1,hpx1⟩:∃ p,p=picE ⟨W,H,tp⟩ r W H q false k (j+1):=⟨_,rfl⟩;rw[←hpx1]at S;have HP1:=Aa hpx1;have hCw:w.heap.size≤C:=by omega
     clear hms hzs hm hpx1;go_upto_region 16 with fail
     have hext:Stab (fun wa wb=>Ext wa wb) (fun i own ys wx=>match i with|0=>own= .pointer (some ⟨C,4,none⟩)|1=>own= .slice al j cl|2=>own= .slice a3 k c3|3=>own= .bool false|4=>∃(a1':Option Addr) (c1':Nat),own= .slice a1' m c1'∧wx.ownsRow HI 5 1 (.slice a1' m c1') m (zs.map (Value.int .u8))|5=>∃(p:Nat) (a1':Option Addr) (c1':Nat),own= .slice (some ⟨p,0,none⟩) 1 1∧wx.ownsRow HI 54 1 (.slice (some ⟨p,0,none⟩) 1 1) 1 [.slice a1' m c1']∧wx.ownsRow HI 5 1 (.slice a1' m c1') m (zs.map (Value.int .u8))|6=>∃(an:Option Addr) (cc:Nat) (cn:List Value),own= .slice an (j+1) cc∧SSk wx (Pb+1) wx.heap.size (.slice an (j+1) cc) (j+1) (j+1) f cn|7=>own= .pointer (some ⟨C,4,none⟩)|8=>∃(an:Option Addr) (cc:Nat) (cn:List Value),EQ w wx B C Pb X g N c1 #[.int .i64 W,.int .i64 H,.slice a n c] #[.int .i64 r.w,.int .i64 r.h,.slice b l d] #[.int .i64 W,.int .i64 H,.bool false,.int .i64 q,.slice an (j+1) cc] #[.int .i64 W,.int .i64 H,.slice (some ⟨g,0,none⟩) N c1] px1∧SSk wx (Pb+1) wx.heap.size (.slice an (j+1) cc) (j+1) (j+1) f cn|_=>True):=by
      intro i own ys wa wb e h
      match i,h with
      | 0,h|1,h|2,h|3,h|7,h=>exact h
      | 4,h=>obtain⟨a9,c9,h1,h2⟩:=h;exact⟨a9,c9,h1,Ae h2 e⟩
      | 5,h=>obtain⟨p9,a9,c9,h1,h2,h3⟩:=h;exact⟨p9,a9,c9,h1,Ae h2 e,Ae h3 e⟩
      | 6,h=>obtain⟨a9,d9,c9,h1,h2⟩:=h;exact⟨a9,d9,c9,h1,(h2.ext e).up e.size⟩
      | 8,h=>obtain⟨a9,d9,c9,h1,h2⟩:=h;exact⟨a9,d9,c9,h1.ext e,(h2.ext e).up e.size⟩
      | _+9,_=>trivial
     have Hext:=Aa hext;clear hext;refine Am (by kernel_rfl) [(69,0),(70,1),(71,2),(72,3),(73,4),(74,5),(75,6),(76,7)] [[],[0],[],[],[2,3],[2,3,4],[0,1,2,3,4,5],[0,1,2,3,4,5,6],[0,1,2,3,4,5,6,7]] (fun i own ys wx=>match i with|0=>own= .pointer (some ⟨C,4,none⟩)|1=>own= .slice al j cl|2=>own= .slice a3 k c3|3=>own= .bool false|4=>∃(a1':Option Addr) (c1':Nat),own= .slice a1' m c1'∧wx.ownsRow HI 5 1 (.slice a1' m c1') m (zs.map (Value.int .u8))|5=>∃(p:Nat) (a1':Option Addr) (c1':Nat),own= .slice (some ⟨p,0,none⟩) 1 1∧wx.ownsRow HI 54 1 (.slice (some ⟨p,0,none⟩) 1 1) 1 [.slice a1' m c1']∧wx.ownsRow HI 5 1 (.slice a1' m c1') m (zs.map (Value.int .u8))|6=>∃(an:Option Addr) (cc:Nat) (cn:List Value),own= .slice an (j+1) cc∧SSk wx (Pb+1) wx.heap.size (.slice an (j+1) cc) (j+1) (j+1) f cn|7=>own= .pointer (some ⟨C,4,none⟩)|8=>∃(an:Option Addr) (cc:Nat) (cn:List Value),EQ w wx B C Pb X g N c1 #[.int .i64 W,.int .i64 H,.slice a n c] #[.int .i64 r.w,.int .i64 r.h,.slice b l d] #[.int .i64 W,.int .i64 H,.bool false,.int .i64 q,.slice an (j+1) cc] #[.int .i64 W,.int .i64 H,.slice (some ⟨g,0,none⟩) N c1] px1∧SSk wx (Pb+1) wx.heap.size (.slice an (j+1) cc) (j+1) (j+1) f cn|_=>True) (fun Lx wx=>(∃ z,EQ w wx B C Pb X g N c1 #[.int .i64 W,.int .i64 H,.slice a n c] #[.int .i64 r.w,.int .i64 r.h,.slice b l d] #[.int .i64 W,.int .i64 H,.bool false,.int .i64 q,z] #[.int .i64 W,.int .i64 H,.slice (some ⟨g,0,none⟩) N c1] px1∧(Lx 8=false→z= .slice al j cl))∧HI≤wx.heap.size∧SSk wx (Pb+1) HI (.slice al j cl) j j f cs∧wx.ownsRow B 50 71 (.slice a3 k c3) k (L.map (Value.int .i64))) (by kernel_rfl) (by kernel_rfl) (by kernel_rfl) ?g0_r2 ?gop_r2 ?gend_r2
     case g0_r2=>exact⟨⟨_,S.ext (Ext.drewN _ 1),fun _=>rfl⟩,hHI2,SS.ext (Ext.drewN _ 1),Ae o3 (Ext.drewN _ 1)⟩
     case gop_r2 =>
      refine⟨?_,?o1,?_,?_,?o4,?o5,?o6,?_,?o8,trivial⟩ <;> (intro Lx xs wx hG hl ha hb hD hI Qo Kx hK hQo;simp only[Ad,Nat.reduceAdd,Nat.reduceEqDiff,↓reduceIte]at hQo⊢)
      case o1 =>
       have l8:Lx 8=false:=hb 8 rfl;clear hl ha hb;rw[ddq (hD 0 rfl)]at hQo⊢;clear hD hI;obtain⟨z,g1,g2⟩:=hG.1;obtain rfl:=g2 l8;obtain⟨-,k0,k1,k2,k3,k4⟩:=bx5 g1.b3;go_wp2;exact hK.out _ _ ⟨rfl,hG,kkp⟩
      case o4 =>
       clear hl ha hb;rw[ddq (hD 2 rfl),ddq (hD 3 rfl)]at hQo⊢;clear hD hI;have HG4:=Aa hG;go_wp2_with fail
       refine(C5 a3 _ c3 ms false _ (MR.of_list (ms:=ms) HG4.out.2.2.2 HM.out) (by omega)).mono ?_;rw[HZ.out,←Hm.out]
       rintro e w9 ⟨a9,c9,rfl,o9,e9⟩
       go_wp2;obtain⟨⟨z,g1,g4⟩,g2,g6,g7⟩:=HG4.out;exact hK.out _ _ ⟨⟨a9,c9,rfl,AH o9 g2⟩,⟨⟨z,g1.ext e9,g4⟩,Nat.le_trans g2 e9.size,g6.ext e9,Ae g7 e9⟩,fun i _ _ _ own ys h=>Hext.out i own ys _ _ e9 h⟩
      case o5 =>
       clear hl ha hb;have d4:∃(a1':Option Addr) (c1':Nat),(xs 4) = .slice a1' m c1'∧wx.ownsRow HI 5 1 (.slice a1' m c1') m (zs.map (Value.int .u8)):=hD 4 rfl;clear hD hI;generalize xs 4=y4 at *;obtain⟨a4,c4,rfl,o4⟩:=d4;have e8:=Ext.alloc wx (.cells #[.slice a4 m c4] 54);have o9:=World.ownsRow_lit (base:=HI) (e:=54) (size:=1) wx #[.slice a4 m c4] 1 hG.2.1 (by unfold maxLen;omega) rfl;go_wp2;obtain⟨⟨z,g1,g4⟩,g2,g6,g7⟩:=hG;exact hK.out _ _ ⟨⟨_,_,_,rfl,o9,Ae o4 e8⟩,⟨⟨z,g1.ext e8,g4⟩,Nat.le_trans g2 e8.size,g6.ext e8,Ae g7 e8⟩,fun i _ _ _ own ys h=>Hext.out i own ys _ _ e8 h⟩
      case o6 =>
       have l8:Lx 8=false:=hb 8 rfl;clear hl ha hb;rw[ddq (hD 1 rfl)]at hQo⊢;have d5:∃(p:Nat) (a1':Option Addr) (c1':Nat),(xs 5) = .slice (some ⟨p,0,none⟩) 1 1∧wx.ownsRow HI 54 1 (.slice (some ⟨p,0,none⟩) 1 1) 1 [.slice a1' m c1']∧wx.ownsRow HI 5 1 (.slice a1' m c1') m (zs.map (Value.int .u8)):=hD 5 rfl;clear hD hI;generalize xs 5=y5 at *;obtain⟨p5,a5,c5,rfl,q5,o5⟩:=d5;have o9:=hG.2.2.1.own;refine Aw _ rfl o9 (Nat.le_trans hs hG.2.1) _ _ _ rfl (.slice none 0 0) 24 Rz ER rfl (by decide) rfl ⟨p5,0,none⟩ 1 1 _ rfl rfl (q5.cells rfl) (by intro u hu;simp at hu;subst hu;rfl) (by omega) (by omega) ?_;intro v14 w14 own14 gr14 keep14;obtain⟨a14,c14,rfl⟩:=Al own14;have hst:∀(wy:World),(∀ b' own n' xs',wx.ownsRow b' 5 1 own n' xs'→wy.ownsRow b' 5 1 own n' xs')∧(∀ e' own n' xs',wx.ownsRow HI e' 1 own n' xs'→wy.ownsRow HI e' 1 own n' xs')→Stbn 9 6 [[],[0],[],[],[2,3],[2,3,4],[0,1,2,3,4,5],[0,1,2,3,4,5,6],[0,1,2,3,4,5,6,7]] (fun i own ys wx=>match i with|0=>own= .pointer (some ⟨C,4,none⟩)|1=>own= .slice al j cl|2=>own= .slice a3 k c3|3=>own= .bool false|4=>∃(a1':Option Addr) (c1':Nat),own= .slice a1' m c1'∧wx.ownsRow HI 5 1 (.slice a1' m c1') m (zs.map (Value.int .u8))|5=>∃(p:Nat) (a1':Option Addr) (c1':Nat),own= .slice (some ⟨p,0,none⟩) 1 1∧wx.ownsRow HI 54 1 (.slice (some ⟨p,0,none⟩) 1 1) 1 [.slice a1' m c1']∧wx.ownsRow HI 5 1 (.slice a1' m c1') m (zs.map (Value.int .u8))|6=>∃(an:Option Addr) (cc:Nat) (cn:List Value),own= .slice an (j+1) cc∧SSk wx (Pb+1) wx.heap.size (.slice an (j+1) cc) (j+1) (j+1) f cn|7=>own= .pointer (some ⟨C,4,none⟩)|8=>∃(an:Option Addr) (cc:Nat) (cn:List Value),EQ w wx B C Pb X g N c1 #[.int .i64 W,.int .i64 H,.slice a n c] #[.int .i64 r.w,.int .i64 r.h,.slice b l d] #[.int .i64 W,.int .i64 H,.bool false,.int .i64 q,.slice an (j+1) cc] #[.int .i64 W,.int .i64 H,.slice (some ⟨g,0,none⟩) N c1] px1∧SSk wx (Pb+1) wx.heap.size (.slice an (j+1) cc) (j+1) (j+1) f cn|_=>True) wx wy:=by
        intro wy hy ii hii hne hc own ys h
        match ii,h with
        | 0,h|1,h|2,h|3,h=>exact h
        | 4,h=>obtain⟨a9,c9,h1,h2⟩:=h;exact⟨a9,c9,h1,hy.1 _ _ _ _ h2⟩
        | 5,h=>obtain⟨p9,a9,c9,h1,h2,h3⟩:=h;exact⟨p9,a9,c9,h1,hy.2 _ _ _ _ h2,hy.2 _ _ _ _ h3⟩
        | 6,h=>exact absurd rfl hne
        | 7,h|8,h=>exact absurd hc (by decide)
        | _+9,_=>trivial
       obtain⟨⟨z,g1,g4⟩,g2,g6,g7⟩:=hG;have hz:=g4 l8;subst hz;have hS:=g1.row o9 gr14 (by omega) (by decide) (by decide) (by decide);have hk6:=SSk.again g6 gr14 (keep14 _ _ _ _ (Nat.le_refl _) o9);have hlt4:∀ y,a5=some y→y.block<w14.heap.size:=fun y hy=>Nat.lt_of_lt_of_le (o5.lt y.block (by rw[hy];rfl)).2 gr14.size
       have happ:SSk w14 (Pb+1) w14.heap.size (.slice a14 (j+1) c14) (j+1) (j+1) f _:=SSk.app (hi':=w14.heap.size) (a1:=a5) (c1:=c5) g6 (by rw[←Hzs.out,←Hm.out];exact o5) (Nat.le_trans g2 gr14.size) hlt4 (by rw[←Hzs.out,←Hm.out];exact own14) gr14;exact hQo _ _ (hK.out _ _ ⟨⟨_,_,_,rfl,happ⟩,⟨⟨_,hS,fun _=>rfl⟩,Nat.le_trans g2 gr14.size,hk6,g7.kept gr14 (BO g7 o9 (by decide))⟩,hst _ ⟨fun _ _ _ _ h=>Jp o9 gr14 h,fun _ _ _ _ h=>Le h gr14 hvl⟩⟩)
      case o8 =>
       clear hl ha hb;rw[ddq (hD 7 rfl)]at hQo⊢;have d6:∃(an:Option Addr) (cc:Nat) (cn:List Value),(xs 6) = .slice an (j+1) cc∧SSk wx (Pb+1) wx.heap.size (.slice an (j+1) cc) (j+1) (j+1) f cn:=hD 6 rfl;clear hD hI;generalize xs 6=y6 at *;obtain⟨a6,d6,cn6,rfl,s6⟩:=d6;obtain⟨⟨z,g1,g4⟩,g2,g6,g7⟩:=hG;obtain⟨-,k0,k1,k2,k3,k4⟩:=bx5 g1.b3;obtain⟨f0,f1,f2,f3,f4⟩:=fz5 g1.b3;go_wp2;have hst:∀(wy:World),wx.grownBy wy (some C)→Stbn 9 8 [[],[0],[],[],[2,3],[2,3,4],[0,1,2,3,4,5],[0,1,2,3,4,5,6],[0,1,2,3,4,5,6,7]] (fun i own ys wx=>match i with|0=>own= .pointer (some ⟨C,4,none⟩)|1=>own= .slice al j cl|2=>own= .slice a3 k c3|3=>own= .bool false|4=>∃(a1':Option Addr) (c1':Nat),own= .slice a1' m c1'∧wx.ownsRow HI 5 1 (.slice a1' m c1') m (zs.map (Value.int .u8))|5=>∃(p:Nat) (a1':Option Addr) (c1':Nat),own= .slice (some ⟨p,0,none⟩) 1 1∧wx.ownsRow HI 54 1 (.slice (some ⟨p,0,none⟩) 1 1) 1 [.slice a1' m c1']∧wx.ownsRow HI 5 1 (.slice a1' m c1') m (zs.map (Value.int .u8))|6=>∃(an:Option Addr) (cc:Nat) (cn:List Value),own= .slice an (j+1) cc∧SSk wx (Pb+1) wx.heap.size (.slice an (j+1) cc) (j+1) (j+1) f cn|7=>own= .pointer (some ⟨C,4,none⟩)|8=>∃(an:Option Addr) (cc:Nat) (cn:List Value),EQ w wx B C Pb X g N c1 #[.int .i64 W,.int .i64 H,.slice a n c] #[.int .i64 r.w,.int .i64 r.h,.slice b l d] #[.int .i64 W,.int .i64 H,.bool false,.int .i64 q,.slice an (j+1) cc] #[.int .i64 W,.int .i64 H,.slice (some ⟨g,0,none⟩) N c1] px1∧SSk wx (Pb+1) wx.heap.size (.slice an (j+1) cc) (j+1) (j+1) f cn|_=>True) wx wy:=by
        intro wy hy ii hii hne hc own ys h
        match ii,h with
        | 0,h|1,h|2,h|3,h|7,h=>exact h
        | 4,h=>obtain⟨a9,c9,h1,h2⟩:=h;exact⟨a9,c9,h1,BI h2 hy (by omega)⟩
        | 5,h=>obtain⟨p9,a9,c9,h1,h2,h3⟩:=h;exact⟨p9,a9,c9,h1,BI h2 hy (by omega),BI h3 hy (by omega)⟩
        | 6,h=>obtain⟨a9,d9,c9,h1,h2⟩:=h;exact⟨a9,d9,c9,h1,(SSk.gr h2 hy (by omega)).up hy.size⟩
        | 8,h=>exact absurd rfl hne
        | _+9,_=>trivial
       have gB:=gs1 wx C 4 (.slice a6 (j+1) d6);have hS:=g1.put (.slice a6 (j+1) d6) hCw hC0 (by omega);exact hQo undef _ (hK.out _ _ ⟨⟨a6,d6,cn6,hS,(SSk.gr s6 gB (by omega)).up gB.size⟩,⟨⟨_,hS,fun h=>by cases h⟩,Nat.le_trans g2 gB.size,SSk.gr g6 gB (by omega),g7.kept gB (AU g7 g1.b3 (by decide))⟩,hst _ gB⟩)
      all_goals
       clear hl ha hb hD hI;go_wp2;exact hK.out _ _ ⟨rfl,hG,kkp⟩
     clear Hext;intro xs wx hV hG0;obtain⟨Lx,hL,hG⟩:=hG0;have l8:Lx 8=true:=hL 8 (by decide);clear hL;have d8:∃(an:Option Addr) (cc:Nat) (cn:List Value),EQ w wx B C Pb X g N c1 #[.int .i64 W,.int .i64 H,.slice a n c] #[.int .i64 r.w,.int .i64 r.h,.slice b l d] #[.int .i64 W,.int .i64 H,.bool false,.int .i64 q,.slice an (j+1) cc] #[.int .i64 W,.int .i64 H,.slice (some ⟨g,0,none⟩) N c1] px1∧SSk wx (Pb+1) wx.heap.size (.slice an (j+1) cc) (j+1) (j+1) f cn:=hV 8 (by decide);clear hV;simp only[Ad,Nat.reduceAdd,Nat.reduceEqDiff,↓reduceIte];generalize xs 0=y0,xs 1=y1,xs 2=y2,xs 3=y3,xs 4=y4,xs 5=y5,xs 6=y6,xs 7=y7,xs 8=y8 at *
     replace hG:(∃ z,EQ w wx B C Pb X g N c1 #[.int .i64 W,.int .i64 H,.slice a n c] #[.int .i64 r.w,.int .i64 r.h,.slice b l d] #[.int .i64 W,.int .i64 H,.bool false,.int .i64 q,z] #[.int .i64 W,.int .i64 H,.slice (some ⟨g,0,none⟩) N c1] px1∧(Lx 8=false→z= .slice al j cl))∧HI≤wx.heap.size∧SSk wx (Pb+1) HI (.slice al j cl) j j f cs∧wx.ownsRow B 50 71 (.slice a3 k c3) k (L.map (Value.int .i64)):=hG
     obtain⟨a8,d8,cn8,S8,s8⟩:=d8;have hsn:=Nat.le_trans hs hG.2.1;have HS8:=Aa S8;have Hs8:=Aa s8;clear hG S8 s8 S SS o3 i0 i1 i2;go_wp2;go_roundw
     case rel=>exact⟨j+1,_,cn8,by omega,by rw[show 8*(j+1)=yt+8 by have:=HY.out;omega];go_num,by rw[←HP1.out];exact HS8.out,hsn,Hs8.out⟩
     case measure=>have:=HY.out;simp[intOf] <;> omega
  ·obtain rfl:j=H8:=by omega
   have hjE:H≤yt:=by have:=HH.out;have:=HY.out;omega
   have hd:decide (yt<H)=false:=by simp;omega
   have hd':decide ((yt:Int)<(H:Int))=false:=by simp;omega
   obtain⟨al,cl,rfl⟩:=Al SS.own;obtain⟨-,k0,k1,k2,k3,k4⟩:=bx5 S.b3;obtain⟨-,j0,j1,j2,j3,j4⟩:=bx5 S.b2;obtain⟨f0,f1,f2,f3,f4⟩:=fz5 S.b2;have HS9:=Aa S;have HSS9:=Aa SS;have hB3:=lt_of_block S.b2;clear S SS;go_wp2;refine bodyPost_ret (v := .agg #[.int .i64 W,.int .i64 H,.bool false,.int .i64 q,.slice al j cl]) (results_cell_row rfl _ _ (B+2) 28 #[.int .i64 W,.int .i64 H,.bool false,.int .i64 q,.slice al j cl] (0,0) _ rfl (BA HS9.out.b2) Rw rfl Bi) rfl ⟨_,_,cs,rfl,?_,?_⟩
   ·have hg:=gs5 wr (B+2) 0 1 2 3 4 (.int .i64 W) (.int .i64 H) (.bool false) (.int .i64 q) (.slice al j cl);exact((SSk.gr HSS9.out hg (by omega)).mono (by omega)).up hg.size
   ·exact Ext.grown HS9.out.ex (gs5 wr (B+2) 0 1 2 3 4 (.int .i64 W) (.int .i64 H) (.bool false) (.int .i64 q) (.slice al j cl)) (fun p hp=>by cases hp;omega)
theorem Fi (t r:Pic)(intra:Bool)(q:Int)(a b:Option Addr)(c d n l:Nat)(w:World)(hn:n=t.px.length)(hl:l=r.px.length)(nc:n≤9223372036854775807)(lc:l≤9223372036854775807)(s:Sl w a n (t.px.map (Value.int .i64)))(u:Sl w b l (r.px.map (Value.int .i64)))(ho : ¬ okE t r intra q):
 Calls Tryz.prog 7 #[.agg #[.int .i64 t.w,.int .i64 t.h,.slice a n c],.agg #[.int .i64 r.w,.int .i64 r.h,.slice b l d],.bool intra,.int .i64 q] w fun e w'=>e= .returned (.agg #[.int .i64 0,.int .i64 0,.bool false,.int .i64 0,.slice none 0 0])∧Ext w w':=by
 have HN:=Aa hn;have HL:=Aa hl;have HS:=Aa s;have HU:=Aa u;have HO:=Aa ho;clear hn hl s u ho;obtain⟨p0,p1,p2,E0⟩:=bxs3 w (.cells #[.int .i64 t.w,.int .i64 t.h,.slice a n c] 30) (.cells #[.int .i64 r.w,.int .i64 r.h,.slice b l d] 30) (.cells #[.int .i64 0,.int .i64 0,.bool false,.int .i64 0,.slice none 0 0] 28);obtain⟨-,i0,i1,i2,-⟩:=bx3 p0;obtain⟨-,j0,j1,j2,-⟩:=bx3 p1;go_enter Tryz.func7,Tryz.ntmps7
 go_wp2_with fail
 refine(Bb t a c n _ HN.out nc (HS.out.ext E0)).mono ?_
 by_cases hv:t.valid
 ·rw[decide_eq_true hv];have HV:=Aa hv;clear hv
  rintro e w1 ⟨rfl,e1⟩
  have q0:=e1.blk p0;have q1:=e1.blk p1;have q2:=e1.blk p2;have E1:=E0.trans e1;clear p0 p1 p2 E0 e1 i0 i1 i2 j0 j1 j2;obtain⟨-,i0,i1,i2,-⟩:=bx3 q0;obtain⟨-,j0,j1,j2,-⟩:=bx3 q1;go_wp2_with fail
  by_cases hq:0≤q∧q≤15
  ·refine(KD q _ hq).mono ?_
   rintro e w2 ⟨rfl,rfl⟩
   have HQ:=Aa hq;clear hq;cases intra with
   | true=>exact absurd ⟨HV.out,HQ.out,fun h=>by cases h⟩ HO.out
   | false =>
    have HA:=Aa (show ¬ AS t r from fun h=>HO.out ⟨HV.out,HQ.out,fun _=>h⟩);go_wp2_with fail
    refine(Du t r a b c d n l _ HN.out HL.out nc lc (HS.out.ext E1) (HU.out.ext E1)).mono ?_;rw[decide_eq_false HA.out]
    rintro e w2 ⟨rfl,e1⟩
    have p2:=e1.blk q2;have E0:=E1.trans e1;clear q2 E1 e1 q0 q1 i0 i1 i2 j0 j1 j2;have hwB:=lt_of_block p2;obtain⟨-,k0,k1,k2,k3,k4⟩:=bx5 p2;obtain⟨f0,f1,f2,f3,f4⟩:=fz5 p2;have ZZ:=Aa p2;have hg:=gs5 w2 (w.heap.size+1+1) 0 1 2 3 4 (.int .i64 0) (.int .i64 0) (.bool false) (.int .i64 0) (.slice none 0 0);have EZ:=Ext.grown E0 hg (fun k e=>by cases e;omega);have HEZ:=Aa EZ;clear p2 hg EZ E0;go_wp2;exact bodyPost_ret (v := .agg #[.int .i64 0,.int .i64 0,.bool false,.int .i64 0,.slice none 0 0]) (results_cell_row rfl _ _ (w.heap.size+1+1) 28 #[.int .i64 0,.int .i64 0,.bool false,.int .i64 0,.slice none 0 0] (0,0) _ rfl (BA ZZ.out) Rw rfl Bi) rfl ⟨rfl,HEZ.out⟩
  ·refine(QV q _ hq).mono ?_
   rintro e w2 ⟨rfl,rfl⟩
   clear hq q0 q1 i0 i1 i2 j0 j1 j2;have hwB:=lt_of_block q2;obtain⟨-,k0,k1,k2,k3,k4⟩:=bx5 q2;obtain⟨f0,f1,f2,f3,f4⟩:=fz5 q2;have ZZ:=Aa q2;have hg:=gs5 w1 (w.heap.size+1+1) 0 1 2 3 4 (.int .i64 0) (.int .i64 0) (.bool false) (.int .i64 0) (.slice none 0 0);have EZ:=Ext.grown E1 hg (fun k e=>by cases e;omega);have HEZ:=Aa EZ;clear q2 hg EZ E1;go_wp2;exact bodyPost_ret (v := .agg #[.int .i64 0,.int .i64 0,.bool false,.int .i64 0,.slice none 0 0]) (results_cell_row rfl _ _ (w.heap.size+1+1) 28 #[.int .i64 0,.int .i64 0,.bool false,.int .i64 0,.slice none 0 0] (0,0) _ rfl (BA ZZ.out) Rw rfl Bi) rfl ⟨rfl,HEZ.out⟩
 ·rw[decide_eq_false hv];clear hv
  rintro e w1 ⟨rfl,e1⟩
  have q2:=e1.blk p2;have E1:=E0.trans e1;clear p0 p1 p2 E0 e1 i0 i1 i2 j0 j1 j2;have hwB:=lt_of_block q2;obtain⟨-,k0,k1,k2,k3,k4⟩:=bx5 q2;obtain⟨f0,f1,f2,f3,f4⟩:=fz5 q2;have ZZ:=Aa q2;have hg:=gs5 w1 (w.heap.size+1+1) 0 1 2 3 4 (.int .i64 0) (.int .i64 0) (.bool false) (.int .i64 0) (.slice none 0 0);have EZ:=Ext.grown E1 hg (fun k e=>by cases e;omega);have HEZ:=Aa EZ;clear q2 hg EZ E1;go_wp2;exact bodyPost_ret (v := .agg #[.int .i64 0,.int .i64 0,.bool false,.int .i64 0,.slice none 0 0]) (results_cell_row rfl _ _ (w.heap.size+1+1) 28 #[.int .i64 0,.int .i64 0,.bool false,.int .i64 0,.slice none 0 0] (0,0) _ rfl (BA ZZ.out) Rw rfl Bi) rfl ⟨rfl,HEZ.out⟩
theorem ED (t r:Pic)(intra:Bool)(q:Int)(a b:Option Addr)(c d n l:Nat)(w:World)(hT:TabQ w)(hn:n=t.px.length)(hl:l=r.px.length)(nc:n≤9223372036854775807)(lc:l≤9223372036854775807)(s:Sl w a n (t.px.map (Value.int .i64)))(u:Sl w b l (r.px.map (Value.int .i64))):
 Calls Tryz.prog 7 #[.agg #[.int .i64 t.w,.int .i64 t.h,.slice a n c],.agg #[.int .i64 r.w,.int .i64 r.h,.slice b l d],.bool intra,.int .i64 q] w fun e w'=>∃(a':Option Addr) (c':Nat) (ss:List Value),e= .returned (.agg #[.int .i64 (encP t r intra q).w,.int .i64 (encP t r intra q).h,.bool (encP t r intra q).i,.int .i64 (encP t r intra q).q,.slice a' (encP t r intra q).n c'])∧SSg w' w.heap.size w'.heap.size (.slice a' (encP t r intra q).n c') (encP t r intra q).n (encP t r intra q).f ss∧Ext w w':=by
 by_cases ho:okE t r intra q
 ·obtain⟨tw,th,tp⟩:=t;obtain⟨W,rfl⟩:=Int.eq_ofNat_of_zero_le (show 0≤tw by have:8≤tw:=ho.1.1.1;omega);obtain⟨H,rfl⟩:=Int.eq_ofNat_of_zero_le (show 0≤th by have:8≤th:=ho.1.2.1.1;omega);obtain⟨Q,rfl⟩:=Int.eq_ofNat_of_zero_le (show 0≤q from ho.2.1.1);have he:encP ⟨W,H,tp⟩ r intra Q=⟨W,H,intra,Q,H/8,slcE ⟨W,H,tp⟩ r W H Q intra (W/8)⟩:=by unfold encP;rw[if_pos ho];rfl
  rw[he];cases intra with
  | true=>exact FE W H tp r Q a b c d n l w hT hn hl lc s u ho
  | false=>exact FD W H tp r Q a b c d n l w hT hn hl lc s u ho
 ·have he:encP t r intra q=cd0:=if_neg ho;rw[he];exact(Fi t r intra q a b c d n l w hn hl nc lc s u ho).mono fun e w' ⟨h1,h2⟩=>⟨none,0,[],h1,SSk.nil _ _ _ _ h2.size,h2⟩
theorem Fl (t r:Pic)(intra:Bool)(q:Int)(a b:Option Addr)(c d n l:Nat)(w:World)(hn:n=t.px.length)(hl:l=r.px.length)(nc:n≤9223372036854775807)(lc:l≤9223372036854775807)(s:Sl w a n (t.px.map (Value.int .i64)))(u:Sl w b l (r.px.map (Value.int .i64)))(ho : ¬ okE t r intra q):
 Calls Tryz.prog 5 #[.agg #[.int .i64 t.w,.int .i64 t.h,.slice a n c],.agg #[.int .i64 r.w,.int .i64 r.h,.slice b l d],.bool intra,.int .i64 q] w fun e w'=>e= .returned (.agg #[.int .i64 0,.int .i64 0,.bool false,.int .i64 0,.slice none 0 0])∧Ext w w':=by
 have HN:=Aa hn;have HL:=Aa hl;have HS:=Aa s;have HU:=Aa u;have HO:=Aa ho;clear hn hl s u ho;obtain⟨p0,p1,p2,E0⟩:=bxs3 w (.cells #[.int .i64 t.w,.int .i64 t.h,.slice a n c] 30) (.cells #[.int .i64 r.w,.int .i64 r.h,.slice b l d] 30) (.cells #[.int .i64 0,.int .i64 0,.bool false,.int .i64 0,.slice none 0 0] 28);obtain⟨-,i0,i1,i2,-⟩:=bx3 p0;obtain⟨-,j0,j1,j2,-⟩:=bx3 p1;go_enter Tryz.func5,Tryz.ntmps5
 go_wp2_with fail
 refine(Bc t a c n _ HN.out nc (HS.out.ext E0)).mono ?_
 by_cases hv:t.valid
 ·rw[decide_eq_true hv];have HV:=Aa hv;clear hv
  rintro e w1 ⟨rfl,e1⟩
  have q0:=e1.blk p0;have q1:=e1.blk p1;have q2:=e1.blk p2;have E1:=E0.trans e1;clear p0 p1 p2 E0 e1 i0 i1 i2 j0 j1 j2;obtain⟨-,i0,i1,i2,-⟩:=bx3 q0;obtain⟨-,j0,j1,j2,-⟩:=bx3 q1;go_wp2_with fail
  by_cases hq:0≤q∧q≤15
  ·refine(Az _ _ _ _ hq.1 hq.2).mono ?_
   rintro e w2 ⟨rfl,rfl⟩
   have HQ:=Aa hq;clear hq;cases intra with
   | true=>exact absurd ⟨HV.out,HQ.out,fun h=>by cases h⟩ HO.out
   | false =>
    have HA:=Aa (show ¬ AS t r from fun h=>HO.out ⟨HV.out,HQ.out,fun _=>h⟩);go_wp2_with fail
    refine(Ky t r a b c d n l _ HN.out HL.out nc lc (HS.out.ext E1) (HU.out.ext E1)).mono ?_;rw[decide_eq_false HA.out]
    rintro e w2 ⟨rfl,e1⟩
    have p2:=e1.blk q2;have E0:=E1.trans e1;clear q2 E1 e1 q0 q1 i0 i1 i2 j0 j1 j2;have hwB:=lt_of_block p2;obtain⟨-,k0,k1,k2,k3,k4⟩:=bx5 p2;obtain⟨f0,f1,f2,f3,f4⟩:=fz5 p2;have ZZ:=Aa p2;have hg:=gs5 w2 (w.heap.size+1+1) 0 1 2 3 4 (.int .i64 0) (.int .i64 0) (.bool false) (.int .i64 0) (.slice none 0 0);have EZ:=Ext.grown E0 hg (fun k e=>by cases e;omega);have HEZ:=Aa EZ;clear p2 hg EZ E0;go_wp2;exact bodyPost_ret (v := .agg #[.int .i64 0,.int .i64 0,.bool false,.int .i64 0,.slice none 0 0]) (results_cell_row rfl _ _ (w.heap.size+1+1) 28 #[.int .i64 0,.int .i64 0,.bool false,.int .i64 0,.slice none 0 0] (0,0) _ rfl (BA ZZ.out) Rw rfl Bi) rfl ⟨rfl,HEZ.out⟩
  ·refine(BU _ _ _ _ (by omega)).mono ?_
   rintro e w2 ⟨rfl,rfl⟩
   clear hq q0 q1 i0 i1 i2 j0 j1 j2;have hwB:=lt_of_block q2;obtain⟨-,k0,k1,k2,k3,k4⟩:=bx5 q2;obtain⟨f0,f1,f2,f3,f4⟩:=fz5 q2;have ZZ:=Aa q2;have hg:=gs5 w1 (w.heap.size+1+1) 0 1 2 3 4 (.int .i64 0) (.int .i64 0) (.bool false) (.int .i64 0) (.slice none 0 0);have EZ:=Ext.grown E1 hg (fun k e=>by cases e;omega);have HEZ:=Aa EZ;clear q2 hg EZ E1;go_wp2;exact bodyPost_ret (v := .agg #[.int .i64 0,.int .i64 0,.bool false,.int .i64 0,.slice none 0 0]) (results_cell_row rfl _ _ (w.heap.size+1+1) 28 #[.int .i64 0,.int .i64 0,.bool false,.int .i64 0,.slice none 0 0] (0,0) _ rfl (BA ZZ.out) Rw rfl Bi) rfl ⟨rfl,HEZ.out⟩
 ·rw[decide_eq_false hv];clear hv
  rintro e w1 ⟨rfl,e1⟩
  have q2:=e1.blk p2;have E1:=E0.trans e1;clear p0 p1 p2 E0 e1 i0 i1 i2 j0 j1 j2;have hwB:=lt_of_block q2;obtain⟨-,k0,k1,k2,k3,k4⟩:=bx5 q2;obtain⟨f0,f1,f2,f3,f4⟩:=fz5 q2;have ZZ:=Aa q2;have hg:=gs5 w1 (w.heap.size+1+1) 0 1 2 3 4 (.int .i64 0) (.int .i64 0) (.bool false) (.int .i64 0) (.slice none 0 0);have EZ:=Ext.grown E1 hg (fun k e=>by cases e;omega);have HEZ:=Aa EZ;clear q2 hg EZ E1;go_wp2;exact bodyPost_ret (v := .agg #[.int .i64 0,.int .i64 0,.bool false,.int .i64 0,.slice none 0 0]) (results_cell_row rfl _ _ (w.heap.size+1+1) 28 #[.int .i64 0,.int .i64 0,.bool false,.int .i64 0,.slice none 0 0] (0,0) _ rfl (BA ZZ.out) Rw rfl Bi) rfl ⟨rfl,HEZ.out⟩
theorem FZ (W H:Nat)(tp:List Int)(r:Pic)(q:Nat)(a b:Option Addr)(c d n l:Nat)(w:World)(hn:n=tp.length)(hl:l=r.px.length)(lc:l≤9223372036854775807)(s:Sl w a n (tp.map (Value.int .i64)))(u:Sl w b l (r.px.map (Value.int .i64)))(hok:okE ⟨W,H,tp⟩ r true q):
 Calls Tryz.prog 5 #[.agg #[.int .i64 W,.int .i64 H,.slice a n c],.agg #[.int .i64 r.w,.int .i64 r.h,.slice b l d],.bool true,.int .i64 q] w (EnR w W H q true (H/8) (slcE ⟨W,H,tp⟩ r W H q true (W/8))):=by
 have hnl:n≤1024:=by obtain⟨W8,H8,N,-,-,-,-,-,-,hN2,-,htl,-⟩:=Ds hok;omega
 have hq:=hok.2.1;have HN:=Aa hn;have HL:=Aa hl;have HS:=Aa s;have HU:=Aa u;have HOK:=Aa hok;clear hn hl s u hok;obtain⟨p0,p1,p2,E0⟩:=bxs3 w (.cells #[.int .i64 W,.int .i64 H,.slice a n c] 30) (.cells #[.int .i64 r.w,.int .i64 r.h,.slice b l d] 30) (.cells #[.int .i64 0,.int .i64 0,.bool false,.int .i64 0,.slice none 0 0] 28);obtain⟨-,i0,i1,i2,-⟩:=bx3 p0;obtain⟨-,j0,j1,j2,-⟩:=bx3 p1;go_enter Tryz.func5,Tryz.ntmps5
 go_wp2_with fail
 refine(Bc ⟨W,H,tp⟩ a c n _ HN.out (by omega) (HS.out.ext E0)).mono ?_;rw[decide_eq_true HOK.out.1]
 rintro e w1 ⟨rfl,e1⟩
 have q0:=e1.blk p0;have q1:=e1.blk p1;have q2:=e1.blk p2;have E1:=E0.trans e1;clear p0 p1 p2 E0 e1 i0 i1 i2 j0 j1 j2;obtain⟨-,i0,i1,i2,-⟩:=bx3 q0;obtain⟨-,j0,j1,j2,-⟩:=bx3 q1;go_wp2_with fail
 refine(Az _ _ _ _ hq.1 hq.2).mono ?_
 rintro e w2 ⟨rfl,rfl⟩
 go_wp2_with fail
 refine(LK W H tp r q a b c d n l _ HN.out HL.out lc (HS.out.ext E1) (HU.out.ext E1) HOK.out).mono ?_
 rintro e w3 ⟨a3,c3,ss,rfl,s3,e3⟩
 have z2:=e3.blk q2;have E3:=E1.trans e3;have hwB:=lt_of_block q2;clear q0 q1 q2 E1 e3 i0 i1 i2 j0 j1 j2;obtain⟨-,k0,k1,k2,k3,k4⟩:=bx5 z2;obtain⟨f0,f1,f2,f3,f4⟩:=fz5 z2;have ZZ:=Aa z2;have HSS:=Aa s3;have HE3:=Aa E3;have hs1:w.heap.size≤w1.heap.size:=by omega
 clear z2 s3 E3;go_wp2;have hg:=gs5 w3 (w.heap.size+1+1) 0 1 2 3 4 (.int .i64 W) (.int .i64 H) (.bool true) (.int .i64 q) (.slice a3 (H/8) c3);refine bodyPost_ret (v := .agg #[.int .i64 W,.int .i64 H,.bool true,.int .i64 q,.slice a3 (H/8) c3]) (results_cell_row rfl _ _ (w.heap.size+1+1) 28 #[.int .i64 W,.int .i64 H,.bool true,.int .i64 q,.slice a3 (H/8) c3] (0,0) _ rfl (BA ZZ.out) Rw rfl Bi) rfl ⟨_,_,ss,rfl,?_,Ext.grown HE3.out hg (fun k e=>by cases e;omega)⟩;exact((SSk.gr HSS.out hg (by omega)).mono (by omega)).up hg.size
theorem FY (W H:Nat)(tp:List Int)(r:Pic)(q:Nat)(a b:Option Addr)(c d n l:Nat)(w:World)(hn:n=tp.length)(hl:l=r.px.length)(lc:l≤9223372036854775807)(s:Sl w a n (tp.map (Value.int .i64)))(u:Sl w b l (r.px.map (Value.int .i64)))(hok:okE ⟨W,H,tp⟩ r false q):
 Calls Tryz.prog 5 #[.agg #[.int .i64 W,.int .i64 H,.slice a n c],.agg #[.int .i64 r.w,.int .i64 r.h,.slice b l d],.bool false,.int .i64 q] w (EnR w W H q false (H/8) (slcE ⟨W,H,tp⟩ r W H q false (W/8))):=by
 have hnl:n≤1024:=by obtain⟨W8,H8,N,-,-,-,-,-,-,hN2,-,htl,-⟩:=Ds hok;omega
 have hq:=hok.2.1;have HN:=Aa hn;have HL:=Aa hl;have HS:=Aa s;have HU:=Aa u;have HOK:=Aa hok;clear hn hl s u hok;obtain⟨p0,p1,p2,E0⟩:=bxs3 w (.cells #[.int .i64 W,.int .i64 H,.slice a n c] 30) (.cells #[.int .i64 r.w,.int .i64 r.h,.slice b l d] 30) (.cells #[.int .i64 0,.int .i64 0,.bool false,.int .i64 0,.slice none 0 0] 28);obtain⟨-,i0,i1,i2,-⟩:=bx3 p0;obtain⟨-,j0,j1,j2,-⟩:=bx3 p1;go_enter Tryz.func5,Tryz.ntmps5
 go_wp2_with fail
 refine(Bc ⟨W,H,tp⟩ a c n _ HN.out (by omega) (HS.out.ext E0)).mono ?_;rw[decide_eq_true HOK.out.1]
 rintro e w1 ⟨rfl,e1⟩
 have q0:=e1.blk p0;have q1:=e1.blk p1;have q2:=e1.blk p2;have E1:=E0.trans e1;clear p0 p1 p2 E0 e1 i0 i1 i2 j0 j1 j2;obtain⟨-,i0,i1,i2,-⟩:=bx3 q0;obtain⟨-,j0,j1,j2,-⟩:=bx3 q1;go_wp2_with fail
 refine(Az _ _ _ _ hq.1 hq.2).mono ?_
 rintro e w2 ⟨rfl,rfl⟩
 go_wp2_with fail
 refine(Ky ⟨W,H,tp⟩ r a b c d n l _ HN.out HL.out (by omega) lc (HS.out.ext E1) (HU.out.ext E1)).mono ?_;rw[decide_eq_true (HOK.out.2.2 rfl)]
 rintro e w2 ⟨rfl,e1⟩
 have p0:=e1.blk q0;have p1:=e1.blk q1;have p2:=e1.blk q2;have E0:=E1.trans e1;clear q0 q1 q2 E1 e1 i0 i1 i2 j0 j1 j2;obtain⟨-,i0,i1,i2,-⟩:=bx3 p0;obtain⟨-,j0,j1,j2,-⟩:=bx3 p1;have q0:=p0;have q1:=p1;have q2:=p2;have E1:=E0;clear p0 p1 p2 E0;go_wp2_with fail
 refine(LJ W H tp r q a b c d n l _ HN.out HL.out lc (HS.out.ext E1) (HU.out.ext E1) HOK.out).mono ?_
 rintro e w3 ⟨a3,c3,ss,rfl,s3,e3⟩
 have z2:=e3.blk q2;have E3:=E1.trans e3;have hwB:=lt_of_block q2;clear q0 q1 q2 E1 e3 i0 i1 i2 j0 j1 j2;obtain⟨-,k0,k1,k2,k3,k4⟩:=bx5 z2;obtain⟨f0,f1,f2,f3,f4⟩:=fz5 z2;have ZZ:=Aa z2;have HSS:=Aa s3;have HE3:=Aa E3;have hs1:w.heap.size≤w2.heap.size:=by omega
 clear z2 s3 E3;go_wp2;have hg:=gs5 w3 (w.heap.size+1+1) 0 1 2 3 4 (.int .i64 W) (.int .i64 H) (.bool false) (.int .i64 q) (.slice a3 (H/8) c3);refine bodyPost_ret (v := .agg #[.int .i64 W,.int .i64 H,.bool false,.int .i64 q,.slice a3 (H/8) c3]) (results_cell_row rfl _ _ (w.heap.size+1+1) 28 #[.int .i64 W,.int .i64 H,.bool false,.int .i64 q,.slice a3 (H/8) c3] (0,0) _ rfl (BA ZZ.out) Rw rfl Bi) rfl ⟨_,_,ss,rfl,?_,Ext.grown HE3.out hg (fun k e=>by cases e;omega)⟩;exact((SSk.gr HSS.out hg (by omega)).mono (by omega)).up hg.size
theorem EW (t r:Pic)(intra:Bool)(q:Int)(a b:Option Addr)(c d n l:Nat)(w:World)(hn:n=t.px.length)(hl:l=r.px.length)(nc:n≤9223372036854775807)(lc:l≤9223372036854775807)(s:Sl w a n (t.px.map (Value.int .i64)))(u:Sl w b l (r.px.map (Value.int .i64))):
 Calls Tryz.prog 5 #[.agg #[.int .i64 t.w,.int .i64 t.h,.slice a n c],.agg #[.int .i64 r.w,.int .i64 r.h,.slice b l d],.bool intra,.int .i64 q] w fun e w'=>∃(a':Option Addr) (c':Nat) (ss:List Value),e= .returned (.agg #[.int .i64 (encP t r intra q).w,.int .i64 (encP t r intra q).h,.bool (encP t r intra q).i,.int .i64 (encP t r intra q).q,.slice a' (encP t r intra q).n c'])∧SSg w' w.heap.size w'.heap.size (.slice a' (encP t r intra q).n c') (encP t r intra q).n (encP t r intra q).f ss∧Ext w w':=by
 by_cases ho:okE t r intra q
 ·obtain⟨tw,th,tp⟩:=t;obtain⟨W,rfl⟩:=Int.eq_ofNat_of_zero_le (show 0≤tw by have:8≤tw:=ho.1.1.1;omega);obtain⟨H,rfl⟩:=Int.eq_ofNat_of_zero_le (show 0≤th by have:8≤th:=ho.1.2.1.1;omega);obtain⟨Q,rfl⟩:=Int.eq_ofNat_of_zero_le (show 0≤q from ho.2.1.1);have he:encP ⟨W,H,tp⟩ r intra Q=⟨W,H,intra,Q,H/8,slcE ⟨W,H,tp⟩ r W H Q intra (W/8)⟩:=by unfold encP;rw[if_pos ho];rfl
  rw[he];cases intra with
  | true=>exact FZ W H tp r Q a b c d n l w hn hl lc s u ho
  | false=>exact FY W H tp r Q a b c d n l w hn hl lc s u ho
 ·have he:encP t r intra q=cd0:=if_neg ho;rw[he];exact(Fl t r intra q a b c d n l w hn hl nc lc s u ho).mono fun e w' ⟨h1,h2⟩=>⟨none,0,[],h1,SSk.nil _ _ _ _ h2.size,h2⟩
def Tc (lo hi:Nat)(w w':World):Prop:=∃ row,w.grownBy w' row∧∀ k,row=some k→lo≤k∧k<hi
section
variable {w w' W : World} {lo hi : Nat}
theorem Tc.ext (h:Tc lo hi w w')(e:Ext W w)(hl:W.heap.size≤lo):Ext W w':=by
 obtain⟨row,g,hr⟩:=h;exact Ext.grown e g (fun k hk=>by have:=(hr k hk).1;omega)
theorem Tc.size (h:Tc lo hi w w'):w.heap.size≤w'.heap.size:=by obtain⟨row,g,-⟩:=h;exact g.size
theorem Tc.blk (h:Tc lo hi w w'){b:Nat}{o:Obj}(hb:w.heap[b]?=some o)(hn:b<lo∨hi≤b):w'.heap[b]?=some o:=by
 obtain⟨row,g,hr⟩:=h;exact Ar hb g (fun e=>by have:=hr b e;omega)
theorem Tc.own (h:Tc lo hi w w'){base e s n:Nat}{v:Value}{xs:List Value}(ho:w.ownsRow base e s v n xs)(hn:∀ k,v.ownBlock=some k→k<lo∨hi≤k):w'.ownsRow base e s v n xs:=by
 obtain⟨row,g,hr⟩:=h;refine ho.kept g ?_;cases hv:v.ownBlock with
 | none=>exact .inl rfl
 | some k=>right;intro e2;have:=hr k e2.symm;have:=hn k hv;omega
theorem Tc.sl (h:Tc lo hi w w'){a:Option Addr}{n:Nat}{xs:List Value}(hs:Sl w a n xs)(hn:∀ y,a=some y→y.block<lo∨hi≤y.block):Sl w' a n xs:=by
 obtain⟨row,g,hr⟩:=h;exact hs.grown g (fun y hy e=>by have:=hr y.block e.symm;have:=hn y hy;omega)
theorem Tc.ib (h:Tc lo hi w w'){b T:Nat}{zs:List Int}(hb:IB w b T zs)(hn:b<lo∨hi≤b):IB w' b T zs:=h.blk hb hn
theorem Tc.of {row:Option Nat}(g:w.grownBy w' row)(hr:∀ k,row=some k→lo≤k∧k<hi):Tc lo hi w w':=⟨row,g,hr⟩
end
def PX (w:World)(b:Nat)(x y:Int)(a:Option Addr)(n c:Nat):Prop:=w.heap[b]?=some (.cells #[.int .i64 x,.int .i64 y,.slice a n c] 30 (0,0))
theorem PX.ext {w w':World}{b:Nat}{x y:Int}{a:Option Addr}{n c:Nat}(h:PX w b x y a n c)(e:Ext w w'):PX w' b x y a n c:=e.blk h
theorem PX.cells {w:World}{b:Nat}{x y:Int}{a:Option Addr}{n c:Nat}(h:PX w b x y a n c):w.cell? ⟨b,0,none⟩=some (.int .i64 x)∧w.cell? ⟨b,1,none⟩=some (.int .i64 y)∧w.cell? ⟨b,2,none⟩=some (.slice a n c):=by
 obtain⟨-,h0,h1,h2,-⟩:=bx3 h;exact⟨h0,h1,h2⟩
def PZ (w:World)(b:Nat):Prop:=∃ x y z:Value,w.heap[b]?=some (.cells #[x,y,z] 30 (0,0))
theorem PZ.ext {w w':World}{b:Nat}(h:PZ w b)(e:Ext w w'):PZ w' b:=by
 obtain⟨x,y,z,h⟩:=h;exact⟨x,y,z,e.blk h⟩
theorem PX.z {w:World}{b:Nat}{x y:Int}{a:Option Addr}{n c:Nat}(h:PX w b x y a n c):PZ w b:=⟨_,_,_,h⟩
def st3 (w:World)(b:Nat)(x y z:Value):World:=((w.setCell ⟨b,0,none⟩ x).setCell ⟨b,1,none⟩ y).setCell ⟨b,2,none⟩ z
end Go.Proofs.YtijnbalgnhigbaaGreatDoor
namespace Go.Proofs.YtijnbalgnhigbaaGreatDoor
open Go.RowKit
def CX (w:World)(b:Nat)(x y:Int)(ib:Bool)(q:Int)(a:Option Addr)(n c:Nat):Prop:=w.heap[b]?=some (.cells #[.int .i64 x,.int .i64 y,.bool ib,.int .i64 q,.slice a n c] 28 (0,0))
theorem CX.ext {w w':World}{b:Nat}{x y q:Int}{ib:Bool}{a:Option Addr}{n c:Nat}(h:CX w b x y ib q a n c)(e:Ext w w'):CX w' b x y ib q a n c:=e.blk h
theorem CX.cells {w:World}{b:Nat}{x y q:Int}{ib:Bool}{a:Option Addr}{n c:Nat}(h:CX w b x y ib q a n c):w.cell? ⟨b,0,none⟩=some (.int .i64 x)∧w.cell? ⟨b,1,none⟩=some (.int .i64 y)∧w.cell? ⟨b,2,none⟩=some (.bool ib)∧w.cell? ⟨b,3,none⟩=some (.int .i64 q)∧w.cell? ⟨b,4,none⟩=some (.slice a n c):=(bx5 h).2
def CZ (w:World)(b:Nat):Prop:=∃ x y z u v:Value,w.heap[b]?=some (.cells #[x,y,z,u,v] 28 (0,0))
theorem CZ.ext {w w':World}{b:Nat}(h:CZ w b)(e:Ext w w'):CZ w' b:=by
 obtain⟨x,y,z,u,v,h⟩:=h;exact⟨x,y,z,u,v,e.blk h⟩
def st5 (w:World)(b:Nat)(x y z u v:Value):World:=((((w.setCell ⟨b,0,none⟩ x).setCell ⟨b,1,none⟩ y).setCell ⟨b,2,none⟩ z).setCell ⟨b,3,none⟩ u).setCell ⟨b,4,none⟩ v
theorem EY (w:World)(b:Nat)(x y z u v:Value):w.grownBy (st5 w b x y z u v) (some b):=gs5 w b 0 1 2 3 4 x y z u v
theorem NY {w:World}{b base n:Nat}{x y z u t v:Value}{xs:List Value}(h:CZ w b)(own:w.ownsRow base 3 1 v n xs):(st5 w b x y z u t).ownsRow base 3 1 v n xs:=by
 obtain⟨_,_,_,_,_,h⟩:=h;exact own.kept (EY w b x y z u t) (AU own h (by decide))
theorem Ln {w:World}{b lo hi n k:Nat}{x y z u t v:Value}{f:Nat→List Int}{cs:List Value}(h:CZ w b)(s:SSk w lo hi v n k f cs):SSk (st5 w b x y z u t) lo hi v n k f cs:=by
 obtain⟨_,_,_,_,_,h⟩:=h;obtain⟨bs,h1,h2,h3,h4,h5⟩:=s;refine⟨bs,h1.kept (EY w b x y z u t) (AU h1 h (by decide)),h2,h3,h4,fun i hi => ?_⟩;obtain⟨a',c',k1,k2,k3⟩:=h5 i hi;exact⟨a',c',k1,k2.kept (EY w b x y z u t) (AU k2 h (by decide)),k3⟩
theorem PE {w:World}{b:Nat}(h:CZ w b)(x y:Int)(ib:Bool)(q:Int)(a:Option Addr)(n c:Nat):CX (st5 w b (.int .i64 x) (.int .i64 y) (.bool ib) (.int .i64 q) (.slice a n c)) b x y ib q a n c:=by
 obtain⟨_,_,_,_,_,h⟩:=h;exact BA h
theorem PF {w:World}{b b':Nat}{x y z u v:Value}(h:CZ w b)(h':CZ w b'):CZ (st5 w b x y z u v) b':=by
 by_cases e:b'=b
 ·subst e;obtain⟨_,_,_,_,_,h⟩:=h;exact⟨_,_,_,_,_,BA h⟩
 ·obtain⟨u1,u2,u3,u4,u5,h'⟩:=h';exact⟨u1,u2,u3,u4,u5,Ar h' (EY w b x y z u v) (by simp;omega)⟩
theorem NX {w W:World}{b:Nat}{x y z u v:Value}(h:Ext W w)(hb:W.heap.size≤b):Ext W (st5 w b x y z u v):=Ext.grown h (EY w b x y z u v) (fun k e=>by cases e;exact hb)
theorem J2 {g:Nat→Nat}{K:Nat}(h:∀ j,g j≤K):∀ n,sumN g n≤K*n
 | 0=>by simp[sumN]
 | n+1=>by
  have:=J2 h n;have:=h n;simp only[sumN,Nat.mul_succ];omega
theorem QO (t r:Pic)(intra:Bool)(q:Int):(encP t r intra q).n≤4:=by
 unfold encP
 split
 ·rename_i h
  have h1:8≤t.h∧t.h≤32∧t.h%8=0:=h.1.2.1;show t.h.toNat/8≤4;omega
 ·exact Nat.zero_le _
theorem O6 (t r:Pic)(intra:Bool)(q:Int)(j:Nat):((encP t r intra q).f j).length≤60004:=by
 unfold encP
 split
 ·exact Pz _ _ _
 ·exact Nat.zero_le _
theorem MkT.of_ext {w w':World}{lo hi:Nat}(e:Ext w w'):MkT w w' lo hi:=⟨(Tch.refl w lo hi).ext e,fun o _=>Ae o e⟩
theorem Ke (x y:Int)(ib:Bool)(q:Int)(a:Option Addr)(c n lo hi:Nat)(f:Nat→List Int)(cs:List Value)(w:World)(hn:n≤1048576)(hs:sumN (ln f) n≤1048576)(r:SSg w lo hi (.slice a n c) n f cs):
 Calls Tryz.prog 11 #[.agg #[.int .i64 x,.int .i64 y,.bool ib,.int .i64 q,.slice a n c],.int .i64 1] w fun e w'=>e= .returned (.int .i64 (1+(sumN (ln f) n:Nat)))∧SSg w' lo hi (.slice a n c) n (mkF 1 f) cs∧MkT w w' lo hi:=by
 have e0:=Ext.alloc w (.cells #[.int .i64 x,.int .i64 y,.bool ib,.int .i64 q,.slice a n c] 28);obtain⟨-,k0,k1,k2,k3,k4⟩:=bx5 (Aj w (.cells #[.int .i64 x,.int .i64 y,.bool ib,.int .i64 q,.slice a n c] 28));have HR:=Aa r;have HS:=Aa hs;clear r hs;go_enter Tryz.func11,Tryz.ntmps11
 go_wp2_with fail
 refine(K9 a c n lo hi f cs 1 _ hn (by omega) (by omega) HS.out (SSg.ext HR.out e0)).mono ?_
 rintro e w1 ⟨rfl,s1,m1⟩
 go_wp2;go_ret
 exact⟨rfl,s1,(MkT.of_ext e0).trans m1⟩
theorem GC (x y:Int)(ib:Bool)(q:Int)(a:Option Addr)(c n:Nat)(f:Nat→List Int)(w:World)(hn:n≤1048576)(hs:sumN (ln f) n≤1048576)(r:SS w a n (lst n (mkF 1 f))):
 Calls Tryz.prog 12 #[.agg #[.int .i64 x,.int .i64 y,.bool ib,.int .i64 q,.slice a n c],.int .i64 1] w fun e w'=>e= .returned (.int .i64 (1+(sumN (ln f) n:Nat)))∧Ext w w':=by
 have e0:=Ext.alloc w (.cells #[.int .i64 x,.int .i64 y,.bool ib,.int .i64 q,.slice a n c] 28);obtain⟨-,k0,k1,k2,k3,k4⟩:=bx5 (Aj w (.cells #[.int .i64 x,.int .i64 y,.bool ib,.int .i64 q,.slice a n c] 28));have HR:=Aa r;have HS:=Aa hs;have hd:decide ((1:Int)+(sumN (ln f) n:Nat)<0)=false:=by simp;omega
 clear r hs;go_enter Tryz.func12,Tryz.ntmps12
 go_wp2_with fail
 refine(KW a c n f 1 _ hn (by omega) (by omega) HS.out (HR.out.ext e0)).mono ?_
 rintro e w1 ⟨rfl,e1⟩
 have E1:=e0.trans e1;clear e0 e1;go_wp2;go_ret
 exact⟨rfl,E1⟩
theorem law_FnExactEncodePicture (au:Option Addr)(cu:Nat)(pu:Pic)(ar:Option Addr)(cr:Nat)(pr:Pic)(ib:Bool)(q:Int)(wq:(Lit.int .i64 q).wf=true)(w:World)(hT:TabQ w)(slu:Sl w au pu.px.length (pu.px.map (Value.int .i64)))(hn0u:pu.px.length≤cu∧cu≤maxLen)(slr:Sl w ar pr.px.length (pr.px.map (Value.int .i64)))(hn0r:pr.px.length≤cr∧cr≤maxLen):
 Calls Tryz.prog 3 #[.agg #[.int .i64 pu.w,.int .i64 pu.h,.slice au pu.px.length cu],.agg #[.int .i64 pr.w,.int .i64 pr.h,.slice ar pr.px.length cr],.bool ib,.int .i64 q] w fun e w'=>e= .returned (.bool true)∧Ext w w':=by
 have hnu:pu.px.length≤9223372036854775807:=Nat.le_trans hn0u.1 hn0u.2;have hnr:pr.px.length≤9223372036854775807:=Nat.le_trans hn0r.1 hn0r.2;clear hn0u hn0r wq;have hmr:=QO pu pr ib q;have hml:=O6 pu pr ib q;have HS:=Aa (fun(au:Option Addr) (cu:Nat) (ar:Option Addr) (cr:Nat) (w:World) (ru:Sl w au pu.px.length (pu.px.map (Value.int .i64))) (rr:Sl w ar pr.px.length (pr.px.map (Value.int .i64)))=>EW pu pr ib q au ar cu cr _ _ w rfl rfl hnu hnr ru rr);have HI:=Aa (fun(au:Option Addr) (cu:Nat) (ar:Option Addr) (cr:Nat) (w:World) (hT:TabQ w) (ru:Sl w au pu.px.length (pu.px.map (Value.int .i64))) (rr:Sl w ar pr.px.length (pr.px.map (Value.int .i64)))=>ED pu pr ib q au ar cu cr _ _ w hT rfl rfl hnu hnr ru rr);obtain⟨xu,yu,zu⟩:=pu;obtain⟨xr,yr,zr⟩:=pr;simp only at hnu slu hnr slr HS HI hmr hml⊢;generalize encP ⟨xu,yu,zu⟩ ⟨xr,yr,zr⟩ ib q=R at *;obtain⟨rx,ry,ri,rq,mr,rf⟩:=R;simp only at HS HI hmr hml;have HL45:=Aa (show ∀ j,j<mr→(rf j).length<2^45 from fun j _=>by have:=hml j;omega);have hsm:sumN (ln rf) mr≤1048576:=by
  have:=J2 (g:=ln rf) (K:=60004) (fun j=>hml j) mr;have:=Nat.mul_le_mul_left 60004 hmr;omega
 obtain⟨sm,hsm2⟩:∃ m,m=sumN (ln rf) mr:=⟨_,rfl⟩;have Hsm:=Aa hsm;have HSM:=Aa hsm2;rw[←hsm2]at hsm;clear hsm2 hml;obtain⟨nu,hzu⟩:∃ n,n=zu.length:=⟨_,rfl⟩;obtain⟨nr,hzr⟩:∃ n,n=zr.length:=⟨_,rfl⟩;rw[←hzu]at hnu slu⊢;rw[←hzr]at hnr slr⊢;simp only[←hzu,←hzr]at HS HI;clear hzu hzr;obtain⟨X0_0,X1_0,E_0⟩:=bxs2 w (.cells #[.int .i64 xu,.int .i64 yu,.slice au nu cu] 24) (.cells #[.int .i64 xr,.int .i64 yr,.slice ar nr cr] 24);obtain⟨B,hB⟩:∃ B,B=w.heap.size:=⟨_,rfl⟩;rw[←hB]at X0_0 X1_0;have Au_0:=X0_0;clear X0_0;have Ar_0:=X1_0;clear X1_0;have hwB:w.heap.size≤B:=by omega
 go_enter Tryz.func3,Tryz.ntmps3
 obtain⟨-,kAu0,kAu1,kAu2,-⟩:=bx3 Au_0;obtain⟨-,kAr0,kAr1,kAr2,-⟩:=bx3 Ar_0;go_wp2_with fail
 rw[←hB];have HB:=Aa hB;clear hB;have hB0:B+1<w.heap.size+2:=by have:=HB.out;omega
 refine(GI xu yu au cu nu (1048576) _ hnu (by omega) (by omega)).mono ?_
 rintro e v1 ⟨rfl,e1⟩
 clear kAu0 kAu1 kAu2 kAr0 kAr1 kAr2;have Au_1:v1.heap[B]?=some (.cells #[.int .i64 xu,.int .i64 yu,.slice au nu cu] 24 (0,0)):=e1.blk Au_0;have Ar_1:v1.heap[B+1]?=some (.cells #[.int .i64 xr,.int .i64 yr,.slice ar nr cr] 24 (0,0)):=e1.blk Ar_0;have E_1:Ext w v1:=E_0.trans e1;clear Au_0 Ar_0 E_0 e1
 by_cases hnegu:(1048576:Int)-nu<0
 ·rw[if_pos hnegu];go_wp2;go_ret
  exact⟨rfl,E_1⟩
 rw[if_neg hnegu];have hdu:decide ((1048576:Int)-(nu:Int)<0)=false:=by simpa using hnegu
 obtain⟨-,kAu0,kAu1,kAu2,-⟩:=bx3 Au_1;obtain⟨-,kAr0,kAr1,kAr2,-⟩:=bx3 Ar_1;go_wp2_with fail
 refine(GI xr yr ar cr nr (1048576-(nu:Int)) _ hnr (by omega) (by omega)).mono ?_
 rintro e v2 ⟨rfl,e1⟩
 clear kAu0 kAu1 kAu2 kAr0 kAr1 kAr2;have Au_2:v2.heap[B]?=some (.cells #[.int .i64 xu,.int .i64 yu,.slice au nu cu] 24 (0,0)):=e1.blk Au_1;have Ar_2:v2.heap[B+1]?=some (.cells #[.int .i64 xr,.int .i64 yr,.slice ar nr cr] 24 (0,0)):=e1.blk Ar_1;have E_2:Ext w v2:=E_1.trans e1;clear Au_1 Ar_1 E_1 e1
 by_cases hnegr:(1048576-(nu:Int):Int)-nr<0
 ·rw[if_pos hnegr];go_wp2;go_ret
  exact⟨rfl,E_2⟩
 rw[if_neg hnegr];have hdr:decide ((1048576-(nu:Int):Int)-(nr:Int)<0)=false:=by simpa using hnegr
 have h40u:nu<2^40:=by omega
 have h40r:nr<2^40:=by omega
 go_upto_region 8 with fail
 obtain⟨h0,hh0⟩:∃ h,h=v2.heap.size:=⟨_,rfl⟩;have HH0:=Aa hh0;have hlo:B+1<h0:=by rw[hh0];exact lt_of_block Ar_2
 clear hh0;have hext:Stab (fun wa wb=>Ext wa wb) (fun i own ys wx=>match i with|0=>own= .agg #[.int .i64 xu,.int .i64 yu,.slice au nu cu]|1=>∃(a2:Option Addr) (c2:Nat),own= .agg #[.int .i64 xu,.int .i64 yu,.slice a2 nu c2]∧wx.ownsRow v2.heap.size 3 1 (.slice a2 nu c2) nu (zu.map (Value.int .i64))|2=>own= .agg #[.int .i64 xr,.int .i64 yr,.slice ar nr cr]|3=>∃(a2:Option Addr) (c2:Nat),own= .agg #[.int .i64 xr,.int .i64 yr,.slice a2 nr c2]∧wx.ownsRow v2.heap.size 3 1 (.slice a2 nr c2) nr (zr.map (Value.int .i64))|4=>own= .bool ib|5=>own= .int .i64 q|6=>∃(a2:Option Addr) (c2 hj:Nat) (ss:List Value),own= .agg #[.int .i64 rx,.int .i64 ry,.bool ri,.int .i64 rq,.slice a2 mr c2]∧SSk wx v2.heap.size hj (.slice a2 mr c2) mr mr rf ss∧hj≤wx.heap.size|7=>∃ b:Nat,own= .pointer (some ⟨b,0,none⟩)∧v2.heap.size≤b∧CZ wx b|8=>∃(b:Nat) (a2:Option Addr) (c2 hj:Nat) (ss:List Value),ys 7= .pointer (some ⟨b,0,none⟩)∧v2.heap.size≤b∧CX wx b rx ry ri rq a2 mr c2∧SSk wx v2.heap.size hj (.slice a2 mr c2) mr mr rf ss∧hj≤wx.heap.size|_=>True):=by
  intro i own ys wa wb e h
  match i,h with
  | 0,h|2,h|4,h|5,h=>exact h
  | 1,h|3,h=>obtain⟨a2,c2,h1,h2⟩:=h;exact⟨a2,c2,h1,Ae h2 e⟩
  | 6,h=>obtain⟨a2,c2,hj2,ss2,h1,h2,h3⟩:=h;exact⟨a2,c2,hj2,ss2,h1,h2.ext e,Nat.le_trans h3 e.size⟩
  | 7,h=>obtain⟨b,h1,h2,h3⟩:=h;exact⟨b,h1,h2,h3.ext e⟩
  | 8,h=>obtain⟨b,a2,c2,hj2,ss2,h1,h2,h3,h4,h5⟩:=h;exact⟨b,a2,c2,hj2,ss2,h1,h2,h3.ext e,h4.ext e,Nat.le_trans h5 e.size⟩
  | _+9,_=>trivial
 have Hext:=Aa hext;clear hext;refine An (by kernel_rfl) [(10,7),(28,0),(29,1),(30,2),(31,3),(32,4),(33,5),(34,6)] [[],[0],[],[0,1,2],[],[],[0,1,2,3,4,5],[],[0,1,2,3,4,5,6,7]] (fun i own ys wx=>match i with|0=>own= .agg #[.int .i64 xu,.int .i64 yu,.slice au nu cu]|1=>∃(a2:Option Addr) (c2:Nat),own= .agg #[.int .i64 xu,.int .i64 yu,.slice a2 nu c2]∧wx.ownsRow v2.heap.size 3 1 (.slice a2 nu c2) nu (zu.map (Value.int .i64))|2=>own= .agg #[.int .i64 xr,.int .i64 yr,.slice ar nr cr]|3=>∃(a2:Option Addr) (c2:Nat),own= .agg #[.int .i64 xr,.int .i64 yr,.slice a2 nr c2]∧wx.ownsRow v2.heap.size 3 1 (.slice a2 nr c2) nr (zr.map (Value.int .i64))|4=>own= .bool ib|5=>own= .int .i64 q|6=>∃(a2:Option Addr) (c2 hj:Nat) (ss:List Value),own= .agg #[.int .i64 rx,.int .i64 ry,.bool ri,.int .i64 rq,.slice a2 mr c2]∧SSk wx v2.heap.size hj (.slice a2 mr c2) mr mr rf ss∧hj≤wx.heap.size|7=>∃ b:Nat,own= .pointer (some ⟨b,0,none⟩)∧v2.heap.size≤b∧CZ wx b|8=>∃(b:Nat) (a2:Option Addr) (c2 hj:Nat) (ss:List Value),ys 7= .pointer (some ⟨b,0,none⟩)∧v2.heap.size≤b∧CX wx b rx ry ri rq a2 mr c2∧SSk wx v2.heap.size hj (.slice a2 mr c2) mr mr rf ss∧hj≤wx.heap.size|_=>True) (fun kx wx=>Ext v2 wx) (by kernel_rfl) (by kernel_rfl) (by kernel_rfl) ?g0_r1 ?gop_r1 ?gend_r1
 case g0_r1=>exact Ext.drewN _ 1
 case gop_r1 =>
  refine⟨?o0,?o1,?o2,?o3,?_,?_,?o6,?o7,?o8,trivial⟩ <;> (intro kx xs wx hk hG hD hI Qo Kx hK hQo;simp only[Ad,Nat.reduceAdd,Nat.reduceEqDiff,↓reduceIte]at hQo⊢)
  case o0 =>
   clear hD hI;obtain⟨-,k0,k1,k2,-⟩:=bx3 (hG.blk Au_2);go_wp2;exact hK.out _ _ ⟨rfl,hG,kkp⟩
  case o1 =>
   rw[ddq (hD 0 rfl)]at hQo⊢;clear hD hI;go_wp2_with fail
   refine(Bm xu yu au nu cu zu _ (by omega) (slu.ext (E_2.trans hG))).mono ?_
   rintro e wz ⟨az,cz,rfl,ownz,ez⟩
   go_wp2;exact hK.out _ _ ⟨⟨az,cz,rfl,AH ownz hG.size⟩,hG.trans ez,fun i _ _ _ own ys h=>Hext.out i own ys _ _ ez h⟩
  case o2 =>
   clear hD hI;obtain⟨-,k0,k1,k2,-⟩:=bx3 (hG.blk Ar_2);go_wp2;exact hK.out _ _ ⟨rfl,hG,kkp⟩
  case o3 =>
   rw[ddq (hD 2 rfl)]at hQo⊢;clear hD hI;go_wp2_with fail
   refine(Bm xr yr ar nr cr zr _ (by omega) (slr.ext (E_2.trans hG))).mono ?_
   rintro e wz ⟨az,cz,rfl,ownz,ez⟩
   go_wp2;exact hK.out _ _ ⟨⟨az,cz,rfl,AH ownz hG.size⟩,hG.trans ez,fun i _ _ _ own ys h=>Hext.out i own ys _ _ ez h⟩
  case o6 =>
   rw[ddq (hD 4 rfl),ddq (hD 5 rfl)]at hQo⊢;have d1:∃(a2:Option Addr) (c2:Nat),(xs 1) = .agg #[.int .i64 xu,.int .i64 yu,.slice a2 nu c2]∧wx.ownsRow v2.heap.size 3 1 (.slice a2 nu c2) nu (zu.map (Value.int .i64)):=hD 1 rfl;have d3:∃(a2:Option Addr) (c2:Nat),(xs 3) = .agg #[.int .i64 xr,.int .i64 yr,.slice a2 nr c2]∧wx.ownsRow v2.heap.size 3 1 (.slice a2 nr c2) nr (zr.map (Value.int .i64)):=hD 3 rfl;clear hD hI;generalize xs 1=y1 at *;generalize xs 3=y3 at *;obtain⟨a1,c1,rfl,o1⟩:=d1;obtain⟨a3,c3,rfl,o3⟩:=d3;go_wp2_with fail
   refine(HS.out a1 c1 a3 c3 _ (Sl.of_owns o1) (Sl.of_owns o3)).mono ?_
   rintro e wz ⟨az,cz,sz,rfl,ownz,ez⟩
   go_wp2;exact hK.out _ _ ⟨⟨az,cz,_,sz,rfl,SSk.mono ownz hG.size,Nat.le_refl _⟩,hG.trans ez,fun i _ _ _ own ys h=>Hext.out i own ys _ _ ez h⟩
  case o7 =>
   clear hD hI;have ea:=Ext.alloc wx (.cells #[.int .i64 0,.int .i64 0,.bool false,.int .i64 0,.slice none 0 0] 28);go_wp2;exact hK.out _ _ ⟨⟨_,rfl,hG.size,_,_,_,_,_,Aj _ _⟩,hG.trans ea,fun i _ _ _ own ys h=>Hext.out i own ys _ _ ea h⟩
  case o8 =>
   have d7:∃ b:Nat,(xs 7) = .pointer (some ⟨b,0,none⟩)∧v2.heap.size≤b∧CZ wx b:=hD 7 rfl;have d6:∃(a2:Option Addr) (c2 hj:Nat) (ss:List Value),(xs 6) = .agg #[.int .i64 rx,.int .i64 ry,.bool ri,.int .i64 rq,.slice a2 mr c2]∧SSk wx v2.heap.size hj (.slice a2 mr c2) mr mr rf ss∧hj≤wx.heap.size:=hD 6 rfl;clear hD hI;generalize hx7:xs 7=y7 at *;have Hx7:=Aa hx7;clear hx7;generalize xs 6=y6 at *;obtain⟨b7,rfl,hb7,z7⟩:=d7;obtain⟨a6,c6,hj6,ss6,rfl,o6,le6⟩:=d6;obtain⟨zc0,zc1,zc2,zc3,zc4,zc⟩:=z7;obtain⟨-,z0,z1,z2,z3,z4⟩:=bx5 zc;obtain⟨fr0,fr1,fr2,fr3,fr4⟩:=fz5 zc;go_wp2;have hst:∀(wy:World),(∀ b:Nat,CZ wx b→CZ wy b)∧(∀(v:Value) (n:Nat) (xs:List Value),wx.ownsRow v2.heap.size 3 1 v n xs→wy.ownsRow v2.heap.size 3 1 v n xs)∧(∀(hj:Nat) (v:Value) (ss:List Value),SSk wx v2.heap.size hj v mr mr rf ss→SSk wy v2.heap.size hj v mr mr rf ss)∧wx.heap.size≤wy.heap.size→Stbn 9 8 [[],[0],[],[0,1,2],[],[],[0,1,2,3,4,5],[],[0,1,2,3,4,5,6,7]] (fun i own ys wx=>match i with|0=>own= .agg #[.int .i64 xu,.int .i64 yu,.slice au nu cu]|1=>∃(a2:Option Addr) (c2:Nat),own= .agg #[.int .i64 xu,.int .i64 yu,.slice a2 nu c2]∧wx.ownsRow v2.heap.size 3 1 (.slice a2 nu c2) nu (zu.map (Value.int .i64))|2=>own= .agg #[.int .i64 xr,.int .i64 yr,.slice ar nr cr]|3=>∃(a2:Option Addr) (c2:Nat),own= .agg #[.int .i64 xr,.int .i64 yr,.slice a2 nr c2]∧wx.ownsRow v2.heap.size 3 1 (.slice a2 nr c2) nr (zr.map (Value.int .i64))|4=>own= .bool ib|5=>own= .int .i64 q|6=>∃(a2:Option Addr) (c2 hj:Nat) (ss:List Value),own= .agg #[.int .i64 rx,.int .i64 ry,.bool ri,.int .i64 rq,.slice a2 mr c2]∧SSk wx v2.heap.size hj (.slice a2 mr c2) mr mr rf ss∧hj≤wx.heap.size|7=>∃ b:Nat,own= .pointer (some ⟨b,0,none⟩)∧v2.heap.size≤b∧CZ wx b|8=>∃(b:Nat) (a2:Option Addr) (c2 hj:Nat) (ss:List Value),ys 7= .pointer (some ⟨b,0,none⟩)∧v2.heap.size≤b∧CX wx b rx ry ri rq a2 mr c2∧SSk wx v2.heap.size hj (.slice a2 mr c2) mr mr rf ss∧hj≤wx.heap.size|_=>True) wx wy:=by
    intro wy hy ii hii hne hc own ys h
    match ii,h with
    | 0,h|2,h|4,h|5,h=>exact h
    | 1,h|3,h=>obtain⟨a2,c2,h1,h2⟩:=h;exact⟨a2,c2,h1,hy.2.1 _ _ _ h2⟩
    | 6,h=>obtain⟨a2,c2,hj2,ss2,h1,h2,h3⟩:=h;exact⟨a2,c2,hj2,ss2,h1,hy.2.2.1 _ _ _ h2,Nat.le_trans h3 hy.2.2.2⟩
    | 7,h=>obtain⟨b,h1,h2,h3⟩:=h;exact⟨b,h1,h2,hy.1 _ h3⟩
    | 8,h=>exact absurd rfl hne
    | _+9,_=>trivial
   have hz:CZ wx b7:=⟨_,_,_,_,_,zc⟩;exact hQo undef _ (hK.out _ _ ⟨⟨b7,a6,c6,hj6,ss6,Hx7.out,hb7,PE hz rx ry ri rq a6 mr c6,Ln hz o6,Nat.le_trans le6 (EY _ _ _ _ _ _ _).size⟩,NX hG hb7,hst _ ⟨fun b h=>PF hz h,fun v n xs h=>NY hz h,fun hj v ss h=>Ln hz h,(EY _ _ _ _ _ _ _).size⟩⟩)
  all_goals
   clear hD hI;go_wp2;exact hK.out _ _ ⟨rfl,hG,kkp⟩
 clear Hext;intro xs wx hV hG;have d8:∃(b:Nat) (a2:Option Addr) (c2 hj:Nat) (ss:List Value),(xs 7) = .pointer (some ⟨b,0,none⟩)∧v2.heap.size≤b∧CX wx b rx ry ri rq a2 mr c2∧SSk wx v2.heap.size hj (.slice a2 mr c2) mr mr rf ss∧hj≤wx.heap.size:=hV 8 (by decide);clear hV;simp only[Ad,Nat.reduceAdd,Nat.reduceEqDiff,↓reduceIte];generalize xs 0=y0,xs 1=y1,xs 2=y2,xs 3=y3,xs 4=y4,xs 5=y5,xs 6=y6,xs 7=y7,xs 8=y8 at *
 replace hG:Ext v2 wx:=hG
 obtain⟨bW,aW,cW,hjW,ssW,rfl,hbW,BW_n,OW_n,leW⟩:=d8;generalize wx=v3 at *;have hsg:=hG.size;obtain⟨h1,hh1⟩:∃ h,h=v3.heap.size:=⟨_,rfl⟩;have HH1:=Aa hh1;rw[←HH0.out]at hbW hsg OW_n;rw[←hh1]at hsg leW;have hbW2:bW<h1:=by rw[hh1];exact lt_of_block BW_n
 have OW_u:=SSk.up OW_n leW;clear hh1 OW_n;have Au_3:v3.heap[B]?=some (.cells #[.int .i64 xu,.int .i64 yu,.slice au nu cu] 24 (0,0)):=hG.blk Au_2;have Ar_3:v3.heap[B+1]?=some (.cells #[.int .i64 xr,.int .i64 yr,.slice ar nr cr] 24 (0,0)):=hG.blk Ar_2;have E_3:Ext w v3:=E_2.trans hG;clear Au_2 Ar_2 E_2 hG;have BW_3:=BW_n;clear BW_n;have SW_3:=OW_u;clear OW_u;obtain⟨-,kAu0,kAu1,kAu2,-⟩:=bx3 Au_3;obtain⟨-,kAr0,kAr1,kAr2,-⟩:=bx3 Ar_3;go_wp2_with fail
 refine(Bm xu yu au nu cu zu _ (by omega) (slu.ext E_3)).mono ?_
 rintro e uu ⟨aXu,cXu,rfl,oXu,e1⟩
 clear kAu0 kAu1 kAu2 kAr0 kAr1 kAr2;have ea:=Ext.alloc uu (.cells #[.int .i64 xu,.int .i64 yu,.slice aXu nu cXu] 30);have ee:=e1.trans ea;obtain⟨bXu,hbxu⟩:∃ d,d=uu.heap.size:=⟨_,rfl⟩;have hsz1:=e1.size;rw[←HH1.out]at oXu hsz1;have RXu:=Aa (show ∀ k,(Value.slice aXu nu cXu).ownBlock=some k→h1≤k∧k<bXu from fun k hk=>by rw[hbxu];exact oXu.lt k hk);rw[←hbxu]at hsz1;have hblu:h1≤bXu:=hsz1;clear hsz1;have Au_4:(uu.alloc (.cells #[.int .i64 xu,.int .i64 yu,.slice aXu nu cXu] 30)).heap[B]?=some (.cells #[.int .i64 xu,.int .i64 yu,.slice au nu cu] 24 (0,0)):=ee.blk Au_3;have Ar_4:(uu.alloc (.cells #[.int .i64 xu,.int .i64 yu,.slice aXu nu cXu] 30)).heap[B+1]?=some (.cells #[.int .i64 xr,.int .i64 yr,.slice ar nr cr] 24 (0,0)):=ee.blk Ar_3;have E_4:Ext w (uu.alloc (.cells #[.int .i64 xu,.int .i64 yu,.slice aXu nu cXu] 30)):=E_3.trans ee;have BW_4:CX (uu.alloc (.cells #[.int .i64 xu,.int .i64 yu,.slice aXu nu cXu] 30)) bW rx ry ri rq aW mr cW:=BW_3.ext ee;have SW_4:SSk (uu.alloc (.cells #[.int .i64 xu,.int .i64 yu,.slice aXu nu cXu] 30)) h0 h1 (.slice aW mr cW) mr mr rf ssW:=SSk.ext SW_3 ee;clear Au_3 Ar_3 E_3 BW_3 SW_3;have OXu_4:=Ae oXu ea;have BXu_4:PX (uu.alloc (.cells #[.int .i64 xu,.int .i64 yu,.slice aXu nu cXu] 30)) bXu xu yu aXu nu cXu:=by rw[hbxu];exact Aj _ _
 obtain⟨h2,hh2⟩:∃ h,h=(uu.alloc (.cells #[.int .i64 xu,.int .i64 yu,.slice aXu nu cXu] 30)).heap.size:=⟨_,rfl⟩;have hbuu:bXu<h2:=by rw[hh2,hbxu];simp
 have HH2:=Aa hh2;clear hh2 oXu ea ee e1;obtain⟨-,kAu0,kAu1,kAu2,-⟩:=bx3 Au_4;obtain⟨-,kAr0,kAr1,kAr2,-⟩:=bx3 Ar_4;go_wp2_with fail
 rw[←hbxu];generalize uu.alloc (.cells #[.int .i64 xu,.int .i64 yu,.slice aXu nu cXu] 30)=v4x at *;clear hbxu;refine(Bm xr yr ar nr cr zr _ (by omega) (slr.ext E_4)).mono ?_
 rintro e ur ⟨aXr,cXr,rfl,oXr,e1⟩
 clear kAu0 kAu1 kAu2 kAr0 kAr1 kAr2;have ea:=Ext.alloc ur (.cells #[.int .i64 xr,.int .i64 yr,.slice aXr nr cXr] 30);have ee:=e1.trans ea;obtain⟨bXr,hbxr⟩:∃ d,d=ur.heap.size:=⟨_,rfl⟩;have hsz1:=e1.size;rw[←HH2.out]at oXr hsz1;have RXr:=Aa (show ∀ k,(Value.slice aXr nr cXr).ownBlock=some k→h2≤k∧k<bXr from fun k hk=>by rw[hbxr];exact oXr.lt k hk);rw[←hbxr]at hsz1;have hblr:h2≤bXr:=hsz1;clear hsz1;have Au_5:(ur.alloc (.cells #[.int .i64 xr,.int .i64 yr,.slice aXr nr cXr] 30)).heap[B]?=some (.cells #[.int .i64 xu,.int .i64 yu,.slice au nu cu] 24 (0,0)):=ee.blk Au_4;have Ar_5:(ur.alloc (.cells #[.int .i64 xr,.int .i64 yr,.slice aXr nr cXr] 30)).heap[B+1]?=some (.cells #[.int .i64 xr,.int .i64 yr,.slice ar nr cr] 24 (0,0)):=ee.blk Ar_4;have E_5:Ext w (ur.alloc (.cells #[.int .i64 xr,.int .i64 yr,.slice aXr nr cXr] 30)):=E_4.trans ee;have BW_5:CX (ur.alloc (.cells #[.int .i64 xr,.int .i64 yr,.slice aXr nr cXr] 30)) bW rx ry ri rq aW mr cW:=BW_4.ext ee;have SW_5:SSk (ur.alloc (.cells #[.int .i64 xr,.int .i64 yr,.slice aXr nr cXr] 30)) h0 h1 (.slice aW mr cW) mr mr rf ssW:=SSk.ext SW_4 ee;have OXu_5:(ur.alloc (.cells #[.int .i64 xr,.int .i64 yr,.slice aXr nr cXr] 30)).ownsRow h1 3 1 (.slice aXu nu cXu) nu (zu.map (Value.int .i64)):=Ae OXu_4 ee;have BXu_5:PX (ur.alloc (.cells #[.int .i64 xr,.int .i64 yr,.slice aXr nr cXr] 30)) bXu xu yu aXu nu cXu:=BXu_4.ext ee;clear Au_4 Ar_4 E_4 BW_4 SW_4 OXu_4 BXu_4;have OXr_5:=Ae oXr ea;have BXr_5:PX (ur.alloc (.cells #[.int .i64 xr,.int .i64 yr,.slice aXr nr cXr] 30)) bXr xr yr aXr nr cXr:=by rw[hbxr];exact Aj _ _
 obtain⟨h3,hh3⟩:∃ h,h=(ur.alloc (.cells #[.int .i64 xr,.int .i64 yr,.slice aXr nr cXr] 30)).heap.size:=⟨_,rfl⟩;have hbur:bXr<h3:=by rw[hh3,hbxr];simp
 have HH3:=Aa hh3;clear hh3 oXr ea ee e1;obtain⟨kBXu0,kBXu1,kBXu2⟩:=PX.cells BXu_5;obtain⟨kBXr0,kBXr1,kBXr2⟩:=PX.cells BXr_5;go_wp2_with fail
 rw[←hbxr];generalize ur.alloc (.cells #[.int .i64 xr,.int .i64 yr,.slice aXr nr cXr] 30)=v5x at *;clear hbxr;refine(HI.out aXu cXu aXr cXr _ (hT.ext E_5) (Sl.of_owns OXu_5) (Sl.of_owns OXr_5)).mono ?_
 rintro e ug ⟨aG,cG,ssG,rfl,oG,e1⟩
 clear kBXu0 kBXu1 kBXu2 kBXr0 kBXr1 kBXr2;have ea:=Ext.alloc ug (.cells #[.int .i64 rx,.int .i64 ry,.bool ri,.int .i64 rq,.slice aG mr cG] 28);have ee:=e1.trans ea;have hsz1:=e1.size;obtain⟨bG,hbG⟩:∃ d,d=ug.heap.size:=⟨_,rfl⟩;unfold SSg at oG;rw[←HH3.out,←hbG]at oG;rw[←HH3.out,←hbG]at hsz1;have hblG:h3≤bG:=hsz1;clear hsz1;have Au_6:(ug.alloc (.cells #[.int .i64 rx,.int .i64 ry,.bool ri,.int .i64 rq,.slice aG mr cG] 28)).heap[B]?=some (.cells #[.int .i64 xu,.int .i64 yu,.slice au nu cu] 24 (0,0)):=ee.blk Au_5;have Ar_6:(ug.alloc (.cells #[.int .i64 rx,.int .i64 ry,.bool ri,.int .i64 rq,.slice aG mr cG] 28)).heap[B+1]?=some (.cells #[.int .i64 xr,.int .i64 yr,.slice ar nr cr] 24 (0,0)):=ee.blk Ar_5;have E_6:Ext w (ug.alloc (.cells #[.int .i64 rx,.int .i64 ry,.bool ri,.int .i64 rq,.slice aG mr cG] 28)):=E_5.trans ee;have BW_6:CX (ug.alloc (.cells #[.int .i64 rx,.int .i64 ry,.bool ri,.int .i64 rq,.slice aG mr cG] 28)) bW rx ry ri rq aW mr cW:=BW_5.ext ee;have SW_6:SSk (ug.alloc (.cells #[.int .i64 rx,.int .i64 ry,.bool ri,.int .i64 rq,.slice aG mr cG] 28)) h0 h1 (.slice aW mr cW) mr mr rf ssW:=SSk.ext SW_5 ee;have OXu_6:(ug.alloc (.cells #[.int .i64 rx,.int .i64 ry,.bool ri,.int .i64 rq,.slice aG mr cG] 28)).ownsRow h1 3 1 (.slice aXu nu cXu) nu (zu.map (Value.int .i64)):=Ae OXu_5 ee;have BXu_6:PX (ug.alloc (.cells #[.int .i64 rx,.int .i64 ry,.bool ri,.int .i64 rq,.slice aG mr cG] 28)) bXu xu yu aXu nu cXu:=BXu_5.ext ee;have OXr_6:(ug.alloc (.cells #[.int .i64 rx,.int .i64 ry,.bool ri,.int .i64 rq,.slice aG mr cG] 28)).ownsRow h2 3 1 (.slice aXr nr cXr) nr (zr.map (Value.int .i64)):=Ae OXr_5 ee;have BXr_6:PX (ug.alloc (.cells #[.int .i64 rx,.int .i64 ry,.bool ri,.int .i64 rq,.slice aG mr cG] 28)) bXr xr yr aXr nr cXr:=BXr_5.ext ee;clear Au_5 Ar_5 E_5 BW_5 SW_5 OXu_5 BXu_5 OXr_5 BXr_5;have OG_6:=SSk.ext oG ea;have BG_6:CX (ug.alloc (.cells #[.int .i64 rx,.int .i64 ry,.bool ri,.int .i64 rq,.slice aG mr cG] 28)) bG rx ry ri rq aG mr cG:=by rw[hbG];exact Aj _ _
 clear oG ea ee e1;go_upto_region 12 with fail
 rw[←hbG];generalize ug.alloc (.cells #[.int .i64 rx,.int .i64 ry,.bool ri,.int .i64 rq,.slice aG mr cG] 28)=vgx at *;clear hbG;obtain⟨kBG0,kBG1,kBG2,kBG3,kBG4⟩:=CX.cells BG_6;obtain⟨kBW0,kBW1,kBW2,kBW3,kBW4⟩:=CX.cells BW_6;go_wp2_with fail
 refine(Ez rx ry rq ri aG aW cG cW mr rf _ (by omega) HL45.out (SSg.toSS OG_6) (SSg.toSS SW_6)).mono ?_
 rintro e v7 ⟨rfl,e1⟩
 clear kBG0 kBG1 kBG2 kBG3 kBG4 kBW0 kBW1 kBW2 kBW3 kBW4;have Au_7:v7.heap[B]?=some (.cells #[.int .i64 xu,.int .i64 yu,.slice au nu cu] 24 (0,0)):=e1.blk Au_6;have Ar_7:v7.heap[B+1]?=some (.cells #[.int .i64 xr,.int .i64 yr,.slice ar nr cr] 24 (0,0)):=e1.blk Ar_6;have E_7:Ext w v7:=E_6.trans e1;have BW_7:CX v7 bW rx ry ri rq aW mr cW:=BW_6.ext e1;have SW_7:SSk v7 h0 h1 (.slice aW mr cW) mr mr rf ssW:=SSk.ext SW_6 e1;have OXu_7:v7.ownsRow h1 3 1 (.slice aXu nu cXu) nu (zu.map (Value.int .i64)):=Ae OXu_6 e1;have BXu_7:PX v7 bXu xu yu aXu nu cXu:=BXu_6.ext e1;have OXr_7:v7.ownsRow h2 3 1 (.slice aXr nr cXr) nr (zr.map (Value.int .i64)):=Ae OXr_6 e1;have BXr_7:PX v7 bXr xr yr aXr nr cXr:=BXr_6.ext e1;have OG_7:SSk v7 h3 bG (.slice aG mr cG) mr mr rf ssG:=SSk.ext OG_6 e1;have BG_7:CX v7 bG rx ry ri rq aG mr cG:=BG_6.ext e1;clear Au_6 Ar_6 E_6 BW_6 SW_6 OXu_6 BXu_6 OXr_6 BXr_6 OG_6 BG_6 e1;go_upto_region 14 with fail
 have hext:Stab (fun wa wb=>Ext wa wb) (fun i own ys wx=>match i with|0=>own= .agg #[.int .i64 xu,.int .i64 yu,.slice aXu nu cXu]|1=>own= .agg #[.int .i64 xu,.int .i64 yu,.slice au nu cu]|2=>∃(a2:Option Addr) (c2:Nat),own= .agg #[.int .i64 xu,.int .i64 yu,.slice a2 nu c2]∧wx.ownsRow v7.heap.size 3 1 (.slice a2 nu c2) nu (zu.map (Value.int .i64))|3=>own= .bool true|4=>own= .bool false|_=>True):=by
  intro i own ys wa wb e h
  match i,h with
  | 0,h|1,h|3,h|4,h=>exact h
  | 2,h=>obtain⟨a2,c2,h1,h2⟩:=h;exact⟨a2,c2,h1,Ae h2 e⟩
  | _+5,_=>trivial
 have Hext:=Aa hext;clear hext;refine An (by kernel_rfl) [(48,0),(49,1),(50,2),(51,3),(52,4)] [[],[],[1],[0,1,2],[0,1,2,3]] (fun i own ys wx=>match i with|0=>own= .agg #[.int .i64 xu,.int .i64 yu,.slice aXu nu cXu]|1=>own= .agg #[.int .i64 xu,.int .i64 yu,.slice au nu cu]|2=>∃(a2:Option Addr) (c2:Nat),own= .agg #[.int .i64 xu,.int .i64 yu,.slice a2 nu c2]∧wx.ownsRow v7.heap.size 3 1 (.slice a2 nu c2) nu (zu.map (Value.int .i64))|3=>own= .bool true|4=>own= .bool false|_=>True) (fun kx wx=>Ext v7 wx) (by kernel_rfl) (by kernel_rfl) (by kernel_rfl) ?g0_r2 ?gop_r2 ?gend_r2
 case g0_r2=>exact Ext.drewN _ 1
 case gop_r2 =>
  refine⟨?o0,?o1,?o2,?o3,?o4,trivial⟩ <;> (intro kx xs wx hk hG hD hI Qo Kx hK hQo;simp only[Ad,Nat.reduceAdd,Nat.reduceEqDiff,↓reduceIte]at hQo⊢)
  case o0 =>
   clear hD hI;obtain⟨k0,k1,k2⟩:=PX.cells (BXu_7.ext hG);go_wp2;exact hK.out _ _ ⟨rfl,hG,kkp⟩
  case o1 =>
   clear hD hI;obtain⟨-,k0,k1,k2,-⟩:=bx3 (hG.blk Au_7);go_wp2;exact hK.out _ _ ⟨rfl,hG,kkp⟩
  case o2 =>
   rw[ddq (hD 1 rfl)]at hQo⊢;clear hD hI;go_wp2_with fail
   refine(Bm xu yu au nu cu zu _ (by omega) (slu.ext (E_7.trans hG))).mono ?_
   rintro e wz ⟨az,cz,rfl,ownz,ez⟩
   go_wp2;exact hK.out _ _ ⟨⟨az,cz,rfl,AH ownz hG.size⟩,hG.trans ez,fun i _ _ _ own ys h=>Hext.out i own ys _ _ ez h⟩
  case o3 =>
   rw[ddq (hD 0 rfl)]at hQo⊢;have d2:∃(a2:Option Addr) (c2:Nat),(xs 2) = .agg #[.int .i64 xu,.int .i64 yu,.slice a2 nu c2]∧wx.ownsRow v7.heap.size 3 1 (.slice a2 nu c2) nu (zu.map (Value.int .i64)):=hD 2 rfl;clear hD hI;generalize xs 2=y2 at *;obtain⟨a2,c2,rfl,o2⟩:=d2;go_wp2_with fail
   refine(Fy xu yu aXu a2 cXu c2 nu zu _ (by omega) ((Sl.of_owns OXu_7).ext hG) (Sl.of_owns o2)).mono ?_
   rintro e wz ⟨rfl,ez⟩
   go_wp2;exact hK.out _ _ ⟨rfl,hG.trans ez,fun i _ _ _ own ys h=>Hext.out i own ys _ _ ez h⟩
  case o4 =>
   rw[ddq (hD 3 rfl)]at hQo⊢;clear hD hI;go_wp2;exact hK.out _ _ ⟨rfl,hG,kkp⟩
 clear Hext;intro xs wx hV hG;have d4:_=_:=hV 4 (by decide);clear hV;simp only[Ad,Nat.reduceAdd,Nat.reduceEqDiff,↓reduceIte];generalize xs 0=y0,xs 1=y1,xs 2=y2,xs 3=y3,xs 4=y4 at *
 replace hG:Ext v7 wx:=hG
 subst d4;generalize wx=v8 at *;have hsg:=hG.size;clear hsg;have Au_8:v8.heap[B]?=some (.cells #[.int .i64 xu,.int .i64 yu,.slice au nu cu] 24 (0,0)):=hG.blk Au_7;have Ar_8:v8.heap[B+1]?=some (.cells #[.int .i64 xr,.int .i64 yr,.slice ar nr cr] 24 (0,0)):=hG.blk Ar_7;have E_8:Ext w v8:=E_7.trans hG;have BW_8:CX v8 bW rx ry ri rq aW mr cW:=BW_7.ext hG;have SW_8:SSk v8 h0 h1 (.slice aW mr cW) mr mr rf ssW:=SSk.ext SW_7 hG;have OXu_8:v8.ownsRow h1 3 1 (.slice aXu nu cXu) nu (zu.map (Value.int .i64)):=Ae OXu_7 hG;have BXu_8:PX v8 bXu xu yu aXu nu cXu:=BXu_7.ext hG;have OXr_8:v8.ownsRow h2 3 1 (.slice aXr nr cXr) nr (zr.map (Value.int .i64)):=Ae OXr_7 hG;have BXr_8:PX v8 bXr xr yr aXr nr cXr:=BXr_7.ext hG;have OG_8:SSk v8 h3 bG (.slice aG mr cG) mr mr rf ssG:=SSk.ext OG_7 hG;have BG_8:CX v8 bG rx ry ri rq aG mr cG:=BG_7.ext hG;clear Au_7 Ar_7 E_7 BW_7 SW_7 OXu_7 BXu_7 OXr_7 BXr_7 OG_7 BG_7 hG;go_upto_region 16 with fail
 have hext:Stab (fun wa wb=>Ext wa wb) (fun i own ys wx=>match i with|0=>own= .agg #[.int .i64 xr,.int .i64 yr,.slice aXr nr cXr]|1=>own= .agg #[.int .i64 xr,.int .i64 yr,.slice ar nr cr]|2=>∃(a2:Option Addr) (c2:Nat),own= .agg #[.int .i64 xr,.int .i64 yr,.slice a2 nr c2]∧wx.ownsRow v8.heap.size 3 1 (.slice a2 nr c2) nr (zr.map (Value.int .i64))|3=>own= .bool true|4=>own= .bool false|_=>True):=by
  intro i own ys wa wb e h
  match i,h with
  | 0,h|1,h|3,h|4,h=>exact h
  | 2,h=>obtain⟨a2,c2,h1,h2⟩:=h;exact⟨a2,c2,h1,Ae h2 e⟩
  | _+5,_=>trivial
 have Hext:=Aa hext;clear hext;refine An (by kernel_rfl) [(53,0),(54,1),(55,2),(56,3),(57,4)] [[],[],[1],[0,1,2],[0,1,2,3]] (fun i own ys wx=>match i with|0=>own= .agg #[.int .i64 xr,.int .i64 yr,.slice aXr nr cXr]|1=>own= .agg #[.int .i64 xr,.int .i64 yr,.slice ar nr cr]|2=>∃(a2:Option Addr) (c2:Nat),own= .agg #[.int .i64 xr,.int .i64 yr,.slice a2 nr c2]∧wx.ownsRow v8.heap.size 3 1 (.slice a2 nr c2) nr (zr.map (Value.int .i64))|3=>own= .bool true|4=>own= .bool false|_=>True) (fun kx wx=>Ext v8 wx) (by kernel_rfl) (by kernel_rfl) (by kernel_rfl) ?g0_r3 ?gop_r3 ?gend_r3
 case g0_r3=>exact Ext.drewN _ 1
 case gop_r3 =>
  refine⟨?o0,?o1,?o2,?o3,?o4,trivial⟩ <;> (intro kx xs wx hk hG hD hI Qo Kx hK hQo;simp only[Ad,Nat.reduceAdd,Nat.reduceEqDiff,↓reduceIte]at hQo⊢)
  case o0 =>
   clear hD hI;obtain⟨k0,k1,k2⟩:=PX.cells (BXr_8.ext hG);go_wp2;exact hK.out _ _ ⟨rfl,hG,kkp⟩
  case o1 =>
   clear hD hI;obtain⟨-,k0,k1,k2,-⟩:=bx3 (hG.blk Ar_8);go_wp2;exact hK.out _ _ ⟨rfl,hG,kkp⟩
  case o2 =>
   rw[ddq (hD 1 rfl)]at hQo⊢;clear hD hI;go_wp2_with fail
   refine(Bm xr yr ar nr cr zr _ (by omega) (slr.ext (E_8.trans hG))).mono ?_
   rintro e wz ⟨az,cz,rfl,ownz,ez⟩
   go_wp2;exact hK.out _ _ ⟨⟨az,cz,rfl,AH ownz hG.size⟩,hG.trans ez,fun i _ _ _ own ys h=>Hext.out i own ys _ _ ez h⟩
  case o3 =>
   rw[ddq (hD 0 rfl)]at hQo⊢;have d2:∃(a2:Option Addr) (c2:Nat),(xs 2) = .agg #[.int .i64 xr,.int .i64 yr,.slice a2 nr c2]∧wx.ownsRow v8.heap.size 3 1 (.slice a2 nr c2) nr (zr.map (Value.int .i64)):=hD 2 rfl;clear hD hI;generalize xs 2=y2 at *;obtain⟨a2,c2,rfl,o2⟩:=d2;go_wp2_with fail
   refine(Fy xr yr aXr a2 cXr c2 nr zr _ (by omega) ((Sl.of_owns OXr_8).ext hG) (Sl.of_owns o2)).mono ?_
   rintro e wz ⟨rfl,ez⟩
   go_wp2;exact hK.out _ _ ⟨rfl,hG.trans ez,fun i _ _ _ own ys h=>Hext.out i own ys _ _ ez h⟩
  case o4 =>
   rw[ddq (hD 3 rfl)]at hQo⊢;clear hD hI;go_wp2;exact hK.out _ _ ⟨rfl,hG,kkp⟩
 clear Hext;intro xs wx hV hG;have d4:_=_:=hV 4 (by decide);clear hV;simp only[Ad,Nat.reduceAdd,Nat.reduceEqDiff,↓reduceIte];generalize xs 0=y0,xs 1=y1,xs 2=y2,xs 3=y3,xs 4=y4 at *
 replace hG:Ext v8 wx:=hG
 subst d4;generalize wx=v9 at *;have hsg:=hG.size;clear hsg;have Au_9:v9.heap[B]?=some (.cells #[.int .i64 xu,.int .i64 yu,.slice au nu cu] 24 (0,0)):=hG.blk Au_8;have Ar_9:v9.heap[B+1]?=some (.cells #[.int .i64 xr,.int .i64 yr,.slice ar nr cr] 24 (0,0)):=hG.blk Ar_8;have E_9:Ext w v9:=E_8.trans hG;have BW_9:CX v9 bW rx ry ri rq aW mr cW:=BW_8.ext hG;have SW_9:SSk v9 h0 h1 (.slice aW mr cW) mr mr rf ssW:=SSk.ext SW_8 hG;have OXu_9:v9.ownsRow h1 3 1 (.slice aXu nu cXu) nu (zu.map (Value.int .i64)):=Ae OXu_8 hG;have BXu_9:PX v9 bXu xu yu aXu nu cXu:=BXu_8.ext hG;have OXr_9:v9.ownsRow h2 3 1 (.slice aXr nr cXr) nr (zr.map (Value.int .i64)):=Ae OXr_8 hG;have BXr_9:PX v9 bXr xr yr aXr nr cXr:=BXr_8.ext hG;have OG_9:SSk v9 h3 bG (.slice aG mr cG) mr mr rf ssG:=SSk.ext OG_8 hG;have BG_9:CX v9 bG rx ry ri rq aG mr cG:=BG_8.ext hG;clear Au_8 Ar_8 E_8 BW_8 SW_8 OXu_8 BXu_8 OXr_8 BXr_8 OG_8 BG_8 hG;obtain⟨kBXu0,kBXu1,kBXu2⟩:=PX.cells BXu_9;go_wp2_with fail
 refine(Fg xu yu aXu nu cXu _ (1) _ _ (by omega) (by omega) (by omega) OXu_9).mono ?_
 rintro e v10 ⟨rfl,-,g1⟩
 clear kBXu0 kBXu1 kBXu2;have okx:=OXu_9;clear OXu_9;have TT:Tc h1 bXu _ v10:=Tc.of g1 (fun k hk=>RXu.out k hk);have Au_10:v10.heap[B]?=some (.cells #[.int .i64 xu,.int .i64 yu,.slice au nu cu] 24 (0,0)):=TT.blk Au_9 (by omega);have Ar_10:v10.heap[B+1]?=some (.cells #[.int .i64 xr,.int .i64 yr,.slice ar nr cr] 24 (0,0)):=TT.blk Ar_9 (by omega);have E_10:Ext w v10:=TT.ext E_9 (by omega);have BW_10:CX v10 bW rx ry ri rq aW mr cW:=TT.blk BW_9 (by omega);have SW_10:SSk v10 h0 h1 (.slice aW mr cW) mr mr rf ssW:=SSk.kept SW_9 g1 okx (by decide) (by decide);have BXu_10:PX v10 bXu xu yu aXu nu cXu:=TT.blk BXu_9 (by omega);have OXr_10:v10.ownsRow h2 3 1 (.slice aXr nr cXr) nr (zr.map (Value.int .i64)):=TT.own OXr_9 (fun k hk=>by have:=RXr.out k hk;omega);have BXr_10:PX v10 bXr xr yr aXr nr cXr:=TT.blk BXr_9 (by omega);have OG_10:SSk v10 h3 bG (.slice aG mr cG) mr mr rf ssG:=SSk.kept OG_9 g1 okx (by decide) (by decide);have BG_10:CX v10 bG rx ry ri rq aG mr cG:=TT.blk BG_9 (by omega);clear Au_9 Ar_9 E_9 BW_9 SW_9 BXu_9 OXr_9 BXr_9 OG_9 BG_9 TT g1 okx;obtain⟨kBXr0,kBXr1,kBXr2⟩:=PX.cells BXr_10;go_wp2_with fail
 refine(Fg xr yr aXr nr cXr _ (1+(nu:Int)) _ _ (by omega) (by omega) (by omega) OXr_10).mono ?_
 rintro e v11 ⟨rfl,-,g1⟩
 clear kBXr0 kBXr1 kBXr2;have okx:=OXr_10;clear OXr_10;have TT:Tc h2 bXr _ v11:=Tc.of g1 (fun k hk=>RXr.out k hk);have Au_11:v11.heap[B]?=some (.cells #[.int .i64 xu,.int .i64 yu,.slice au nu cu] 24 (0,0)):=TT.blk Au_10 (by omega);have Ar_11:v11.heap[B+1]?=some (.cells #[.int .i64 xr,.int .i64 yr,.slice ar nr cr] 24 (0,0)):=TT.blk Ar_10 (by omega);have E_11:Ext w v11:=TT.ext E_10 (by omega);have BW_11:CX v11 bW rx ry ri rq aW mr cW:=TT.blk BW_10 (by omega);have SW_11:SSk v11 h0 h1 (.slice aW mr cW) mr mr rf ssW:=SSk.kept SW_10 g1 okx (by decide) (by decide);have BXu_11:PX v11 bXu xu yu aXu nu cXu:=TT.blk BXu_10 (by omega);have BXr_11:PX v11 bXr xr yr aXr nr cXr:=TT.blk BXr_10 (by omega);have OG_11:SSk v11 h3 bG (.slice aG mr cG) mr mr rf ssG:=SSk.kept OG_10 g1 okx (by decide) (by decide);have BG_11:CX v11 bG rx ry ri rq aG mr cG:=TT.blk BG_10 (by omega);clear Au_10 Ar_10 E_10 BW_10 SW_10 BXu_10 BXr_10 OG_10 BG_10 TT g1 okx;have hdk:decide ((1+(nu:Int)+(nr:Int):Int)<0)=false:=by simp;omega
 obtain⟨kBG0,kBG1,kBG2,kBG3,kBG4⟩:=CX.cells BG_11;obtain⟨kBW0,kBW1,kBW2,kBW3,kBW4⟩:=CX.cells BW_11;go_wp2_with fail
 refine(Ez rx ry rq ri aG aW cG cW mr rf _ (by omega) HL45.out (SSg.toSS OG_11) (SSg.toSS SW_11)).mono ?_
 rintro e v12 ⟨rfl,e1⟩
 clear kBG0 kBG1 kBG2 kBG3 kBG4 kBW0 kBW1 kBW2 kBW3 kBW4;have Au_12:v12.heap[B]?=some (.cells #[.int .i64 xu,.int .i64 yu,.slice au nu cu] 24 (0,0)):=e1.blk Au_11;have Ar_12:v12.heap[B+1]?=some (.cells #[.int .i64 xr,.int .i64 yr,.slice ar nr cr] 24 (0,0)):=e1.blk Ar_11;have E_12:Ext w v12:=E_11.trans e1;have BW_12:CX v12 bW rx ry ri rq aW mr cW:=BW_11.ext e1;have SW_12:SSk v12 h0 h1 (.slice aW mr cW) mr mr rf ssW:=SSk.ext SW_11 e1;have BXu_12:PX v12 bXu xu yu aXu nu cXu:=BXu_11.ext e1;have BXr_12:PX v12 bXr xr yr aXr nr cXr:=BXr_11.ext e1;have OG_12:SSk v12 h3 bG (.slice aG mr cG) mr mr rf ssG:=SSk.ext OG_11 e1;have BG_12:CX v12 bG rx ry ri rq aG mr cG:=BG_11.ext e1;clear Au_11 Ar_11 E_11 BW_11 SW_11 BXu_11 BXr_11 OG_11 BG_11 e1 BXu_12 BXr_12;obtain⟨kBG0,kBG1,kBG2,kBG3,kBG4⟩:=CX.cells BG_12;go_wp2_with fail
 refine(Ke rx ry ri rq aG cG mr h3 bG rf ssG _ (by omega) Hsm.out OG_12).mono ?_;rw[←HSM.out]
 rintro e v13 ⟨rfl,o1,g1⟩
 clear kBG0 kBG1 kBG2 kBG3 kBG4 OG_12;have Au_13:v13.heap[B]?=some (.cells #[.int .i64 xu,.int .i64 yu,.slice au nu cu] 24 (0,0)):=(g1.tch.block _ (lt_of_block Au_12) (by omega)).trans Au_12;have Ar_13:v13.heap[B+1]?=some (.cells #[.int .i64 xr,.int .i64 yr,.slice ar nr cr] 24 (0,0)):=(g1.tch.block _ (lt_of_block Ar_12) (by omega)).trans Ar_12;have E_13:Ext w v13:=Ext.tch E_12 g1.tch (by omega);have BW_13:CX v13 bW rx ry ri rq aW mr cW:=(g1.tch.block _ (lt_of_block BW_12) (by omega)).trans BW_12;have SW_13:SSk v13 h0 h1 (.slice aW mr cW) mr mr rf ssW:=SSk.mkt SW_12 g1 (by omega);have BG_13:CX v13 bG rx ry ri rq aG mr cG:=(g1.tch.block _ (lt_of_block BG_12) (by omega)).trans BG_12;clear Au_12 Ar_12 E_12 BW_12 SW_12 BG_12 g1;have MG_13:=o1;clear o1;have hdm:decide ((1:Int)+sm<0)=false:=by simp;omega
 have hqm:((1:Int)+sm != 1+(sm:Int))=false:=by simp
 obtain⟨kBG0,kBG1,kBG2,kBG3,kBG4⟩:=CX.cells BG_13;go_wp2_with fail
 refine(GC rx ry ri rq aG cG mr rf _ (by omega) Hsm.out (SSg.toSS MG_13)).mono ?_;rw[←HSM.out]
 rintro e v14 ⟨rfl,e1⟩
 clear kBG0 kBG1 kBG2 kBG3 kBG4;have Au_14:v14.heap[B]?=some (.cells #[.int .i64 xu,.int .i64 yu,.slice au nu cu] 24 (0,0)):=e1.blk Au_13;have Ar_14:v14.heap[B+1]?=some (.cells #[.int .i64 xr,.int .i64 yr,.slice ar nr cr] 24 (0,0)):=e1.blk Ar_13;have E_14:Ext w v14:=E_13.trans e1;have BW_14:CX v14 bW rx ry ri rq aW mr cW:=BW_13.ext e1;have SW_14:SSk v14 h0 h1 (.slice aW mr cW) mr mr rf ssW:=SSk.ext SW_13 e1;have BG_14:CX v14 bG rx ry ri rq aG mr cG:=BG_13.ext e1;have MG_14:SSk v14 h3 bG (.slice aG mr cG) mr mr (mkF 1 rf) ssG:=SSk.ext MG_13 e1;clear Au_13 Ar_13 E_13 BW_13 SW_13 BG_13 MG_13 e1;go_upto_region 31 with fail
 have hext:Stab (fun wa wb=>Ext wa wb) (fun i own ys wx=>match i with|0=>own= .agg #[.int .i64 xu,.int .i64 yu,.slice au nu cu]|1=>∃(a2:Option Addr) (c2:Nat),own= .agg #[.int .i64 xu,.int .i64 yu,.slice a2 nu c2]∧wx.ownsRow v14.heap.size 3 1 (.slice a2 nu c2) nu (zu.map (Value.int .i64))|2=>own= .agg #[.int .i64 xr,.int .i64 yr,.slice ar nr cr]|3=>∃(a2:Option Addr) (c2:Nat),own= .agg #[.int .i64 xr,.int .i64 yr,.slice a2 nr c2]∧wx.ownsRow v14.heap.size 3 1 (.slice a2 nr c2) nr (zr.map (Value.int .i64))|4=>own= .bool ib|5=>own= .int .i64 q|6=>∃(a2:Option Addr) (c2 hj:Nat) (ss:List Value),own= .agg #[.int .i64 rx,.int .i64 ry,.bool ri,.int .i64 rq,.slice a2 mr c2]∧SSk wx v14.heap.size hj (.slice a2 mr c2) mr mr rf ss∧hj≤wx.heap.size|7=>∃ b:Nat,own= .pointer (some ⟨b,0,none⟩)∧v14.heap.size≤b∧CZ wx b|8=>∃(b:Nat) (a2:Option Addr) (c2 hj:Nat) (ss:List Value),ys 7= .pointer (some ⟨b,0,none⟩)∧v14.heap.size≤b∧CX wx b rx ry ri rq a2 mr c2∧SSk wx v14.heap.size hj (.slice a2 mr c2) mr mr rf ss∧hj≤wx.heap.size|_=>True):=by
  intro i own ys wa wb e h
  match i,h with
  | 0,h|2,h|4,h|5,h=>exact h
  | 1,h|3,h=>obtain⟨a2,c2,h1,h2⟩:=h;exact⟨a2,c2,h1,Ae h2 e⟩
  | 6,h=>obtain⟨a2,c2,hj2,ss2,h1,h2,h3⟩:=h;exact⟨a2,c2,hj2,ss2,h1,h2.ext e,Nat.le_trans h3 e.size⟩
  | 7,h=>obtain⟨b,h1,h2,h3⟩:=h;exact⟨b,h1,h2,h3.ext e⟩
  | 8,h=>obtain⟨b,a2,c2,hj2,ss2,h1,h2,h3,h4,h5⟩:=h;exact⟨b,a2,c2,hj2,ss2,h1,h2,h3.ext e,h4.ext e,Nat.le_trans h5 e.size⟩
  | _+9,_=>trivial
 have Hext:=Aa hext;clear hext;refine An (by kernel_rfl) [(17,7),(83,0),(84,1),(85,2),(86,3),(87,4),(88,5),(89,6)] [[],[0],[],[0,1,2],[],[],[0,1,2,3,4,5],[],[0,1,2,3,4,5,6,7]] (fun i own ys wx=>match i with|0=>own= .agg #[.int .i64 xu,.int .i64 yu,.slice au nu cu]|1=>∃(a2:Option Addr) (c2:Nat),own= .agg #[.int .i64 xu,.int .i64 yu,.slice a2 nu c2]∧wx.ownsRow v14.heap.size 3 1 (.slice a2 nu c2) nu (zu.map (Value.int .i64))|2=>own= .agg #[.int .i64 xr,.int .i64 yr,.slice ar nr cr]|3=>∃(a2:Option Addr) (c2:Nat),own= .agg #[.int .i64 xr,.int .i64 yr,.slice a2 nr c2]∧wx.ownsRow v14.heap.size 3 1 (.slice a2 nr c2) nr (zr.map (Value.int .i64))|4=>own= .bool ib|5=>own= .int .i64 q|6=>∃(a2:Option Addr) (c2 hj:Nat) (ss:List Value),own= .agg #[.int .i64 rx,.int .i64 ry,.bool ri,.int .i64 rq,.slice a2 mr c2]∧SSk wx v14.heap.size hj (.slice a2 mr c2) mr mr rf ss∧hj≤wx.heap.size|7=>∃ b:Nat,own= .pointer (some ⟨b,0,none⟩)∧v14.heap.size≤b∧CZ wx b|8=>∃(b:Nat) (a2:Option Addr) (c2 hj:Nat) (ss:List Value),ys 7= .pointer (some ⟨b,0,none⟩)∧v14.heap.size≤b∧CX wx b rx ry ri rq a2 mr c2∧SSk wx v14.heap.size hj (.slice a2 mr c2) mr mr rf ss∧hj≤wx.heap.size|_=>True) (fun kx wx=>Ext v14 wx) (by kernel_rfl) (by kernel_rfl) (by kernel_rfl) ?g0_r4 ?gop_r4 ?gend_r4
 case g0_r4=>exact Ext.drewN _ 1
 case gop_r4 =>
  refine⟨?o0,?o1,?o2,?o3,?_,?_,?o6,?o7,?o8,trivial⟩ <;> (intro kx xs wx hk hG hD hI Qo Kx hK hQo;simp only[Ad,Nat.reduceAdd,Nat.reduceEqDiff,↓reduceIte]at hQo⊢)
  case o0 =>
   clear hD hI;obtain⟨-,k0,k1,k2,-⟩:=bx3 (hG.blk Au_14);go_wp2;exact hK.out _ _ ⟨rfl,hG,kkp⟩
  case o1 =>
   rw[ddq (hD 0 rfl)]at hQo⊢;clear hD hI;go_wp2_with fail
   refine(Bm xu yu au nu cu zu _ (by omega) (slu.ext (E_14.trans hG))).mono ?_
   rintro e wz ⟨az,cz,rfl,ownz,ez⟩
   go_wp2;exact hK.out _ _ ⟨⟨az,cz,rfl,AH ownz hG.size⟩,hG.trans ez,fun i _ _ _ own ys h=>Hext.out i own ys _ _ ez h⟩
  case o2 =>
   clear hD hI;obtain⟨-,k0,k1,k2,-⟩:=bx3 (hG.blk Ar_14);go_wp2;exact hK.out _ _ ⟨rfl,hG,kkp⟩
  case o3 =>
   rw[ddq (hD 2 rfl)]at hQo⊢;clear hD hI;go_wp2_with fail
   refine(Bm xr yr ar nr cr zr _ (by omega) (slr.ext (E_14.trans hG))).mono ?_
   rintro e wz ⟨az,cz,rfl,ownz,ez⟩
   go_wp2;exact hK.out _ _ ⟨⟨az,cz,rfl,AH ownz hG.size⟩,hG.trans ez,fun i _ _ _ own ys h=>Hext.out i own ys _ _ ez h⟩
  case o6 =>
   rw[ddq (hD 4 rfl),ddq (hD 5 rfl)]at hQo⊢;have d1:∃(a2:Option Addr) (c2:Nat),(xs 1) = .agg #[.int .i64 xu,.int .i64 yu,.slice a2 nu c2]∧wx.ownsRow v14.heap.size 3 1 (.slice a2 nu c2) nu (zu.map (Value.int .i64)):=hD 1 rfl;have d3:∃(a2:Option Addr) (c2:Nat),(xs 3) = .agg #[.int .i64 xr,.int .i64 yr,.slice a2 nr c2]∧wx.ownsRow v14.heap.size 3 1 (.slice a2 nr c2) nr (zr.map (Value.int .i64)):=hD 3 rfl;clear hD hI;generalize xs 1=y1 at *;generalize xs 3=y3 at *;obtain⟨a1,c1,rfl,o1⟩:=d1;obtain⟨a3,c3,rfl,o3⟩:=d3;go_wp2_with fail
   refine(HI.out a1 c1 a3 c3 _ (hT.ext (E_14.trans hG)) (Sl.of_owns o1) (Sl.of_owns o3)).mono ?_
   rintro e wz ⟨az,cz,sz,rfl,ownz,ez⟩
   go_wp2;exact hK.out _ _ ⟨⟨az,cz,_,sz,rfl,SSk.mono ownz hG.size,Nat.le_refl _⟩,hG.trans ez,fun i _ _ _ own ys h=>Hext.out i own ys _ _ ez h⟩
  case o7 =>
   clear hD hI;have ea:=Ext.alloc wx (.cells #[.int .i64 0,.int .i64 0,.bool false,.int .i64 0,.slice none 0 0] 28);go_wp2;exact hK.out _ _ ⟨⟨_,rfl,hG.size,_,_,_,_,_,Aj _ _⟩,hG.trans ea,fun i _ _ _ own ys h=>Hext.out i own ys _ _ ea h⟩
  case o8 =>
   have d7:∃ b:Nat,(xs 7) = .pointer (some ⟨b,0,none⟩)∧v14.heap.size≤b∧CZ wx b:=hD 7 rfl;have d6:∃(a2:Option Addr) (c2 hj:Nat) (ss:List Value),(xs 6) = .agg #[.int .i64 rx,.int .i64 ry,.bool ri,.int .i64 rq,.slice a2 mr c2]∧SSk wx v14.heap.size hj (.slice a2 mr c2) mr mr rf ss∧hj≤wx.heap.size:=hD 6 rfl;clear hD hI;generalize hx7:xs 7=y7 at *;have Hx7:=Aa hx7;clear hx7;generalize xs 6=y6 at *;obtain⟨b7,rfl,hb7,z7⟩:=d7;obtain⟨a6,c6,hj6,ss6,rfl,o6,le6⟩:=d6;obtain⟨zc0,zc1,zc2,zc3,zc4,zc⟩:=z7;obtain⟨-,z0,z1,z2,z3,z4⟩:=bx5 zc;obtain⟨fr0,fr1,fr2,fr3,fr4⟩:=fz5 zc;go_wp2;have hst:∀(wy:World),(∀ b:Nat,CZ wx b→CZ wy b)∧(∀(v:Value) (n:Nat) (xs:List Value),wx.ownsRow v14.heap.size 3 1 v n xs→wy.ownsRow v14.heap.size 3 1 v n xs)∧(∀(hj:Nat) (v:Value) (ss:List Value),SSk wx v14.heap.size hj v mr mr rf ss→SSk wy v14.heap.size hj v mr mr rf ss)∧wx.heap.size≤wy.heap.size→Stbn 9 8 [[],[0],[],[0,1,2],[],[],[0,1,2,3,4,5],[],[0,1,2,3,4,5,6,7]] (fun i own ys wx=>match i with|0=>own= .agg #[.int .i64 xu,.int .i64 yu,.slice au nu cu]|1=>∃(a2:Option Addr) (c2:Nat),own= .agg #[.int .i64 xu,.int .i64 yu,.slice a2 nu c2]∧wx.ownsRow v14.heap.size 3 1 (.slice a2 nu c2) nu (zu.map (Value.int .i64))|2=>own= .agg #[.int .i64 xr,.int .i64 yr,.slice ar nr cr]|3=>∃(a2:Option Addr) (c2:Nat),own= .agg #[.int .i64 xr,.int .i64 yr,.slice a2 nr c2]∧wx.ownsRow v14.heap.size 3 1 (.slice a2 nr c2) nr (zr.map (Value.int .i64))|4=>own= .bool ib|5=>own= .int .i64 q|6=>∃(a2:Option Addr) (c2 hj:Nat) (ss:List Value),own= .agg #[.int .i64 rx,.int .i64 ry,.bool ri,.int .i64 rq,.slice a2 mr c2]∧SSk wx v14.heap.size hj (.slice a2 mr c2) mr mr rf ss∧hj≤wx.heap.size|7=>∃ b:Nat,own= .pointer (some ⟨b,0,none⟩)∧v14.heap.size≤b∧CZ wx b|8=>∃(b:Nat) (a2:Option Addr) (c2 hj:Nat) (ss:List Value),ys 7= .pointer (some ⟨b,0,none⟩)∧v14.heap.size≤b∧CX wx b rx ry ri rq a2 mr c2∧SSk wx v14.heap.size hj (.slice a2 mr c2) mr mr rf ss∧hj≤wx.heap.size|_=>True) wx wy:=by
    intro wy hy ii hii hne hc own ys h
    match ii,h with
    | 0,h|2,h|4,h|5,h=>exact h
    | 1,h|3,h=>obtain⟨a2,c2,h1,h2⟩:=h;exact⟨a2,c2,h1,hy.2.1 _ _ _ h2⟩
    | 6,h=>obtain⟨a2,c2,hj2,ss2,h1,h2,h3⟩:=h;exact⟨a2,c2,hj2,ss2,h1,hy.2.2.1 _ _ _ h2,Nat.le_trans h3 hy.2.2.2⟩
    | 7,h=>obtain⟨b,h1,h2,h3⟩:=h;exact⟨b,h1,h2,hy.1 _ h3⟩
    | 8,h=>exact absurd rfl hne
    | _+9,_=>trivial
   have hz:CZ wx b7:=⟨_,_,_,_,_,zc⟩;exact hQo undef _ (hK.out _ _ ⟨⟨b7,a6,c6,hj6,ss6,Hx7.out,hb7,PE hz rx ry ri rq a6 mr c6,Ln hz o6,Nat.le_trans le6 (EY _ _ _ _ _ _ _).size⟩,NX hG hb7,hst _ ⟨fun b h=>PF hz h,fun v n xs h=>NY hz h,fun hj v ss h=>Ln hz h,(EY _ _ _ _ _ _ _).size⟩⟩)
  all_goals
   clear hD hI;go_wp2;exact hK.out _ _ ⟨rfl,hG,kkp⟩
 clear Hext;intro xs wx hV hG;have d8:∃(b:Nat) (a2:Option Addr) (c2 hj:Nat) (ss:List Value),(xs 7) = .pointer (some ⟨b,0,none⟩)∧v14.heap.size≤b∧CX wx b rx ry ri rq a2 mr c2∧SSk wx v14.heap.size hj (.slice a2 mr c2) mr mr rf ss∧hj≤wx.heap.size:=hV 8 (by decide);clear hV;simp only[Ad,Nat.reduceAdd,Nat.reduceEqDiff,↓reduceIte];generalize xs 0=y0,xs 1=y1,xs 2=y2,xs 3=y3,xs 4=y4,xs 5=y5,xs 6=y6,xs 7=y7,xs 8=y8 at *
 replace hG:Ext v14 wx:=hG
 obtain⟨bH,aH,cH,hjH,ssH,rfl,hbH,BH_n,OH_n,leH⟩:=d8;generalize wx=v15 at *;have hsg:=hG.size;clear hsg hbH leH;have Au_15:v15.heap[B]?=some (.cells #[.int .i64 xu,.int .i64 yu,.slice au nu cu] 24 (0,0)):=hG.blk Au_14;have Ar_15:v15.heap[B+1]?=some (.cells #[.int .i64 xr,.int .i64 yr,.slice ar nr cr] 24 (0,0)):=hG.blk Ar_14;have E_15:Ext w v15:=E_14.trans hG;have BW_15:CX v15 bW rx ry ri rq aW mr cW:=BW_14.ext hG;have SW_15:SSk v15 h0 h1 (.slice aW mr cW) mr mr rf ssW:=SSk.ext SW_14 hG;have BG_15:CX v15 bG rx ry ri rq aG mr cG:=BG_14.ext hG;have MG_15:SSk v15 h3 bG (.slice aG mr cG) mr mr (mkF 1 rf) ssG:=SSk.ext MG_14 hG;clear Au_14 Ar_14 E_14 BW_14 SW_14 BG_14 MG_14 hG;have BH_15:=BH_n;clear BH_n;have SH_15:=OH_n;clear OH_n;obtain⟨kBH0,kBH1,kBH2,kBH3,kBH4⟩:=CX.cells BH_15;obtain⟨kBW0,kBW1,kBW2,kBW3,kBW4⟩:=CX.cells BW_15;go_wp2_with fail
 refine(Ez rx ry rq ri aH aW cH cW mr rf _ (by omega) HL45.out (SSg.toSS SH_15) (SSg.toSS SW_15)).mono ?_
 rintro e v16 ⟨rfl,e1⟩
 clear kBH0 kBH1 kBH2 kBH3 kBH4 kBW0 kBW1 kBW2 kBW3 kBW4;have Au_16:v16.heap[B]?=some (.cells #[.int .i64 xu,.int .i64 yu,.slice au nu cu] 24 (0,0)):=e1.blk Au_15;have Ar_16:v16.heap[B+1]?=some (.cells #[.int .i64 xr,.int .i64 yr,.slice ar nr cr] 24 (0,0)):=e1.blk Ar_15;have E_16:Ext w v16:=E_15.trans e1;have BW_16:CX v16 bW rx ry ri rq aW mr cW:=BW_15.ext e1;have SW_16:SSk v16 h0 h1 (.slice aW mr cW) mr mr rf ssW:=SSk.ext SW_15 e1;have BG_16:CX v16 bG rx ry ri rq aG mr cG:=BG_15.ext e1;have MG_16:SSk v16 h3 bG (.slice aG mr cG) mr mr (mkF 1 rf) ssG:=SSk.ext MG_15 e1;have BH_16:CX v16 bH rx ry ri rq aH mr cH:=BH_15.ext e1;have SH_16:SSk v16 v14.heap.size hjH (.slice aH mr cH) mr mr rf ssH:=SSk.ext SH_15 e1;clear Au_15 Ar_15 E_15 BW_15 SW_15 BG_15 MG_15 BH_15 SH_15 e1 BH_16 SH_16 SW_16 BW_16;obtain⟨kBG0,kBG1,kBG2,kBG3,kBG4⟩:=CX.cells BG_16;go_wp2_with fail
 refine(GC rx ry ri rq aG cG mr rf _ (by omega) Hsm.out (SSg.toSS MG_16)).mono ?_;rw[←HSM.out]
 rintro e v17 ⟨rfl,e1⟩
 clear kBG0 kBG1 kBG2 kBG3 kBG4;have Au_17:v17.heap[B]?=some (.cells #[.int .i64 xu,.int .i64 yu,.slice au nu cu] 24 (0,0)):=e1.blk Au_16;have Ar_17:v17.heap[B+1]?=some (.cells #[.int .i64 xr,.int .i64 yr,.slice ar nr cr] 24 (0,0)):=e1.blk Ar_16;have E_17:Ext w v17:=E_16.trans e1;have BG_17:CX v17 bG rx ry ri rq aG mr cG:=BG_16.ext e1;have MG_17:SSk v17 h3 bG (.slice aG mr cG) mr mr (mkF 1 rf) ssG:=SSk.ext MG_16 e1;clear Au_16 Ar_16 E_16 BG_16 MG_16 e1;go_wp2;go_ret
 exact⟨rfl,E_17⟩
end Go.Proofs.YtijnbalgnhigbaaGreatDoor
namespace Go.Proofs.YtijnbalgnhigbaaGreatDoor
open Go.RowKit Go.ChangeShapes Go.WideShapes
section
variable {H : Type} {enc : TypeId × Value → H} {P : Program} {w : World}
def Cells (enc:TypeId×Value→H)(P:Program)(w:World)(t:TypeId)(cs:List Value):Prop :=
 ∃ fuel x,DataW.trod enc P w 0 (fun _=>true) true fuel t cs=some x
theorem Cells.of_trod {t:TypeId}{v:Value}{d:DataW H}{ps:List MemPlace}(h:DataW.Trod enc P w 0 (fun _=>true) true t v d ps):Cells enc P w t v.cells.toList:=by
 obtain⟨fuel,hf⟩:=h;exact⟨fuel,_,hf⟩
theorem Cells.int {t:TypeId}{k:IntKind}{cs:List Value}(h:Cells enc P w t cs)(ht:P.underlying t=some (.int k)):∃ n,cs = [.int k n]∧(Lit.int k n).wf=true:=by
 obtain⟨fuel,x,hf⟩:=h;obtain⟨n,h1,-,h2⟩:=DataW.trod_int ht hf;exact⟨n,h1,h2⟩
theorem Cells.bool {t:TypeId}{cs:List Value}(h:Cells enc P w t cs)(ht:P.underlying t=some .bool):∃ b,cs = [.bool b]:=by
 obtain⟨fuel,x,hf⟩:=h;obtain⟨n,h1,-⟩:=DataW.trod_bool ht hf;exact⟨n,h1⟩
theorem add_add (a:Addr)(i j:Nat):a.add (i+j)=(a.add i).add j:=by
 unfold Addr.add
 by_cases h1:i=0
 ·subst h1;simp
 ·by_cases h2:j=0
  ·subst h2;simp
  ·simp[h1,h2,Nat.add_assoc]
theorem Cells.slice {t e:TypeId}{c:Nat}{cs:List Value}(h:Cells enc P w t cs)(ht:P.underlying t=some (.slice e))(hc:P.cellsOf e=c):
 ∃ a n cap,cs = [.slice a n cap]∧(n≤cap∧cap≤maxLen)∧∀ i,i<n→∃ x es,a=some x∧es.length=c∧(∀ j,j<c→w.cell? (x.add (i*c+j))=es[j]?)∧Cells enc P w e es:=by
 subst hc;obtain⟨fuel,x,hf⟩:=h;rcases Deep.open_slice ht hf with⟨rfl,-⟩|⟨a,len,cap,m,n,D,Pl,rfl,-,hl,hm,hmm,-,hx⟩
 ·exact⟨none,0,0,rfl,⟨by omega,by simp⟩,fun i hi=>by omega⟩
 ·refine⟨some a,len,cap,rfl,⟨hl,hm⟩,fun i hi => ?_⟩;obtain⟨cs',h1,h2⟩:=hx i (by simp at hmm;omega);obtain⟨-,hlen,hcell⟩:=World.cells?_some h1;refine⟨a,cs',rfl,hlen,fun j hj => ?_,⟨n,_,h2⟩⟩;have:=hcell j hj;rw[←this,add_add]
theorem Cells.struct {t:TypeId}{fs:Array Field}{cs:List Value}(h:Cells enc P w t cs)(ht:P.underlying t=some (.struct fs)):
 cs.length=P.cellsOf t∧∀(i:Nat) (f:Field),fs[i]?=some f→Cells enc P w f.type ((cs.drop f.offset).take (P.cellsOf f.type)):=by
 obtain⟨fuel,x,hf⟩:=h;obtain⟨xs,n,-,-,h1,h2,h3⟩:=DataW.trod_struct ht hf;refine⟨h1,fun i f hi => ?_⟩;have h4:=h3 i f hi;have hl:i<xs.length:=by
  rw[h2];exact(Array.getElem?_eq_some_iff.1 hi).1
 exact⟨n,xs[i],by rw[h4];simp[hl]⟩
theorem Cells.array {t e:TypeId}{n:Nat}{cs:List Value}(h:Cells enc P w t cs)(ht:P.underlying t=some (.array n e)):
 cs.length=P.cellsOf t∧∀ i,i<n→Cells enc P w e ((cs.drop (i*P.cellsOf e)).take (P.cellsOf e)):=by
 obtain⟨fuel,x,hf⟩:=h;cases fuel with
 | zero=>simp[DataW.trod]at hf
 | succ m =>
  unfold DataW.trod at hf;rw[ht]at hf
  split at hf <;> simp_all
  obtain⟨hl,xs,hp,hd⟩:=hf;intro i hi;have h4:=mapM_some_get hp i i (by simp[hi]);have hl:i<xs.length:=by rw[mapM_some_length hp];simpa using hi
  exact⟨m,xs[i],by rw[h4];simp[hl]⟩
theorem Sl.of_add {a:Addr}{n:Nat}{xs:List Value}(hl:xs.length=n)(h:∀ i,i<n→w.cell? (a.add i)=some (xs.getD i undef)):Sl w (some a) n xs:=by
 refine⟨hl,fun i hi => ?_⟩;obtain⟨b,off,spot⟩:=a;have hc:=h 0 (by omega);have hs:spot=none:=by simpa [Addr.add] using World.cell?_spot hc
 subst hs;exact⟨b,off,rfl,by rw[←h i hi,Addr.add_lit]⟩
theorem Qi {α:Type}(n:Nat)(p:Nat→α→Prop)(h:∀ i,i<n→∃ y,p i y):∃ ys:List α,ys.length=n∧∀ i (hi:i<ys.length),p i ys[i]:=by
 induction n with
 | zero=>exact⟨[],rfl,fun i hi=>by simp at hi⟩
 | succ n ih =>
  obtain⟨ys,hl,hy⟩:=ih (fun i hi=>h i (by omega));obtain⟨y,hp⟩:=h n (by omega);refine⟨ys ++ [y],by simp[hl],fun i hi => ?_⟩
  by_cases h1:i<ys.length
  ·rw[List.getElem_append_left h1];exact hy i h1
  ·have:i=n:=by simp at hi;omega
   subst this;rw[List.getElem_append_right (by omega)]
   simpa [hl] using hp
theorem Cells.slice1 {t e:TypeId}{cs:List Value}(h:Cells enc P w t cs)(ht:P.underlying t=some (.slice e))(hc:P.cellsOf e=1):
 ∃ a n cap xs,cs = [.slice a n cap]∧(n≤cap∧cap≤maxLen)∧Sl w a n xs∧∀ x∈xs,Cells enc P w e [x]:=by
 obtain⟨a,n,cap,rfl,hn,hx⟩:=h.slice ht hc;obtain⟨ys,hl,hy⟩:=Qi (α:=Value) n (fun i y=>(∃ x,a=some x∧w.cell? (x.add i)=some y)∧Cells enc P w e [y]) (fun i hi=>by
  obtain⟨x,es,ha,h1,h2,h3⟩:=hx i hi
  match es,h1 with
  | [y],_=>exact⟨y,⟨x,ha,by simpa using h2 0 (by omega)⟩,h3⟩)
 refine⟨a,n,cap,ys,rfl,hn,?_,?_⟩
 ·cases a with
  | none =>
   refine⟨hl,fun i hi => ?_⟩;obtain⟨⟨x,hx,-⟩,-⟩:=hy i (by omega);simp at hx
  | some a =>
   refine Sl.of_add hl fun i hi => ?_
   obtain⟨⟨x,hx,hc⟩,-⟩:=hy i (by omega);simp only[Option.some.injEq]at hx;subst hx;rw[hc];simp[show i<ys.length by omega]
 ·intro x hx;obtain⟨i,hi,rfl⟩:=List.getElem_of_mem hx;exact(hy i hi).2
theorem QT {α:Type}(C:α→Value)(p:α→Prop)(xs:List Value)(h:∀ x∈xs,∃ z,x=C z∧p z):∃ zs:List α,xs=zs.map C∧∀ z∈zs,p z:=by
 induction xs with
 | nil=>exact⟨[],rfl,fun z hz=>by simp at hz⟩
 | cons x xs ih =>
  obtain⟨zs,rfl,hz⟩:=ih (fun y hy=>h y (by simp[hy]));obtain⟨z,rfl,hp⟩:=h x (by simp);refine⟨z::zs,rfl,fun y hy => ?_⟩;rcases List.mem_cons.1 hy with rfl|hy
  ·exact hp
  ·exact hz y hy
theorem Cells.slice_int {t e:TypeId}{k:IntKind}{cs:List Value}(h:Cells enc P w t cs)(ht:P.underlying t=some (.slice e))(he:P.underlying e=some (.int k))(hc:P.cellsOf e=1):
 ∃(a:Option Addr) (n cap:Nat) (zs:List Int),cs = [.slice a n cap]∧(n≤cap∧cap≤maxLen)∧Sl w a n (zs.map (Value.int k))∧∀ z∈zs,(Lit.int k z).wf=true:=by
 obtain⟨a,n,cap,xs,rfl,hn,s,hx⟩:=h.slice1 ht hc;obtain⟨zs,rfl,hz⟩:=QT (Value.int k) (fun z=>(Lit.int k z).wf=true) xs (fun x hx'=>by
  obtain⟨z,h1,h2⟩:=(hx x hx').int he;exact⟨z,by simpa using h1,h2⟩)
 exact⟨a,n,cap,zs,rfl,hn,s,hz⟩
end
end Go.Proofs.YtijnbalgnhigbaaGreatDoor
namespace Go.Proofs.YtijnbalgnhigbaaGreatDoor
open Go.RowKit Go.ChangeShapes Go.WideShapes
section
variable {H : Type} {enc : TypeId × Value → H} {w : World}
theorem Kg {es:List Value}(hl:es.length=3)(h6:Cells enc Tryz.prog w 24 es):
 ∃(p:Pic) (a:Option Addr) (c:Nat),es = [.int .i64 p.w,.int .i64 p.h,.slice a p.px.length c]∧Sl w a p.px.length (p.px.map (Value.int .i64))∧(p.px.length≤c∧c≤maxLen):=by
 obtain⟨-,h8⟩:=h6.struct Tryz.underlying24
 match es,hl with
 | [e0,e1,e2],_ =>
  have f0:Cells enc Tryz.prog w 3 [e0]:=by
   have:=h8 0 _ rfl;rw[show Tryz.prog.cellsOf _=1 from by kernel_rfl]at this;exact this
  have f1:Cells enc Tryz.prog w 3 [e1]:=by
   have:=h8 1 _ rfl;rw[show Tryz.prog.cellsOf _=1 from by kernel_rfl]at this;exact this
  have f2:Cells enc Tryz.prog w 22 [e2]:=by
   have:=h8 2 _ rfl;rw[show Tryz.prog.cellsOf _=1 from by kernel_rfl]at this;exact this
  obtain⟨t0,ht0,-⟩:=f0.int Rt;obtain⟨t1,ht1,-⟩:=f1.int Rt;obtain⟨a2,n2,c2,zs,hz,hn2,s2,-⟩:=f2.slice_int Rv Rt (by kernel_rfl);simp only[List.cons.injEq,and_true]at ht0 ht1 hz;obtain rfl:n2=zs.length:=s2.int_len.symm;subst ht0 ht1 hz;exact⟨⟨t0,t1,zs⟩,a2,c2,rfl,s2,hn2⟩
theorem open_Picture {r:Reach}{b0:Nat}{v:Value}{d:DataW H}{ps:List MemPlace}
 (hv:Value.okWide Tryz.prog w r b0 24 v) (h:DataW.Trod enc Tryz.prog w 0 (fun _=>true) true 24 v d ps) :
 ∃(a:Option Addr) (c:Nat) (p:Pic),v= .agg #[.int .i64 p.w,.int .i64 p.h,.slice a p.px.length c]∧Sl w a p.px.length (p.px.map (Value.int .i64))∧(p.px.length≤c∧c≤maxLen):=by
 obtain⟨cs,rfl,hsz⟩:=okWide_struct Tryz.underlying24 hv;have hsz6:cs.toList.length=3:=by rw[Array.length_toList,hsz];kernel_rfl
 obtain⟨p,a,c,h1,h2,h3⟩:=Kg hsz6 (Cells.of_trod h);refine⟨a,c,p,?_,h2,h3⟩;have:cs=cs.toList.toArray:=by simp
 rw[this,h1]
end
end Go.Proofs.YtijnbalgnhigbaaGreatDoor
