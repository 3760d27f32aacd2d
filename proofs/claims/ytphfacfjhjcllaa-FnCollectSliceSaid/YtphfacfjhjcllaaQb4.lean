/- The range coder: the reference's put. | The range decoder of the reference: its memory. | The range decoder of the reference: next, get: they keep their memory well formed. | The range decoder of the reference: how it is opened. | The numbers of a slice, read: the reference's l10Get, SignedValue. | append(dst, src...) onto a row of the call's own, whatever the source. | The decisions for a number. | The decisions for a number: the reference. | The runs in a block of levels: a range over a function; how many levels are not zero. | The scan order and the runs: the reference. -/
import Derived.Test.YtphfacfjhjcllaaQb3
import Derived.LoopIn
import Derived.RegionTactic
set_option linter.unusedVariables false
set_option linter.unusedSimpArgs false
set_option maxRecDepth 100000
set_option maxHeartbeats 16000000
namespace Go.Proofs.Ytphfacfjhjcllaa
open Go.RowKit
theorem CM.formc {w:World} {H O:Nat} {c:Ac} {vo vc:Value} (h:CM w H O c vo vc):∃ g cap,vc= .slice (some ⟨g,0,none⟩) 40 cap∧40≤cap∧cap≤maxLen∧H≤g:=by
 rcases h.rc.2 with⟨rfl,h0⟩|⟨g,cap,cur,rfl,p0,-,p2,p3,-⟩
 ·omega
 ·exact⟨g,cap,rfl,p2,p3,p0⟩
theorem CM.cellC {w:World} {H O g n cap:Nat} {c:Ac} {vo:Value} (h:CM w H O c vo (.slice (some ⟨g,0,none⟩) n cap)) {i p:Nat} (hv:c.ch[i]?=some p):w.cell? ⟨g,i,none⟩=some (.int .i64 (p:Int)):=by
 have:=h.rc.cells (g:=g) rfl i (.int .i64 (p:Int)) (by simp[ch64,hv])
 by_cases h0:i=0 <;> simpa [Addr.add,h0] using this
theorem CM.chs {w:World} {H O g cap:Nat} {c:Ac} {vo:Value} (h:CM w H O c vo (.slice (some ⟨g,0,none⟩) 40 cap)) (x v:Nat):CM (w.setCell ⟨g,x,none⟩ (.int .i64 (v:Int))) H O ⟨c.low,c.span,c.out,c.ch.set x v⟩ vo (.slice (some ⟨g,0,none⟩) 40 cap):=by
 have h1:=h.cO;have h2:=owns_neE h.rc h.ro (by decide);refine⟨blk_set_other h.bk (fun e=>h1 (by rw[e];rfl)),?_,?_,h.hO,by simpa using h.hs⟩
 ·refine ownsRow_setCell_other h.ro ?_ _;rcases h2 with h2|h2
  ·cases h2
  ·exact fun e=>h2 (by rw[e];rfl)
 ·have o2:=(h.rc.stored x (.int .i64 (v:Int))).1;unfold ch64 at *;rw[←List.map_set]at o2
  simpa using o2
theorem getD_some {l:List Nat} {x:Nat} (h:x<l.length):l[x]?=some (l.getD x 0):=by
 rw[List.getD,List.getElem?_eq_getElem h];rfl
def spanOf (w:World) (O:Nat):Nat:=match w.cell? ⟨O,1,none⟩with
 | some (.int _ x)=>x.toNat
 | _=>0
theorem CM.span {w:World} {H O:Nat} {c:Ac} {vo vc:Value} (h:CM w H O c vo vc):spanOf w O=c.span:=by
 obtain⟨bl,⟨k0,k1,k2,k3⟩,-⟩:=bx4 h.bk;simp[spanOf,k1]
/-- What the loop behind a decision keeps. -/
def NI (w wr:World) (H O N:Nat) (t:Ac) (vc:Value):Prop :=
 ∃(k:Nat) (c:Ac) (vo:Value),k≤3∧CM wr H O c vo vc∧Below H w wr∧Ac.norm k c=t∧c.inv c.span∧1≤c.span∧c.span<4294967296∧16777216≤c.span*256^k∧c.out.length+k≤N
theorem Ac.norm_done {c:Ac} (k:Nat) (h:16777216≤c.span):Ac.norm k c=c:=by
 cases k with
 | zero=>rfl
 | succ k=>unfold Ac.norm;rw[if_neg (by omega)]
theorem CM.cneB {w:World} {H O g n cap B:Nat} {c:Ac} {vo:Value} {arr:Array Value} (h:CM w H O c vo (.slice (some ⟨g,0,none⟩) n cap)) (hb:w.heap[B]?=some (.cells arr 97 (0,0))):some B≠some g:=by
 intro e;obtain rfl:B=g:=by simpa using e
 rcases h.rc.2 with⟨h0,-⟩|⟨g',cap',cur,h0,-,p1,-⟩
 ·cases h0
 ·cases h0;rw[hb]at p1;simp at p1
theorem spec_put_any (w:World) (H O x bit:Nat) (c:Ac) (vo vc:Value) (h:CM w H O c vo vc) (hg:c.good) (hn:c.out.length≤900000) (hx:x<40) (hbit:bit≤1) :
 Calls Try.prog 56 #[.pointer (some ⟨O,0,none⟩),.agg #[.int .i64 (x:Int),.int .i64 (bit:Int)]] w fun e w'=>e= .returned (.tuple #[])∧(∃ vo',CM w' H O (c.put (x,bit)) vo' vc)∧Below H w w':=by
 have hok:=Ac.upd_inv hg.1 hg.2.2.2 hg.2.1 hg.2.2.1 (bit:=bit) hx;have hbd:=Ac.bnd_rng hg.2.2.2 hg.2.1 hg.2.2.1 hx;have hlow:=hg.1.2.1;have hsp1:=hg.2.1;have hsp2:=hg.2.2.1;have hlen:=hg.2.2.2.1;obtain⟨gc,cc,rfl,hcc1,hcc2,hgc⟩:=h.formc;have Hok:=Lib.hid hok;obtain⟨tg,htg⟩:∃ t,t=c.put (x,bit):=⟨_,rfl⟩;rw[←htg];have Htg:=Lib.hid htg;clear hok hg htg;obtain⟨L,S0,out,ch⟩:=c;simp only at hlow hsp1 hsp2 hlen hn;obtain⟨bn,hbn0⟩:∃ q,q=(⟨L,S0,out,ch⟩:Ac).bnd x:=⟨_,rfl⟩;rw[←hbn0]at hbd;obtain⟨p,hp0⟩:∃ q,q=ch.getD x 0:=⟨_,rfl⟩;have Hp0:=Lib.hid hp0;have hp:ch[x]?=some p:=by rw[hp0];exact getD_some (by omega)
 have hset:ch.set x p=ch:=by
  obtain⟨hlt,hge⟩:=List.getElem?_eq_some_iff.1 hp;rw[←hge];exact List.set_getElem_self hlt
 simp only at hbd;rw[←hp0]at hbd;obtain⟨hb1,hb2,hq1,hq2,hp1,hp2⟩:=hbd;have hbn:(bn:Int)=(S0:Int)/4096*p:=by
  rw[hbn0];show((S0/4096*ch.getD x 0:Nat):Int)=_;rw[←hp0];simp
 have Hbn:=Lib.hid hbn0;have HBn:=Lib.hid hbn;have Hp:=Lib.hid hp;have Hset:=Lib.hid hset;clear hbn0 hbn hp hset hp0;go_enter Try.func56,Try.ntmps56
 go_upto_region 1 with fail
 have hC:=h.ext (Ext.alloc w (.cells #[.int .i64 (x:Int),.int .i64 (bit:Int)] 97));have hb0:=blk_new w (.cells #[.int .i64 (x:Int),.int .i64 (bit:Int)] 97);have hBl:=(Below.refl H w).alloc h.hs (.cells #[.int .i64 (x:Int),.int .i64 (bit:Int)] 97);have hBO:O≠w.heap.size:=by have:=lt_of_block h.bk;omega
 generalize w.alloc (.cells #[.int .i64 (x:Int),.int .i64 (bit:Int)] 97)=w1 at *;obtain⟨B,hB0⟩:∃ B,B=w.heap.size:=⟨_,rfl⟩;rw[←hB0]at hb0 hBO⊢;clear hB0;refine wp_region_inv2 (by kernel_rfl) [(4,14),(5,0),(6,1),(7,2),(8,3),(9,4),(10,5),(11,6),(12,7),(13,8),(14,9),(15,10),(16,11),(17,12),(18,13)] [[],[0],[0,1],[0,1,2],[0,1,2,3],[],[5],[5,6],[5,6,7],[],[9],[5,6,7,8,9,10],[5,6,7,8,9,10,11],[0,1,2,3,4,5,6,7,8,9,10,11,12],[0,1,2,3,4,5,6,7,8,9,10,11,12,13]] (fun i own ys wx=>match i with|0=>own= .pointer (some ⟨O,0,none⟩)|1=>own= .pointer (some ⟨O,0,none⟩)|2=>own= .pointer (some ⟨O,1,none⟩)|3=>own= .int .i64 (S0:Int)|4=>own= .int .i64 ((S0:Int)/4096)|5=>own= .pointer (some ⟨O,0,none⟩)|6=>own= .pointer (some ⟨O,0,none⟩)|7=>own= .pointer (some ⟨O,3,none⟩)|8=>own= .slice (some ⟨gc,0,none⟩) 40 cc|9=>own= .pointer (some ⟨B,0,none⟩)|10=>own= .int .i64 (x:Int)|11=>own= .pointer (some ⟨gc,x,none⟩)|12=>own= .int .i64 (p:Int)|13=>own= .int .i64 (bn:Int)|14=>own= .int .i64 (bn:Int)|_=>True) (fun kx wx=>CM wx H O ⟨L,S0,out,ch⟩ vo (.slice (some ⟨gc,0,none⟩) 40 cc)∧wx.heap[B]?=some (.cells #[.int .i64 (x:Int),.int .i64 (bit:Int)] 97 (0,0))∧Below H w wx) (by kernel_rfl) (by kernel_rfl) (by kernel_rfl) ?g0_r1 ?gop_r1 ?gend_r1
 case g0_r1=>exact⟨hC.ext (Ext.drewN _ 1),(Ext.drewN _ 1).blk hb0,hBl.drew⟩
 case gop_r1 =>
  refine⟨?_,?o1,?o2,?o3,?o4,?_,?o6,?o7,?o8,?_,?o10,?o11,?o12,?o13,?o14,trivial⟩ <;> (intro kx xs wx hk hG hD hI Qo Kx hK hQo;simp only[patchS,Nat.reduceAdd,Nat.reduceEqDiff,↓reduceIte]at hQo⊢)
  case o1 =>
   rw[ddq (hD 0 rfl)]at hQo⊢;clear hD hI;go_wp2;exact hK.out _ _ ⟨rfl,hG,kkp⟩
  case o2 =>
   rw[ddq (hD 1 rfl)]at hQo⊢;clear hD hI;go_wp2;exact hK.out _ _ ⟨rfl,hG,kkp⟩
  case o3 =>
   rw[ddq (hD 2 rfl)]at hQo⊢;clear hD hI;obtain⟨-,⟨k0,k1,k2,k3⟩,-⟩:=bx4 hG.1.bk;go_wp2;exact hK.out _ _ ⟨rfl,hG,kkp⟩
  case o4 =>
   rw[ddq (hD 3 rfl)]at hQo⊢;clear hD hI;go_wp2;exact hK.out _ _ ⟨rfl,hG,kkp⟩
  case o6 =>
   rw[ddq (hD 5 rfl)]at hQo⊢;clear hD hI;go_wp2;exact hK.out _ _ ⟨rfl,hG,kkp⟩
  case o7 =>
   rw[ddq (hD 6 rfl)]at hQo⊢;clear hD hI;go_wp2;exact hK.out _ _ ⟨rfl,hG,kkp⟩
  case o8 =>
   rw[ddq (hD 7 rfl)]at hQo⊢;clear hD hI;obtain⟨-,⟨k0,k1,k2,k3⟩,-⟩:=bx4 hG.1.bk;go_wp2;exact hK.out _ _ ⟨rfl,hG,kkp⟩
  case o10 =>
   rw[ddq (hD 9 rfl)]at hQo⊢;clear hD hI;obtain⟨-,k0,k1,-⟩:=bx2 hG.2.1;go_wp2;exact hK.out _ _ ⟨rfl,hG,kkp⟩
  case o11 =>
   rw[ddq (hD 8 rfl),ddq (hD 10 rfl)]at hQo⊢;clear hD hI;go_wp2;exact hK.out _ _ ⟨rfl,hG,kkp⟩
  case o12 =>
   rw[ddq (hD 11 rfl)]at hQo⊢;clear hD hI;have k0:=hG.1.cellC Hp.out;go_wp2;exact hK.out _ _ ⟨rfl,hG,kkp⟩
  case o13 =>
   rw[ddq (hD 4 rfl),ddq (hD 12 rfl)]at hQo⊢;clear hD hI;go_wp2;exact hK.out _ _ ⟨by rw[←HBn.out];first|rfl|(congr 1;exact IntWalk.wrap64_in _ (by omega)),hG,fun _ _ _ _ _ _ h=>h⟩
  case o14 =>
   rw[ddq (hD 13 rfl)]at hQo⊢;clear hD hI;go_wp2;exact hK.out _ _ ⟨rfl,hG,kkp⟩
  all_goals
   clear hD hI;go_wp2;exact hK.out _ _ ⟨rfl,hG,kkp⟩
 intro xs wx hV hG;have d14:_=_:=hV 14 (by decide);clear hV;simp only[patchS,Nat.reduceAdd,Nat.reduceEqDiff,↓reduceIte];generalize xs 0=y0,xs 1=y1,xs 2=y2,xs 3=y3,xs 4=y4,xs 5=y5,xs 6=y6,xs 7=y7,xs 8=y8,xs 9=y9,xs 10=y10,xs 11=y11,xs 12=y12,xs 13=y13,xs 14=y14 at *
 replace hG:CM wx H O ⟨L,S0,out,ch⟩ vo (.slice (some ⟨gc,0,none⟩) 40 cc)∧wx.heap[B]?=some (.cells #[.int .i64 (x:Int),.int .i64 (bit:Int)] 97 (0,0))∧Below H w wx:=hG
 subst d14;obtain⟨hC2,hb2',hB2⟩:=hG;clear hC hb0 hBl;have hBw:B≠O:=fun e=>hBO e.symm
 obtain⟨bl,⟨k0,k1,k2,k3⟩,f0,f1,f2,f3⟩:=bx4 hC2.bk;simp only at k0 k1;obtain⟨-,j0,j1,-⟩:=bx2 hb2';have HC2:=Lib.hid hC2;have Hb2:=Lib.hid hb2';clear hC2 hb2' h
 by_cases h0:bit=0
 ·have hd:decide ((bit:Int)=0)=true:=by simp;omega
  go_upto_region 6 with fail
  have hC:=HC2.out.spn bn;have hb0:=blk_set_other (i:=1) (v := .int .i64 (bn:Int)) Hb2.out hBw;have hBl:=hB2.setCell (p:=⟨O,1,none⟩) HC2.out.hO (.int .i64 (bn:Int));clear bl k0 k1 k2 k3 f0 f1 f2 f3 j0 j1 HC2 Hb2 hB2 hd;have H0:=Lib.hid h0;clear h0;generalize World.setCell _ _ _=w3 at *;obtain⟨L2,hL2⟩:∃ q,q=L:=⟨_,rfl⟩;obtain⟨S2,hS2⟩:∃ q,q=bn:=⟨_,rfl⟩;rw[←hL2,←hS2]at hC;have HL2:=Lib.hid hL2;have HS2:=Lib.hid hS2;clear hL2 hS2;refine wp_region_invL (by kernel_rfl) [(44,0),(45,1),(46,2),(47,3),(48,4),(49,5),(50,6),(51,7),(52,8),(53,9),(54,10),(55,11),(56,12),(57,13),(58,14),(59,15),(60,16),(61,17)] [[],[0],[0,1],[0,1,2],[],[4],[],[6],[6,7],[6,7,8],[],[10],[6,7,8,9,10,11],[6,7,8,9,10,11,12],[],[14],[6,7,8,9,10,11,12,13,14,15],[0,1,2,3,4,5,6,7,8,9,10,11,12,13,14,15,16],[0,1,2,3,4,5,6,7,8,9,10,11,12,13,14,15,16,17]] (fun i own ys wx=>match i with|0=>own= .pointer (some ⟨O,0,none⟩)|1=>own= .pointer (some ⟨O,0,none⟩)|2=>own= .pointer (some ⟨O,3,none⟩)|3=>own= .slice (some ⟨gc,0,none⟩) 40 cc|4=>own= .pointer (some ⟨B,0,none⟩)|5=>own= .int .i64 (x:Int)|6=>own= .pointer (some ⟨O,0,none⟩)|7=>own= .pointer (some ⟨O,0,none⟩)|8=>own= .pointer (some ⟨O,3,none⟩)|9=>own= .slice (some ⟨gc,0,none⟩) 40 cc|10=>own= .pointer (some ⟨B,0,none⟩)|11=>own= .int .i64 (x:Int)|12=>own= .pointer (some ⟨gc,x,none⟩)|13=>own= .int .i64 (p:Int)|14=>own= .pointer (some ⟨B,1,none⟩)|15=>own= .int .i64 (bit:Int)|16=>own= .int .i64 (nch p bit:Nat)|17=>own= .pointer (some ⟨gc,x,none⟩)|18=>∃ _z:Nat,CM wx H O ⟨L2,S2,out,ch.set x (nch p bit)⟩ vo (.slice (some ⟨gc,0,none⟩) 40 cc)|_=>True) (fun Lx wx=>(∃ q:Nat,CM wx H O ⟨L2,S2,out,ch.set x q⟩ vo (.slice (some ⟨gc,0,none⟩) 40 cc)∧(Lx 18=false→q=p))∧wx.heap[B]?=some (.cells #[.int .i64 (x:Int),.int .i64 (bit:Int)] 97 (0,0))∧Below H w wx) (by kernel_rfl) (by kernel_rfl) (by kernel_rfl) ?g0_r2 ?gop_r2 ?gend_r2
  case g0_r2=>exact⟨⟨p,by rw[Hset.out];exact hC.ext (Ext.drewN _ 1),fun _=>rfl⟩,(Ext.drewN _ 1).blk hb0,hBl.drew⟩
  case gop_r2 =>
   refine⟨?_,?o1,?o2,?o3,?_,?o5,?_,?o7,?o8,?o9,?_,?o11,?o12,?o13,?_,?o15,?o16,?o17,?o18,trivial⟩ <;> (intro Lx xs wx hG hl ha hb hD hI Qo Kx hK hQo;simp only[patchS,Nat.reduceAdd,Nat.reduceEqDiff,↓reduceIte]at hQo⊢)
   case o1 =>
    clear hl ha hb;rw[ddq (hD 0 rfl)]at hQo⊢;clear hD hI;go_wp2;exact hK.out _ _ ⟨rfl,hG,kkp⟩
   case o2 =>
    clear hl ha hb;rw[ddq (hD 1 rfl)]at hQo⊢;clear hD hI;go_wp2;exact hK.out _ _ ⟨rfl,hG,kkp⟩
   case o3 =>
    clear hl ha hb;rw[ddq (hD 2 rfl)]at hQo⊢;clear hD hI;obtain⟨q,g1,g2⟩:=hG.1;obtain⟨-,⟨k0,k1,k2,k3⟩,-⟩:=bx4 g1.bk;go_wp2;exact hK.out _ _ ⟨rfl,hG,kkp⟩
   case o5 =>
    clear hl ha hb;rw[ddq (hD 4 rfl)]at hQo⊢;clear hD hI;obtain⟨-,k0,k1,-⟩:=bx2 hG.2.1;go_wp2;exact hK.out _ _ ⟨rfl,hG,kkp⟩
   case o7 =>
    clear hl ha hb;rw[ddq (hD 6 rfl)]at hQo⊢;clear hD hI;go_wp2;exact hK.out _ _ ⟨rfl,hG,kkp⟩
   case o8 =>
    clear hl ha hb;rw[ddq (hD 7 rfl)]at hQo⊢;clear hD hI;go_wp2;exact hK.out _ _ ⟨rfl,hG,kkp⟩
   case o9 =>
    clear hl ha hb;rw[ddq (hD 8 rfl)]at hQo⊢;clear hD hI;obtain⟨q,g1,g2⟩:=hG.1;obtain⟨-,⟨k0,k1,k2,k3⟩,-⟩:=bx4 g1.bk;go_wp2;exact hK.out _ _ ⟨rfl,hG,kkp⟩
   case o11 =>
    clear hl ha hb;rw[ddq (hD 10 rfl)]at hQo⊢;clear hD hI;obtain⟨-,k0,k1,-⟩:=bx2 hG.2.1;go_wp2;exact hK.out _ _ ⟨rfl,hG,kkp⟩
   case o12 =>
    clear hl ha hb;rw[ddq (hD 9 rfl),ddq (hD 11 rfl)]at hQo⊢;clear hD hI;go_wp2;exact hK.out _ _ ⟨rfl,hG,kkp⟩
   case o13 =>
    have l18:Lx 18=false:=hb 18 rfl;clear hl ha hb;rw[ddq (hD 12 rfl)]at hQo⊢;clear hD hI;obtain⟨q,g1,g2⟩:=hG.1;obtain rfl:=g2 l18;rw[Hset.out]at g1;have k0:=g1.cellC Hp.out;go_wp2;exact hK.out _ _ ⟨rfl,hG,kkp⟩
   case o15 =>
    clear hl ha hb;rw[ddq (hD 14 rfl)]at hQo⊢;clear hD hI;obtain⟨-,k0,k1,-⟩:=bx2 hG.2.1;go_wp2;exact hK.out _ _ ⟨rfl,hG,kkp⟩
   case o16 =>
    clear hl ha hb;rw[ddq (hD 13 rfl),ddq (hD 15 rfl)]at hQo⊢;clear hD hI;go_wp2_with fail
    refine(spec_NextChance_in p bit _ hp1 hp2 hbit).mono ?_
    rintro e wz ⟨rfl,rfl⟩
    go_wp2;exact hK.out _ _ ⟨rfl,hG,kkp⟩
   case o17 =>
    clear hl ha hb;rw[ddq (hD 3 rfl),ddq (hD 5 rfl)]at hQo⊢;clear hD hI;go_wp2;exact hK.out _ _ ⟨rfl,hG,kkp⟩
   case o18 =>
    clear hl ha hb;rw[ddq (hD 16 rfl),ddq (hD 17 rfl)]at hQo⊢;clear hD hI;obtain⟨q,g1,g2⟩:=hG.1;have f0:=g1.rc.frozenAt x;have k0:=g1.cellC (i:=x) (p:=q) (by rw[List.getElem?_set_self (by omega)]);go_wp2;have hst:∀(wy:World),True→Stbn 19 18 [[],[0],[0,1],[0,1,2],[],[4],[],[6],[6,7],[6,7,8],[],[10],[6,7,8,9,10,11],[6,7,8,9,10,11,12],[],[14],[6,7,8,9,10,11,12,13,14,15],[0,1,2,3,4,5,6,7,8,9,10,11,12,13,14,15,16],[0,1,2,3,4,5,6,7,8,9,10,11,12,13,14,15,16,17]] (fun i own ys wx=>match i with|0=>own= .pointer (some ⟨O,0,none⟩)|1=>own= .pointer (some ⟨O,0,none⟩)|2=>own= .pointer (some ⟨O,3,none⟩)|3=>own= .slice (some ⟨gc,0,none⟩) 40 cc|4=>own= .pointer (some ⟨B,0,none⟩)|5=>own= .int .i64 (x:Int)|6=>own= .pointer (some ⟨O,0,none⟩)|7=>own= .pointer (some ⟨O,0,none⟩)|8=>own= .pointer (some ⟨O,3,none⟩)|9=>own= .slice (some ⟨gc,0,none⟩) 40 cc|10=>own= .pointer (some ⟨B,0,none⟩)|11=>own= .int .i64 (x:Int)|12=>own= .pointer (some ⟨gc,x,none⟩)|13=>own= .int .i64 (p:Int)|14=>own= .pointer (some ⟨B,1,none⟩)|15=>own= .int .i64 (bit:Int)|16=>own= .int .i64 (nch p bit:Nat)|17=>own= .pointer (some ⟨gc,x,none⟩)|18=>∃ _z:Nat,CM wx H O ⟨L2,S2,out,ch.set x (nch p bit)⟩ vo (.slice (some ⟨gc,0,none⟩) 40 cc)|_=>True) wx wy:=by
     intro wy hy ii hii hne hc own ys h
     match ii,h with
     | 0,h|1,h|2,h|3,h|4,h|5,h|6,h|7,h|8,h|9,h|10,h|11,h|12,h|13,h|14,h|15,h|16,h|17,h=>exact h
     | 18,h=>exact absurd rfl hne
     | _+19,_=>trivial
    have hf:=g1.chs x (nch p bit);simp only[List.set_set]at hf;have hBg:B≠gc:=fun e=>g1.cneB hG.2.1 (by rw[e])
    exact hQo undef _ (hK.out _ _ ⟨⟨0,hf⟩,⟨⟨_,hf,fun h=>by cases h⟩,blk_set_other hG.2.1 hBg,hG.2.2.setCell hgc _⟩,hst _ trivial⟩)
   all_goals
    clear hl ha hb hD hI;go_wp2;exact hK.out _ _ ⟨rfl,hG,kkp⟩
  intro xs wx hV hG0;obtain⟨Lx,hL,hG⟩:=hG0;have l18:Lx 18=true:=hL 18 (by decide);clear hL;have d18:∃ _z:Nat,CM wx H O ⟨L2,S2,out,ch.set x (nch p bit)⟩ vo (.slice (some ⟨gc,0,none⟩) 40 cc):=hV 18 (by decide);clear hV;simp only[patchS,Nat.reduceAdd,Nat.reduceEqDiff,↓reduceIte];generalize xs 0=y0,xs 1=y1,xs 2=y2,xs 3=y3,xs 4=y4,xs 5=y5,xs 6=y6,xs 7=y7,xs 8=y8,xs 9=y9,xs 10=y10,xs 11=y11,xs 12=y12,xs 13=y13,xs 14=y14,xs 15=y15,xs 16=y16,xs 17=y17,xs 18=y18 at *
  replace hG:(∃ q:Nat,CM wx H O ⟨L2,S2,out,ch.set x q⟩ vo (.slice (some ⟨gc,0,none⟩) 40 cc)∧(Lx 18=false→q=p))∧wx.heap[B]?=some (.cells #[.int .i64 (x:Int),.int .i64 (bit:Int)] 97 (0,0))∧Below H w wx:=hG
  obtain⟨_,c18⟩:=d18;have hu:(⟨L,S0,out,ch⟩:Ac).upd x bit=⟨L2,S2,out,ch.set x (nch p bit)⟩:=by
   unfold Ac.upd;rw[if_pos H0.out,←Hbn.out];simp only;rw[←Hp0.out,←HS2.out,←HL2.out]
  have hok:=Hok.out;rw[hu]at hok;have hN0:NI w wx H O (out.length+3) tg (.slice (some ⟨gc,0,none⟩) 40 cc):=by
   refine⟨3,_,vo,Nat.le_refl _,c18,hG.2.2,?_,hok.1,hok.2.1,hok.2.2,?_,Nat.le_refl _⟩
   ·rw[Htg.out,←hu];rfl
   ·have:=hok.2.1;simp only at this;show 16777216≤S2*256^3;omega
  have hn3:out.length+3≤900003:=by omega
  clear hlow hsp1 hsp2 hlen hn hok hu c18 hG hC hb0 hBl hp1 hp2 hb1 hb2 hq1 hq2 hcc1 hcc2;try clear Hok Htg Hbn Hp0
  obtain⟨vc,hvc⟩:∃ v,v=Value.slice (some ⟨gc,0,none⟩) 40 cc:=⟨_,rfl⟩;rw[←hvc]at hN0;have Hvc:=Lib.hid hvc;clear hvc;go_wp2_with fail
  go_loopw [] (fun wr=>NI w wr H O (out.length+3) tg vc) (fun wr=>4294967296-spanOf wr O)
  case atStart=>exact hN0
  case round =>
   obtain⟨k,c1,vo1,hk,hC,hB,hno,hi1,hi2,hi3,hi4,hi5⟩:=hrel;clear hN0;have hsp:=hC.span;obtain⟨bl,⟨k0,k1,k2,k3⟩,f0,f1,f2,f3⟩:=bx4 hC.bk
   by_cases hlt:c1.span<16777216
   ·obtain⟨q,rfl⟩:∃ q,k=q+1:=by
     cases k with
     | zero=>simp at hi4;omega
     | succ q=>exact⟨q,rfl⟩
    have hsh:=Lib.hid (spec_shift_any wr H O c1.span c1 vo1 vc hC hi1 hi2 (by omega));have hwi:=Lib.hid (Ac.wide_inv hi1 hi2 hlt);have hno2:Ac.norm q c1.wide=tg:=by rw[←hno];show _=if c1.span<16777216 then _ else _;rw[if_pos hlt]
    have hwo:c1.wide.out.length=c1.out.length+1:=by show(c1.car ++ [_]).length=_;rw[List.length_append,Ac.car_len];rfl
    have hws:c1.wide.span=c1.span*256:=rfl;have hpw:16777216≤c1.wide.span*256^q:=by rw[hws];rw[Nat.pow_succ]at hi4;rw[Nat.mul_assoc,Nat.mul_comm 256];exact hi4
    have Hrest:=Lib.hid (⟨hno2,hwo,hpw,hi4,hno⟩:_∧_∧_∧_∧_);have hcs:c1.shift.span=c1.span:=rfl;obtain⟨S1,hS1⟩:∃ S1,S1=c1.span:=⟨_,rfl⟩;rw[←hS1]at hlt hi2 hi3 k1 hsp hcs;have HS1:=Lib.hid hS1;have hdl:decide ((S1:Int)<16777216)=true:=by simp;omega
    have hS1i:1≤(S1:Int):=by omega
    have hS2i:(S1:Int)<16777216:=by omega
    have Hi:=Lib.hid (⟨hi2,hi3,hlt,hi5,hk⟩:_∧_∧_∧_∧_);clear hi2 hi3 hlt hi5 hk hn3 hno2 hwo hpw hi4 hno hws hi1 hC hS1;go_wp2_with fail
    refine hsh.out.mono ?_
    rintro e w4 ⟨rfl,⟨vo2,hC4⟩,hB4⟩
    obtain⟨c4,hc4⟩:∃ c4,c4=c1.shift:=⟨_,rfl⟩;rw[←hc4]at hC4 hcs;have Hc4:=Lib.hid hc4;clear hc4 bl k0 k1 k2 k3 f0 f1 f2 f3;obtain⟨bl,⟨k0,k1,k2,k3⟩,f0,f1,f2,f3⟩:=bx4 hC4.bk;rw[hcs]at k1;have HC4:=Lib.hid hC4;have HB4:=Lib.hid (hB.trans hB4);clear hC4 hB4 hB;go_wp2;go_roundw
    case rel =>
     obtain⟨r1,r2,r3,-,-⟩:=Hrest.out;obtain⟨hi2,hi3,hlt,hi5,hk⟩:=Hi.out;have hC5:=HC4.out.spn (S1*256);rw[show((S1*256:Nat):Int)=(S1:Int)*256 by omega]at hC5;refine⟨q,c1.wide,vo2,by omega,?_,HB4.out.setCell HC4.out.hO _,r1,hwi.out,?_,?_,r3,by omega⟩
     ·have:(⟨c4.low,S1*256,c4.out,c4.ch⟩:Ac)=c1.wide:=by rw[Hc4.out,HS1.out];rfl
      rw[←this];exact hC5
     ·show 1≤c1.span*256;have:=HS1.out;omega
     ·show c1.span*256<_;have:=HS1.out;omega
    case measure =>
     have hC5:=HC4.out.spn (S1*256);rw[show((S1*256:Nat):Int)=(S1:Int)*256 by omega]at hC5;have h5:=hC5.span;simp only at h5;have:=Hi.out.1;have:=Hi.out.2.2.1;rw[h5,hsp];omega
   ·have HC:=Lib.hid hC;have hd:Ac.norm k c1=c1:=Ac.norm_done k (by omega);rw[hd]at hno;subst hno;have hdl:decide ((c1.span:Int)<16777216)=false:=by simp;omega
    clear hC hi1 hd hi2 hi3 hi4 hi5 hlt hn3;go_wp2;refine bodyPost_end (results_none rfl _ _ _) rfl ?_;exact⟨rfl,⟨vo1,by rw[←Hvc.out];exact HC.out⟩,hB⟩
 ·have hd:decide ((bit:Int)=0)=false:=by simp;omega
  go_upto_region 5 with fail
  have hC:=HC2.out.low (L+bn);rw[show((L+bn:Nat):Int)=(L:Int)+bn by omega]at hC;have hb0:=blk_set_other (i:=0) (v := .int .i64 ((L:Int)+bn)) Hb2.out hBw;have hBl:=hB2.setCell (p:=⟨O,0,none⟩) HC2.out.hO (.int .i64 ((L:Int)+bn));clear bl k0 k1 k2 k3 f0 f1 f2 f3 j0 j1 HC2 Hb2 hB2 hd;generalize World.setCell _ _ _=w3 at *;obtain⟨bl,⟨k0,k1,k2,k3⟩,f0,f1,f2,f3⟩:=bx4 hC.bk;simp only at k0 k1;have HC2:=Lib.hid hC;have Hb2:=Lib.hid hb0;have hB2:=hBl;clear hC hb0 hBl;go_upto_region 6 with fail
  have hC:=HC2.out.spn (S0-bn);simp only at hC;rw[show((S0-bn:Nat):Int)=(S0:Int)-bn by omega]at hC;have hb0:=blk_set_other (i:=1) (v := .int .i64 ((S0:Int)-bn)) Hb2.out hBw;have hBl:=hB2.setCell (p:=⟨O,1,none⟩) HC2.out.hO (.int .i64 ((S0:Int)-bn));clear bl k0 k1 k2 k3 f0 f1 f2 f3 HC2 Hb2 hB2;have H0:=Lib.hid h0;clear h0;generalize World.setCell _ _ _=w4 at *;generalize ((bit:Int) == 0)=bb;obtain⟨L2,hL2⟩:∃ q,q=L+bn:=⟨_,rfl⟩;obtain⟨S2,hS2⟩:∃ q,q=S0-bn:=⟨_,rfl⟩;rw[←hL2,←hS2]at hC;have HL2:=Lib.hid hL2;have HS2:=Lib.hid hS2;clear hL2 hS2;refine wp_region_invL (by kernel_rfl) [(44,0),(45,1),(46,2),(47,3),(48,4),(49,5),(50,6),(51,7),(52,8),(53,9),(54,10),(55,11),(56,12),(57,13),(58,14),(59,15),(60,16),(61,17)] [[],[0],[0,1],[0,1,2],[],[4],[],[6],[6,7],[6,7,8],[],[10],[6,7,8,9,10,11],[6,7,8,9,10,11,12],[],[14],[6,7,8,9,10,11,12,13,14,15],[0,1,2,3,4,5,6,7,8,9,10,11,12,13,14,15,16],[0,1,2,3,4,5,6,7,8,9,10,11,12,13,14,15,16,17]] (fun i own ys wx=>match i with|0=>own= .pointer (some ⟨O,0,none⟩)|1=>own= .pointer (some ⟨O,0,none⟩)|2=>own= .pointer (some ⟨O,3,none⟩)|3=>own= .slice (some ⟨gc,0,none⟩) 40 cc|4=>own= .pointer (some ⟨B,0,none⟩)|5=>own= .int .i64 (x:Int)|6=>own= .pointer (some ⟨O,0,none⟩)|7=>own= .pointer (some ⟨O,0,none⟩)|8=>own= .pointer (some ⟨O,3,none⟩)|9=>own= .slice (some ⟨gc,0,none⟩) 40 cc|10=>own= .pointer (some ⟨B,0,none⟩)|11=>own= .int .i64 (x:Int)|12=>own= .pointer (some ⟨gc,x,none⟩)|13=>own= .int .i64 (p:Int)|14=>own= .pointer (some ⟨B,1,none⟩)|15=>own= .int .i64 (bit:Int)|16=>own= .int .i64 (nch p bit:Nat)|17=>own= .pointer (some ⟨gc,x,none⟩)|18=>∃ _z:Nat,CM wx H O ⟨L2,S2,out,ch.set x (nch p bit)⟩ vo (.slice (some ⟨gc,0,none⟩) 40 cc)|_=>True) (fun Lx wx=>(∃ q:Nat,CM wx H O ⟨L2,S2,out,ch.set x q⟩ vo (.slice (some ⟨gc,0,none⟩) 40 cc)∧(Lx 18=false→q=p))∧wx.heap[B]?=some (.cells #[.int .i64 (x:Int),.int .i64 (bit:Int)] 97 (0,0))∧Below H w wx) (by kernel_rfl) (by kernel_rfl) (by kernel_rfl) ?g0_r3 ?gop_r3 ?gend_r3
  case g0_r3=>exact⟨⟨p,by rw[Hset.out];exact hC.ext (Ext.drewN _ 1),fun _=>rfl⟩,(Ext.drewN _ 1).blk hb0,hBl.drew⟩
  case gop_r3 =>
   refine⟨?_,?o1,?o2,?o3,?_,?o5,?_,?o7,?o8,?o9,?_,?o11,?o12,?o13,?_,?o15,?o16,?o17,?o18,trivial⟩ <;> (intro Lx xs wx hG hl ha hb hD hI Qo Kx hK hQo;simp only[patchS,Nat.reduceAdd,Nat.reduceEqDiff,↓reduceIte]at hQo⊢)
   case o1 =>
    clear hl ha hb;rw[ddq (hD 0 rfl)]at hQo⊢;clear hD hI;go_wp2;exact hK.out _ _ ⟨rfl,hG,kkp⟩
   case o2 =>
    clear hl ha hb;rw[ddq (hD 1 rfl)]at hQo⊢;clear hD hI;go_wp2;exact hK.out _ _ ⟨rfl,hG,kkp⟩
   case o3 =>
    clear hl ha hb;rw[ddq (hD 2 rfl)]at hQo⊢;clear hD hI;obtain⟨q,g1,g2⟩:=hG.1;obtain⟨-,⟨k0,k1,k2,k3⟩,-⟩:=bx4 g1.bk;go_wp2;exact hK.out _ _ ⟨rfl,hG,kkp⟩
   case o5 =>
    clear hl ha hb;rw[ddq (hD 4 rfl)]at hQo⊢;clear hD hI;obtain⟨-,k0,k1,-⟩:=bx2 hG.2.1;go_wp2;exact hK.out _ _ ⟨rfl,hG,kkp⟩
   case o7 =>
    clear hl ha hb;rw[ddq (hD 6 rfl)]at hQo⊢;clear hD hI;go_wp2;exact hK.out _ _ ⟨rfl,hG,kkp⟩
   case o8 =>
    clear hl ha hb;rw[ddq (hD 7 rfl)]at hQo⊢;clear hD hI;go_wp2;exact hK.out _ _ ⟨rfl,hG,kkp⟩
   case o9 =>
    clear hl ha hb;rw[ddq (hD 8 rfl)]at hQo⊢;clear hD hI;obtain⟨q,g1,g2⟩:=hG.1;obtain⟨-,⟨k0,k1,k2,k3⟩,-⟩:=bx4 g1.bk;go_wp2;exact hK.out _ _ ⟨rfl,hG,kkp⟩
   case o11 =>
    clear hl ha hb;rw[ddq (hD 10 rfl)]at hQo⊢;clear hD hI;obtain⟨-,k0,k1,-⟩:=bx2 hG.2.1;go_wp2;exact hK.out _ _ ⟨rfl,hG,kkp⟩
   case o12 =>
    clear hl ha hb;rw[ddq (hD 9 rfl),ddq (hD 11 rfl)]at hQo⊢;clear hD hI;go_wp2;exact hK.out _ _ ⟨rfl,hG,kkp⟩
   case o13 =>
    have l18:Lx 18=false:=hb 18 rfl;clear hl ha hb;rw[ddq (hD 12 rfl)]at hQo⊢;clear hD hI;obtain⟨q,g1,g2⟩:=hG.1;obtain rfl:=g2 l18;rw[Hset.out]at g1;have k0:=g1.cellC Hp.out;go_wp2;exact hK.out _ _ ⟨rfl,hG,kkp⟩
   case o15 =>
    clear hl ha hb;rw[ddq (hD 14 rfl)]at hQo⊢;clear hD hI;obtain⟨-,k0,k1,-⟩:=bx2 hG.2.1;go_wp2;exact hK.out _ _ ⟨rfl,hG,kkp⟩
   case o16 =>
    clear hl ha hb;rw[ddq (hD 13 rfl),ddq (hD 15 rfl)]at hQo⊢;clear hD hI;go_wp2_with fail
    refine(spec_NextChance_in p bit _ hp1 hp2 hbit).mono ?_
    rintro e wz ⟨rfl,rfl⟩
    go_wp2;exact hK.out _ _ ⟨rfl,hG,kkp⟩
   case o17 =>
    clear hl ha hb;rw[ddq (hD 3 rfl),ddq (hD 5 rfl)]at hQo⊢;clear hD hI;go_wp2;exact hK.out _ _ ⟨rfl,hG,kkp⟩
   case o18 =>
    clear hl ha hb;rw[ddq (hD 16 rfl),ddq (hD 17 rfl)]at hQo⊢;clear hD hI;obtain⟨q,g1,g2⟩:=hG.1;have f0:=g1.rc.frozenAt x;have k0:=g1.cellC (i:=x) (p:=q) (by rw[List.getElem?_set_self (by omega)]);go_wp2;have hst:∀(wy:World),True→Stbn 19 18 [[],[0],[0,1],[0,1,2],[],[4],[],[6],[6,7],[6,7,8],[],[10],[6,7,8,9,10,11],[6,7,8,9,10,11,12],[],[14],[6,7,8,9,10,11,12,13,14,15],[0,1,2,3,4,5,6,7,8,9,10,11,12,13,14,15,16],[0,1,2,3,4,5,6,7,8,9,10,11,12,13,14,15,16,17]] (fun i own ys wx=>match i with|0=>own= .pointer (some ⟨O,0,none⟩)|1=>own= .pointer (some ⟨O,0,none⟩)|2=>own= .pointer (some ⟨O,3,none⟩)|3=>own= .slice (some ⟨gc,0,none⟩) 40 cc|4=>own= .pointer (some ⟨B,0,none⟩)|5=>own= .int .i64 (x:Int)|6=>own= .pointer (some ⟨O,0,none⟩)|7=>own= .pointer (some ⟨O,0,none⟩)|8=>own= .pointer (some ⟨O,3,none⟩)|9=>own= .slice (some ⟨gc,0,none⟩) 40 cc|10=>own= .pointer (some ⟨B,0,none⟩)|11=>own= .int .i64 (x:Int)|12=>own= .pointer (some ⟨gc,x,none⟩)|13=>own= .int .i64 (p:Int)|14=>own= .pointer (some ⟨B,1,none⟩)|15=>own= .int .i64 (bit:Int)|16=>own= .int .i64 (nch p bit:Nat)|17=>own= .pointer (some ⟨gc,x,none⟩)|18=>∃ _z:Nat,CM wx H O ⟨L2,S2,out,ch.set x (nch p bit)⟩ vo (.slice (some ⟨gc,0,none⟩) 40 cc)|_=>True) wx wy:=by
     intro wy hy ii hii hne hc own ys h
     match ii,h with
     | 0,h|1,h|2,h|3,h|4,h|5,h|6,h|7,h|8,h|9,h|10,h|11,h|12,h|13,h|14,h|15,h|16,h|17,h=>exact h
     | 18,h=>exact absurd rfl hne
     | _+19,_=>trivial
    have hf:=g1.chs x (nch p bit);simp only[List.set_set]at hf;have hBg:B≠gc:=fun e=>g1.cneB hG.2.1 (by rw[e])
    exact hQo undef _ (hK.out _ _ ⟨⟨0,hf⟩,⟨⟨_,hf,fun h=>by cases h⟩,blk_set_other hG.2.1 hBg,hG.2.2.setCell hgc _⟩,hst _ trivial⟩)
   all_goals
    clear hl ha hb hD hI;go_wp2;exact hK.out _ _ ⟨rfl,hG,kkp⟩
  intro xs wx hV hG0;obtain⟨Lx,hL,hG⟩:=hG0;have l18:Lx 18=true:=hL 18 (by decide);clear hL;have d18:∃ _z:Nat,CM wx H O ⟨L2,S2,out,ch.set x (nch p bit)⟩ vo (.slice (some ⟨gc,0,none⟩) 40 cc):=hV 18 (by decide);clear hV;simp only[patchS,Nat.reduceAdd,Nat.reduceEqDiff,↓reduceIte];generalize xs 0=y0,xs 1=y1,xs 2=y2,xs 3=y3,xs 4=y4,xs 5=y5,xs 6=y6,xs 7=y7,xs 8=y8,xs 9=y9,xs 10=y10,xs 11=y11,xs 12=y12,xs 13=y13,xs 14=y14,xs 15=y15,xs 16=y16,xs 17=y17,xs 18=y18 at *
  replace hG:(∃ q:Nat,CM wx H O ⟨L2,S2,out,ch.set x q⟩ vo (.slice (some ⟨gc,0,none⟩) 40 cc)∧(Lx 18=false→q=p))∧wx.heap[B]?=some (.cells #[.int .i64 (x:Int),.int .i64 (bit:Int)] 97 (0,0))∧Below H w wx:=hG
  obtain⟨_,c18⟩:=d18;have hu:(⟨L,S0,out,ch⟩:Ac).upd x bit=⟨L2,S2,out,ch.set x (nch p bit)⟩:=by
   unfold Ac.upd;rw[if_neg H0.out,←Hbn.out];simp only;rw[←Hp0.out,HS2.out,HL2.out]
  have hok:=Hok.out;rw[hu]at hok;have hN0:NI w wx H O (out.length+3) tg (.slice (some ⟨gc,0,none⟩) 40 cc):=by
   refine⟨3,_,vo,Nat.le_refl _,c18,hG.2.2,?_,hok.1,hok.2.1,hok.2.2,?_,Nat.le_refl _⟩
   ·rw[Htg.out,←hu];rfl
   ·have:=hok.2.1;simp only at this;show 16777216≤S2*256^3;omega
  have hn3:out.length+3≤900003:=by omega
  clear hlow hsp1 hsp2 hlen hn hok hu c18 hG hC hb0 hBl hp1 hp2 hb1 hb2 hq1 hq2 hcc1 hcc2;try clear Hok Htg Hbn Hp0
  obtain⟨vc,hvc⟩:∃ v,v=Value.slice (some ⟨gc,0,none⟩) 40 cc:=⟨_,rfl⟩;rw[←hvc]at hN0;have Hvc:=Lib.hid hvc;clear hvc;go_wp2_with fail
  go_loopw [] (fun wr=>NI w wr H O (out.length+3) tg vc) (fun wr=>4294967296-spanOf wr O)
  case atStart=>exact hN0
  case round =>
   obtain⟨k,c1,vo1,hk,hC,hB,hno,hi1,hi2,hi3,hi4,hi5⟩:=hrel;clear hN0;have hsp:=hC.span;obtain⟨bl,⟨k0,k1,k2,k3⟩,f0,f1,f2,f3⟩:=bx4 hC.bk
   by_cases hlt:c1.span<16777216
   ·obtain⟨q,rfl⟩:∃ q,k=q+1:=by
     cases k with
     | zero=>simp at hi4;omega
     | succ q=>exact⟨q,rfl⟩
    have hsh:=Lib.hid (spec_shift_any wr H O c1.span c1 vo1 vc hC hi1 hi2 (by omega));have hwi:=Lib.hid (Ac.wide_inv hi1 hi2 hlt);have hno2:Ac.norm q c1.wide=tg:=by rw[←hno];show _=if c1.span<16777216 then _ else _;rw[if_pos hlt]
    have hwo:c1.wide.out.length=c1.out.length+1:=by show(c1.car ++ [_]).length=_;rw[List.length_append,Ac.car_len];rfl
    have hws:c1.wide.span=c1.span*256:=rfl;have hpw:16777216≤c1.wide.span*256^q:=by rw[hws];rw[Nat.pow_succ]at hi4;rw[Nat.mul_assoc,Nat.mul_comm 256];exact hi4
    have Hrest:=Lib.hid (⟨hno2,hwo,hpw,hi4,hno⟩:_∧_∧_∧_∧_);have hcs:c1.shift.span=c1.span:=rfl;obtain⟨S1,hS1⟩:∃ S1,S1=c1.span:=⟨_,rfl⟩;rw[←hS1]at hlt hi2 hi3 k1 hsp hcs;have HS1:=Lib.hid hS1;have hdl:decide ((S1:Int)<16777216)=true:=by simp;omega
    have hS1i:1≤(S1:Int):=by omega
    have hS2i:(S1:Int)<16777216:=by omega
    have Hi:=Lib.hid (⟨hi2,hi3,hlt,hi5,hk⟩:_∧_∧_∧_∧_);clear hi2 hi3 hlt hi5 hk hn3 hno2 hwo hpw hi4 hno hws hi1 hC hS1;go_wp2_with fail
    refine hsh.out.mono ?_
    rintro e w4 ⟨rfl,⟨vo2,hC4⟩,hB4⟩
    obtain⟨c4,hc4⟩:∃ c4,c4=c1.shift:=⟨_,rfl⟩;rw[←hc4]at hC4 hcs;have Hc4:=Lib.hid hc4;clear hc4 bl k0 k1 k2 k3 f0 f1 f2 f3;obtain⟨bl,⟨k0,k1,k2,k3⟩,f0,f1,f2,f3⟩:=bx4 hC4.bk;rw[hcs]at k1;have HC4:=Lib.hid hC4;have HB4:=Lib.hid (hB.trans hB4);clear hC4 hB4 hB;go_wp2;go_roundw
    case rel =>
     obtain⟨r1,r2,r3,-,-⟩:=Hrest.out;obtain⟨hi2,hi3,hlt,hi5,hk⟩:=Hi.out;have hC5:=HC4.out.spn (S1*256);rw[show((S1*256:Nat):Int)=(S1:Int)*256 by omega]at hC5;refine⟨q,c1.wide,vo2,by omega,?_,HB4.out.setCell HC4.out.hO _,r1,hwi.out,?_,?_,r3,by omega⟩
     ·have:(⟨c4.low,S1*256,c4.out,c4.ch⟩:Ac)=c1.wide:=by rw[Hc4.out,HS1.out];rfl
      rw[←this];exact hC5
     ·show 1≤c1.span*256;have:=HS1.out;omega
     ·show c1.span*256<_;have:=HS1.out;omega
    case measure =>
     have hC5:=HC4.out.spn (S1*256);rw[show((S1*256:Nat):Int)=(S1:Int)*256 by omega]at hC5;have h5:=hC5.span;simp only at h5;have:=Hi.out.1;have:=Hi.out.2.2.1;rw[h5,hsp];omega
   ·have HC:=Lib.hid hC;have hd:Ac.norm k c1=c1:=Ac.norm_done k (by omega);rw[hd]at hno;subst hno;have hdl:decide ((c1.span:Int)<16777216)=false:=by simp;omega
    clear hC hi1 hd hi2 hi3 hi4 hi5 hlt hn3;go_wp2;refine bodyPost_end (results_none rfl _ _ _) rfl ?_;exact⟨rfl,⟨vo1,by rw[←Hvc.out];exact HC.out⟩,hB⟩
/-- What the decoder reads: n bytes in blocks below H. -/
def Inp (w:World) (H:Nat) (a:Option Addr) (n:Nat):Prop :=
 ∀ i,i<n→∃ b off,a=some ⟨b,off,none⟩∧b<H∧∃ z:Int,0≤z∧z≤255∧w.cell? ⟨b,off+i,none⟩=some (.int .u8 z)
theorem Inp.below {w w':World} {H:Nat} {a:Option Addr} {n:Nat} (h:Inp w H a n) (e:Below H w w'):Inp w' H a n:=fun i hi=>by
 obtain⟨b,off,h1,h2,z,z1,z2,h3⟩:=h i hi;exact⟨b,off,h1,h2,z,z1,z2,by rw[e.cell h2];exact h3⟩
/-- The decoder in memory: code, span, what it reads, where it is, its probabilities. -/
structure DM (w : World) (H O : Nat) (L S t : Nat) (ch : List Nat) (a : Option Addr) (n c : Nat) (vc : Value) : Prop where
 bk:w.heap[O]?=some (.cells #[.int .i64 (L:Int),.int .i64 (S:Int),.slice a n c,.int .i64 (t:Int),vc] 109 (0,0))
 rc:w.ownsRow H 3 1 vc 40 (ch64 ch)
 inp:Inp w H a n
 hO:H≤O
 hs:H≤w.heap.size
/-- Its numbers are in range. -/
def DG5 (L S:Nat) (ch:List Nat):Prop:=L<4294967296∧1≤S∧S<4294967296∧ch.length=40∧∀ p∈ch,1≤p∧p≤4095
theorem neD {w:World} {H O n e:Nat} {v:Value} {xs:List Value} {arr:Array Value} (h:w.ownsRow H e 1 v n xs) (hq:w.heap[O]?=some (.cells arr 109 (0,0))) (hne:e≠109):v.ownBlock≠some O:=by
 rcases own_ne_blk h hq hne with h0|h0
 ·rw[h0];exact fun h=>by cases h
 ·exact h0
theorem DM.cO {w:World} {H O L S t:Nat} {ch:List Nat} {a:Option Addr} {n c:Nat} {vc:Value} (h:DM w H O L S t ch a n c vc):vc.ownBlock≠some O:=neD h.rc h.bk (by decide)
theorem DM.ext {w w':World} {H O L S t:Nat} {ch:List Nat} {a:Option Addr} {n c:Nat} {vc:Value} (h:DM w H O L S t ch a n c vc) (e:Ext w w'):DM w' H O L S t ch a n c vc :=
 ⟨e.blk h.bk,owns_ext h.rc e,h.inp.below (Below.mono e h.hs),h.hO,Nat.le_trans h.hs e.size⟩
theorem Below.set1 {H:Nat} (w:World) {O i:Nat} (h:H≤O) (v:Value):Below H w (w.setCell ⟨O,i,none⟩ v):=(Below.refl H w).setCell (p:=⟨O,i,none⟩) h v
theorem DM.code {w:World} {H O L S t:Nat} {ch:List Nat} {a:Option Addr} {n c:Nat} {vc:Value} (h:DM w H O L S t ch a n c vc) (v:Nat):DM (w.setCell ⟨O,0,none⟩ (.int .i64 (v:Int))) H O v S t ch a n c vc:=by
 refine⟨?_,ownsRow_setCell_other h.rc h.cO _,h.inp.below (Below.set1 w h.hO _),h.hO,by simpa using h.hs⟩;have:=heap_setCell_same w O 0 _ _ (.int .i64 (v:Int)) h.bk
 simpa using this
theorem DM.spn {w:World} {H O L S t:Nat} {ch:List Nat} {a:Option Addr} {n c:Nat} {vc:Value} (h:DM w H O L S t ch a n c vc) (v:Nat):DM (w.setCell ⟨O,1,none⟩ (.int .i64 (v:Int))) H O L v t ch a n c vc:=by
 refine⟨?_,ownsRow_setCell_other h.rc h.cO _,h.inp.below (Below.set1 w h.hO _),h.hO,by simpa using h.hs⟩;have:=heap_setCell_same w O 1 _ _ (.int .i64 (v:Int)) h.bk
 simpa using this
theorem DM.at {w:World} {H O L S t:Nat} {ch:List Nat} {a:Option Addr} {n c:Nat} {vc:Value} (h:DM w H O L S t ch a n c vc) (v:Nat):DM (w.setCell ⟨O,3,none⟩ (.int .i64 (v:Int))) H O L S v ch a n c vc:=by
 refine⟨?_,ownsRow_setCell_other h.rc h.cO _,h.inp.below (Below.set1 w h.hO _),h.hO,by simpa using h.hs⟩;have:=heap_setCell_same w O 3 _ _ (.int .i64 (v:Int)) h.bk
 simpa using this
theorem DM.formc {w:World} {H O L S t:Nat} {ch:List Nat} {a:Option Addr} {n c:Nat} {vc:Value} (h:DM w H O L S t ch a n c vc):∃ g cap,vc= .slice (some ⟨g,0,none⟩) 40 cap∧40≤cap∧cap≤maxLen∧H≤g:=by
 rcases h.rc.2 with⟨rfl,h0⟩|⟨g,cap,cur,rfl,p0,-,p2,p3,-⟩
 ·omega
 ·exact⟨g,cap,rfl,p2,p3,p0⟩
theorem DM.cellC {w:World} {H O L S t g m cap:Nat} {ch:List Nat} {a:Option Addr} {n c:Nat} (h:DM w H O L S t ch a n c (.slice (some ⟨g,0,none⟩) m cap)) {i p:Nat} (hv:ch[i]?=some p):w.cell? ⟨g,i,none⟩=some (.int .i64 (p:Int)):=by
 have:=h.rc.cells (g:=g) rfl i (.int .i64 (p:Int)) (by simp[ch64,hv])
 by_cases h0:i=0 <;> simpa [Addr.add,h0] using this
theorem DM.chs {w:World} {H O L S t g cap:Nat} {ch:List Nat} {a:Option Addr} {n c:Nat} (h:DM w H O L S t ch a n c (.slice (some ⟨g,0,none⟩) 40 cap)) (x v:Nat):DM (w.setCell ⟨g,x,none⟩ (.int .i64 (v:Int))) H O L S t (ch.set x v) a n c (.slice (some ⟨g,0,none⟩) 40 cap):=by
 have h1:=h.cO;have hg:H≤g:=by
  rcases h.rc.2 with⟨h0,-⟩|⟨g',_,_,h0,p0,-⟩
  ·cases h0
  ·cases h0;exact p0
 refine⟨blk_set_other h.bk (fun e=>h1 (by rw[e];rfl)),?_,h.inp.below (Below.set1 w hg _),h.hO,by simpa using h.hs⟩;have o2:=(h.rc.stored x (.int .i64 (v:Int))).1;unfold ch64 at *;rw[←List.map_set]at o2
 simpa using o2
/-- Below H nothing changed, nor did any block that is neither the decoder nor a row of numbers. -/
def FD (H:Nat) (w w':World):Prop :=
 Below H w w'∧∀(b:Nat) (arr:Array Value) (T:TypeId) (fr:Nat×Nat),w.heap[b]?=some (.cells arr T fr)→T≠109→T≠3→w'.heap[b]?=some (.cells arr T fr)
theorem FD.refl (H:Nat) (w:World):FD H w w:=⟨Below.refl H w,fun _ _ _ _ h _ _=>h⟩
theorem FD.trans {H:Nat} {a b c:World} (h:FD H a b) (k:FD H b c):FD H a c:=⟨h.1.trans k.1,fun q arr T fr h1 h2 h3=>k.2 q arr T fr (h.2 q arr T fr h1 h2 h3) h2 h3⟩
theorem FD.ext {H:Nat} {w w':World} (e:Ext w w') (h:H≤w.heap.size):FD H w w':=⟨Below.mono e h,fun _ _ _ _ h1 _ _=>e.blk h1⟩
theorem FD.drew {H:Nat} {w w':World} (h:FD H w w'):FD H w w'.drew:=⟨h.1.drew,fun q arr T fr h1 h2 h3=>h.2 q arr T fr h1 h2 h3⟩
theorem FD.set {H:Nat} {w:World} {O i:Nat} {arr:Array Value} {T:TypeId} {v:Value} (h:w.heap[O]?=some (.cells arr T (0,0))) (hT:T=109∨T=3) (hO:H≤O):FD H w (w.setCell ⟨O,i,none⟩ v) :=
 ⟨(Below.refl H w).setCell (p:=⟨O,i,none⟩) hO v,fun q a2 T2 fr h1 h2 h3=>blk_set_other h1 (fun e=>by
  subst e;rw[h]at h1;simp only[Option.some.injEq,Obj.cells.injEq]at h1;obtain⟨-,rfl,-⟩:=h1;rcases hT with hT|hT
  ·exact h2 hT
  ·exact h3 hT)⟩
theorem FD.ib {H:Nat} {w w':World} (h:FD H w w') {b T:Nat} {zs:List Int} (i:IB w b T zs) (h1:T≠109) (h2:T≠3):IB w' b T zs:=h.2 b _ T _ i h1 h2
theorem FD.owns {H:Nat} {w w':World} (h:FD H w w') {base e size:Nat} {v:Value} {n:Nat} {xs:List Value} (o:w.ownsRow base e size v n xs) (h1:e≠109) (h2:e≠3):w'.ownsRow base e size v n xs:=by
 obtain⟨o1,o2⟩:=o;refine⟨o1,?_⟩;rcases o2 with o2|⟨g,cap,cur,hv,hg,r1,r2⟩
 ·exact .inl o2
 ·exact .inr ⟨g,cap,cur,hv,hg,h.2 g _ _ _ r1 h1 h2,r2⟩
theorem DM.chF {w:World} {H O L S t g cap:Nat} {ch:List Nat} {a:Option Addr} {n c:Nat} (h:DM w H O L S t ch a n c (.slice (some ⟨g,0,none⟩) 40 cap)) (x:Nat) (v:Value):FD H w (w.setCell ⟨g,x,none⟩ v):=by
 rcases h.rc.2 with⟨h0,-⟩|⟨g',_,_,h0,p0,p1,-⟩
 ·cases h0
 ·cases h0;exact FD.set p1 (.inr rfl) p0
theorem bx5d {w:World} {b:Nat} {x y z u v:Value} {T:TypeId} (h:w.heap[b]?=some (.cells #[x,y,z,u,v] T (0,0))):b<w.heap.size∧(w.cell? ⟨b,0,none⟩=some x∧w.cell? ⟨b,1,none⟩=some y∧w.cell? ⟨b,2,none⟩=some z∧w.cell? ⟨b,3,none⟩=some u∧w.cell? ⟨b,4,none⟩=some v)∧w.frozen? ⟨b,0,none⟩=false∧w.frozen? ⟨b,1,none⟩=false∧w.frozen? ⟨b,2,none⟩=false∧w.frozen? ⟨b,3,none⟩=false∧w.frozen? ⟨b,4,none⟩=false :=
 ⟨lt_of_block h,⟨by simp[World.cell?,h],by simp[World.cell?,h],by simp[World.cell?,h],by simp[World.cell?,h],by simp[World.cell?,h]⟩,by simp[World.frozen?,h],by simp[World.frozen?,h],by simp[World.frozen?,h],by simp[World.frozen?,h],by simp[World.frozen?,h]⟩
theorem DG5.put {L S:Nat} {ch:List Nat} (h:DG5 L S ch) {x p bit:Nat} (hp:ch[x]?=some p) (hb:bit≤1):(ch.set x (nch p bit)).length=40∧∀ q∈ch.set x (nch p bit),1≤q∧q≤4095:=by
 obtain⟨-,-,-,hl,hc⟩:=h;have h1:=hc p (List.mem_of_getElem? hp);refine⟨by simpa using hl,fun q hq => ?_⟩;rcases List.mem_or_eq_of_mem_set hq with h2|rfl
 ·exact hc q h2
 ·unfold nch
  split <;> omega
theorem DG5.get {L S:Nat} {ch:List Nat} (h:DG5 L S ch) {x:Nat} (hx:x<40):∃ p,ch[x]?=some p∧1≤p∧p≤4095:=by
 obtain⟨-,-,-,hl,hc⟩:=h;refine⟨ch[x]'(by omega),List.getElem?_eq_getElem (by omega),hc _ (List.getElem_mem _)⟩
theorem nx_key {L:Nat} {z:Int} (h1:0≤z) (h2:z≤255):((L:Int)%16777216*256+z)=(((L%16777216*256+z.toNat):Nat):Int)∧L%16777216*256+z.toNat<4294967296:=by omega
theorem nx_end {w:World} {H O L S t:Nat} {ch:List Nat} {a:Option Addr} {n c:Nat} {vc:Value} (h:DM w H O L S t ch a n c vc) (m:Nat) {z:Int} (h1:0≤z) (h2:z≤255) :
 (∃ L':Nat,L'<4294967296∧DM (((w.drewN m).setCell ⟨O,3,none⟩ (.int .i64 ((t:Int)+1))).setCell ⟨O,0,none⟩ (.int .i64 ((L:Int)%16777216*256+z))) H O L' S (t+1) ch a n c vc)∧FD H w (((w.drewN m).setCell ⟨O,3,none⟩ (.int .i64 ((t:Int)+1))).setCell ⟨O,0,none⟩ (.int .i64 ((L:Int)%16777216*256+z))):=by
 obtain⟨k1,k2⟩:=nx_key (L:=L) h1 h2;have h3:=(((h.ext (Ext.drewN w m)).at (t+1)).code (L%16777216*256+z.toNat));rw[←k1]at h3;exact⟨⟨_,k2,h3⟩,((FD.ext (Ext.drewN w m) h.hs).trans (FD.set (h.ext (Ext.drewN w m)).bk (.inl rfl) h.hO)).trans (FD.set ((h.ext (Ext.drewN w m)).at (t+1)).bk (.inl rfl) h.hO)⟩
theorem nx_end0 {w:World} {H O L S t:Nat} {ch:List Nat} {a:Option Addr} {n c:Nat} {vc:Value} (h:DM w H O L S t ch a n c vc) (m:Nat) :
 (∃ L':Nat,L'<4294967296∧DM (((w.drewN m).setCell ⟨O,3,none⟩ (.int .i64 ((t:Int)+1))).setCell ⟨O,0,none⟩ (.int .i64 ((L:Int)%16777216*256))) H O L' S (t+1) ch a n c vc)∧FD H w (((w.drewN m).setCell ⟨O,3,none⟩ (.int .i64 ((t:Int)+1))).setCell ⟨O,0,none⟩ (.int .i64 ((L:Int)%16777216*256))):=by
 have:=nx_end h m (z:=0) (by omega) (by omega);rw[Int.add_zero]at this;exact this
theorem spec_next_any (w:World) (H O L S t:Nat) (ch:List Nat) (a:Option Addr) (n c:Nat) (vc:Value) (h:DM w H O L S t ch a n c vc) (hn:n≤2^40) (hL:L<4294967296) (ht:t≤2^40) :
 Calls Try.prog 60 #[.pointer (some ⟨O,0,none⟩)] w fun e w'=>e= .returned (.tuple #[])∧(∃ L':Nat,L'<4294967296∧DM w' H O L' S (t+1) ch a n c vc)∧FD H w w':=by
 obtain⟨bl,⟨k0,k1,k2,k3,k4⟩,f0,f1,f2,f3,f4⟩:=bx5d h.bk;have HD:=Lib.hid h
 by_cases hlt:t<n
 ·obtain⟨b,off,rfl,hb,z,z1,z2,hz⟩:=h.inp t hlt;have hd:decide ((t:Int)<n)=true:=by simp;omega
  have hne:b≠O:=by have:=h.hO;omega
  clear h;go_enter Try.func60,Try.ntmps60
  go_wp2;go_quiet (fail)
  go_wp2;go_quiet (fail)
  go_wp2;exact bodyPost_end (results_none rfl _ _ _) rfl ⟨rfl,nx_end HD.out _ z1 z2⟩
 ·have hd:decide ((t:Int)<n)=false:=by simp;omega
  clear h;go_enter Try.func60,Try.ntmps60
  go_wp2;go_quiet (fail)
  go_wp2;exact bodyPost_end (results_none rfl _ _ _) rfl ⟨rfl,nx_end0 HD.out _⟩
/-- The decoder, somewhere within its data, at most T bytes on. -/
def DK (w:World) (H O:Nat) (a:Option Addr) (n c T:Nat):Prop :=
 ∃(L S t:Nat) (ch:List Nat) (vc:Value),t≤T∧DM w H O L S t ch a n c vc∧DG5 L S ch∧16777216≤S∧n≤2^40
theorem DK.ext {w w':World} {H O n c T:Nat} {a:Option Addr} (h:DK w H O a n c T) (e:Ext w w'):DK w' H O a n c T:=by
 obtain⟨L,S,t,ch,vc,h1,h2,h3⟩:=h;exact⟨L,S,t,ch,vc,h1,h2.ext e,h3⟩
theorem DK.mono {w:World} {H O n c T T':Nat} {a:Option Addr} (h:DK w H O a n c T) (e:T≤T'):DK w H O a n c T':=by
 obtain⟨L,S,t,ch,vc,h1,h2,h3⟩:=h;exact⟨L,S,t,ch,vc,by omega,h2,h3⟩
theorem DK.hO {w:World} {H O n c T:Nat} {a:Option Addr} (h:DK w H O a n c T):H≤O∧H≤w.heap.size∧O<w.heap.size:=by
 obtain⟨L,S,t,ch,vc,h1,h2,h3⟩:=h;exact⟨h2.hO,h2.hs,lt_of_block h2.bk⟩
theorem DM.span {w:World} {H O L S t:Nat} {ch:List Nat} {a:Option Addr} {n c:Nat} {vc:Value} (h:DM w H O L S t ch a n c vc):spanOf w O=S:=by
 obtain⟨bl,⟨k0,k1,k2,k3,k4⟩,-⟩:=bx5d h.bk;simp[spanOf,k1]
/-- What the loop behind a decision keeps. -/
def NJ (w wr:World) (H O T:Nat) (a:Option Addr) (n c:Nat) (vc:Value):Prop :=
 ∃(k L S t:Nat) (ch:List Nat),k≤3∧DM wr H O L S t ch a n c vc∧FD H w wr∧DG5 L S ch∧16777216≤S*256^k∧t+k≤T
theorem bn_rng {S p:Nat} (h1:16777216≤S) (h2:S<4294967296) (p1:1≤p) (p2:p≤4095):4096≤S/4096*p∧S/4096*p+4096≤S∧S/4096≤1048575∧4096≤S/4096:=by
 have q1:4096≤S/4096:=by omega
 have q2:S/4096≤1048575:=by omega
 have h3:S/4096*1≤S/4096*p:=Nat.mul_le_mul_left _ p1;have h4:S/4096*p≤S/4096*4095:=Nat.mul_le_mul_left _ p2;omega
theorem spec_get_any (w:World) (H O T x:Nat) (a:Option Addr) (n c:Nat) (h0:DK w H O a n c T) (hx:x<40) (hT:T≤2^39) :
 Calls Try.prog 61 #[.pointer (some ⟨O,0,none⟩),.int .i64 (x:Int)] w fun e w'=>∃ bit:Nat,bit≤1∧e= .returned (.int .i64 (bit:Int))∧DK w' H O a n c (T+3)∧FD H w w':=by
 obtain⟨L,S,t,ch,vc,ht,h,hdg,hS,hn⟩:=h0
 suffices hmain:Calls Try.prog 61 #[.pointer (some ⟨O,0,none⟩),.int .i64 (x:Int)] w fun e w'=>∃ bit:Nat,bit≤1∧e= .returned (.int .i64 (bit:Int))∧DK w' H O a n c (t+3)∧FD H w w' from
  hmain.mono fun e w' ⟨bit,h1,h2,h3,h4⟩=>⟨bit,h1,h2,h3.mono (by omega),h4⟩
 obtain⟨p,hp,hp1,hp2⟩:=hdg.get hx;have hbr:=bn_rng hS hdg.2.2.1 hp1 hp2;obtain⟨gc,cc,rfl,hcc1,hcc2,hgc⟩:=h.formc;have hset:ch.set x p=ch:=by
  obtain⟨hlt,hge⟩:=List.getElem?_eq_some_iff.1 hp;rw[←hge];exact List.set_getElem_self hlt
 have hlen:=hdg.2.2.2.1;have hsp2:=hdg.2.2.1;have hL:=hdg.1;obtain⟨bn,hbn0⟩:∃ q,q=S/4096*p:=⟨_,rfl⟩;rw[←hbn0]at hbr;have hbn:(bn:Int)=(S:Int)/4096*p:=by rw[hbn0];simp
 have HBn:=Lib.hid hbn;have Hp:=Lib.hid hp;have Hset:=Lib.hid hset;have Hdg:=Lib.hid hdg;obtain⟨bl,⟨k0,k1,k2,k3,k4⟩,f0,f1,f2,f3,f4⟩:=bx5d h.bk;have kp:=h.cellC hp;obtain⟨hb1,hb2,hq1,hq2⟩:=hbr;have hB:=FD.refl H w;clear hbn0 hbn hp hset hdg;have Hwr:=Lib.hid (show wrap64 ((S:Int)/4096*p)=bn by rw[←HBn.out];exact IntWalk.wrap64_in _ (by omega));go_enter Try.func61,Try.ntmps61
 go_wp2_with fail
 go_quiet (fail)
 go_upto_region 3 with fail
 rw[Hwr.out]
 by_cases hlt:L<bn
 ·have hd:decide ((L:Int)<bn)=true:=by simp;omega
  have HLS:=Lib.hid (⟨hL,by omega,by omega,by omega⟩:L<4294967296∧1≤bn∧bn<4294967296∧4096≤bn);have hh:=h.ext (Ext.drewN w nq);have hBd:FD H w (w.drewN nq):=FD.ext (Ext.drewN w nq) h.hs;have hC:=hh.spn bn;have hBl:=hBd.trans (FD.set (i:=1) (v := .int .i64 (bn:Int)) hh.bk (.inl rfl) h.hO);clear h hB hh hBd HBn Hwr;go_upto_region 8 with fail
  clear bl k0 k1 k2 k3 k4 f0 f1 f2 f3 f4 kp hd hb1 hb2 hq1 hq2 hlt hL hsp2;generalize World.setCell _ _ _=w3 at *;refine wp_region_invL (by kernel_rfl) [(48,0),(49,1),(50,2),(51,3),(52,4),(53,5),(54,6),(55,7),(56,8),(57,9),(58,10),(59,11),(60,12),(61,13),(62,14)] [[],[0],[0,1],[0,1,2],[],[],[5],[5,6],[5,6,7],[],[5,6,7,8,9],[5,6,7,8,9,10],[],[5,6,7,8,9,10,11,12],[0,1,2,3,4,5,6,7,8,9,10,11,12,13],[0,1,2,3,4,5,6,7,8,9,10,11,12,13,14]] (fun i own ys wx=>match i with|0=>own= .pointer (some ⟨O,0,none⟩)|1=>own= .pointer (some ⟨O,0,none⟩)|2=>own= .pointer (some ⟨O,4,none⟩)|3=>own= .slice (some ⟨gc,0,none⟩) 40 cc|4=>own= .int .i64 (x:Int)|5=>own= .pointer (some ⟨O,0,none⟩)|6=>own= .pointer (some ⟨O,0,none⟩)|7=>own= .pointer (some ⟨O,4,none⟩)|8=>own= .slice (some ⟨gc,0,none⟩) 40 cc|9=>own= .int .i64 (x:Int)|10=>own= .pointer (some ⟨gc,x,none⟩)|11=>own= .int .i64 (p:Int)|12=>own= .int .i64 (0:Int)|13=>own= .int .i64 (nch p 0:Nat)|14=>own= .pointer (some ⟨gc,x,none⟩)|15=>∃ _z:Nat,DM wx H O L bn t (ch.set x (nch p 0)) a n c (.slice (some ⟨gc,0,none⟩) 40 cc)|_=>True) (fun Lx wx=>(∃ q:Nat,DM wx H O L bn t (ch.set x q) a n c (.slice (some ⟨gc,0,none⟩) 40 cc)∧(Lx 15=false→q=p))∧FD H w wx) (by kernel_rfl) (by kernel_rfl) (by kernel_rfl) ?g0_r1 ?gop_r1 ?gend_r1
  case g0_r1=>exact⟨⟨p,by rw[Hset.out];exact hC.ext (Ext.drewN _ 1),fun _=>rfl⟩,hBl.drew⟩
  case gop_r1 =>
   refine⟨?_,?o1,?o2,?o3,?_,?_,?o6,?o7,?o8,?_,?o10,?o11,?_,?o13,?o14,?o15,trivial⟩ <;> (intro Lx xs wx hG hl ha hb hD hI Qo Kx hK hQo;simp only[patchS,Nat.reduceAdd,Nat.reduceEqDiff,↓reduceIte]at hQo⊢)
   case o1 =>
    clear hl ha hb;rw[ddq (hD 0 rfl)]at hQo⊢;clear hD hI;go_wp2;exact hK.out _ _ ⟨rfl,hG,kkp⟩
   case o2 =>
    clear hl ha hb;rw[ddq (hD 1 rfl)]at hQo⊢;clear hD hI;go_wp2;exact hK.out _ _ ⟨rfl,hG,kkp⟩
   case o3 =>
    clear hl ha hb;rw[ddq (hD 2 rfl)]at hQo⊢;clear hD hI;obtain⟨q,g1,g2⟩:=hG.1;obtain⟨-,⟨k0,k1,k2,k3,k4⟩,-⟩:=bx5d g1.bk;go_wp2;exact hK.out _ _ ⟨rfl,hG,kkp⟩
   case o6 =>
    clear hl ha hb;rw[ddq (hD 5 rfl)]at hQo⊢;clear hD hI;go_wp2;exact hK.out _ _ ⟨rfl,hG,kkp⟩
   case o7 =>
    clear hl ha hb;rw[ddq (hD 6 rfl)]at hQo⊢;clear hD hI;go_wp2;exact hK.out _ _ ⟨rfl,hG,kkp⟩
   case o8 =>
    clear hl ha hb;rw[ddq (hD 7 rfl)]at hQo⊢;clear hD hI;obtain⟨q,g1,g2⟩:=hG.1;obtain⟨-,⟨k0,k1,k2,k3,k4⟩,-⟩:=bx5d g1.bk;go_wp2;exact hK.out _ _ ⟨rfl,hG,kkp⟩
   case o10 =>
    clear hl ha hb;rw[ddq (hD 8 rfl),ddq (hD 9 rfl)]at hQo⊢;clear hD hI;go_wp2;exact hK.out _ _ ⟨rfl,hG,kkp⟩
   case o11 =>
    have l15:Lx 15=false:=hb 15 rfl;clear hl ha hb;rw[ddq (hD 10 rfl)]at hQo⊢;clear hD hI;obtain⟨q,g1,g2⟩:=hG.1;obtain rfl:=g2 l15;rw[Hset.out]at g1;have k0:=g1.cellC Hp.out;go_wp2;exact hK.out _ _ ⟨rfl,hG,kkp⟩
   case o13 =>
    clear hl ha hb;rw[ddq (hD 11 rfl),ddq (hD 12 rfl)]at hQo⊢;clear hD hI;go_wp2_with fail
    refine(spec_NextChance_in p 0 _ hp1 hp2 (by omega)).mono ?_
    rintro e wz ⟨rfl,rfl⟩
    go_wp2;exact hK.out _ _ ⟨rfl,hG,kkp⟩
   case o14 =>
    clear hl ha hb;rw[ddq (hD 3 rfl),ddq (hD 4 rfl)]at hQo⊢;clear hD hI;go_wp2;exact hK.out _ _ ⟨rfl,hG,kkp⟩
   case o15 =>
    clear hl ha hb;rw[ddq (hD 13 rfl),ddq (hD 14 rfl)]at hQo⊢;clear hD hI;obtain⟨q,g1,g2⟩:=hG.1;have f0:=g1.rc.frozenAt x;have k0:=g1.cellC (i:=x) (p:=q) (by rw[List.getElem?_set_self (by omega)]);go_wp2;have hst:∀(wy:World),True→Stbn 16 15 [[],[0],[0,1],[0,1,2],[],[],[5],[5,6],[5,6,7],[],[5,6,7,8,9],[5,6,7,8,9,10],[],[5,6,7,8,9,10,11,12],[0,1,2,3,4,5,6,7,8,9,10,11,12,13],[0,1,2,3,4,5,6,7,8,9,10,11,12,13,14]] (fun i own ys wx=>match i with|0=>own= .pointer (some ⟨O,0,none⟩)|1=>own= .pointer (some ⟨O,0,none⟩)|2=>own= .pointer (some ⟨O,4,none⟩)|3=>own= .slice (some ⟨gc,0,none⟩) 40 cc|4=>own= .int .i64 (x:Int)|5=>own= .pointer (some ⟨O,0,none⟩)|6=>own= .pointer (some ⟨O,0,none⟩)|7=>own= .pointer (some ⟨O,4,none⟩)|8=>own= .slice (some ⟨gc,0,none⟩) 40 cc|9=>own= .int .i64 (x:Int)|10=>own= .pointer (some ⟨gc,x,none⟩)|11=>own= .int .i64 (p:Int)|12=>own= .int .i64 (0:Int)|13=>own= .int .i64 (nch p 0:Nat)|14=>own= .pointer (some ⟨gc,x,none⟩)|15=>∃ _z:Nat,DM wx H O L bn t (ch.set x (nch p 0)) a n c (.slice (some ⟨gc,0,none⟩) 40 cc)|_=>True) wx wy:=by
     intro wy hy ii hii hne hc own ys h
     match ii,h with
     | 0,h|1,h|2,h|3,h|4,h|5,h|6,h|7,h|8,h|9,h|10,h|11,h|12,h|13,h|14,h=>exact h
     | 15,h=>exact absurd rfl hne
     | _+16,_=>trivial
    have hf:=g1.chs x (nch p 0);simp only[List.set_set]at hf;exact hQo undef _ (hK.out _ _ ⟨⟨0,hf⟩,⟨⟨_,hf,fun h=>by cases h⟩,hG.2.trans (g1.chF x _)⟩,hst _ trivial⟩)
   all_goals
    clear hl ha hb hD hI;go_wp2;exact hK.out _ _ ⟨rfl,hG,kkp⟩
  intro xs wx hV hG0;obtain⟨Lx,hL,hG⟩:=hG0;have l15:Lx 15=true:=hL 15 (by decide);clear hL;have d15:∃ _z:Nat,DM wx H O L bn t (ch.set x (nch p 0)) a n c (.slice (some ⟨gc,0,none⟩) 40 cc):=hV 15 (by decide);clear hV;simp only[patchS,Nat.reduceAdd,Nat.reduceEqDiff,↓reduceIte];generalize xs 0=y0,xs 1=y1,xs 2=y2,xs 3=y3,xs 4=y4,xs 5=y5,xs 6=y6,xs 7=y7,xs 8=y8,xs 9=y9,xs 10=y10,xs 11=y11,xs 12=y12,xs 13=y13,xs 14=y14,xs 15=y15 at *
  replace hG:(∃ q:Nat,DM wx H O L bn t (ch.set x q) a n c (.slice (some ⟨gc,0,none⟩) 40 cc)∧(Lx 15=false→q=p))∧FD H w wx:=hG
  obtain⟨_,c15⟩:=d15;have hD2:DG5 L bn (ch.set x (nch p 0)):=⟨HLS.out.1,HLS.out.2.1,HLS.out.2.2.1,(Hdg.out.put Hp.out (by omega)).1,(Hdg.out.put Hp.out (by omega)).2⟩;have hN0:NJ w wx H O (t+3) a n c (.slice (some ⟨gc,0,none⟩) 40 cc):=by
   refine⟨3,_,_,t,_,Nat.le_refl _,c15,hG.2,hD2,?_,Nat.le_refl _⟩;have:=HLS.out.2.2.2;omega
  clear c15 hG hC hBl hp1 hp2 hcc1 hcc2 hD2 hlen;try clear HLS Hdg Hp Hset
  obtain⟨vc,hvc⟩:∃ v,v=Value.slice (some ⟨gc,0,none⟩) 40 cc:=⟨_,rfl⟩;rw[←hvc]at hN0;clear hvc;go_wp2_with fail
  go_loopw [] (fun wr=>NJ w wr H O (t+3) a n c vc) (fun wr=>4294967296-spanOf wr O)
  case atStart=>exact hN0
  case round =>
   obtain⟨k,L1,S1,t1,ch1,hk,hC,hB,hg,hi4,hi5⟩:=hrel;clear hN0;have hsp:=hC.span;obtain⟨bl,⟨k0,k1,k2,k3,k4⟩,f0,f1,f2,f3,f4⟩:=bx5d hC.bk
   by_cases hlt:S1<16777216
   ·obtain⟨q,rfl⟩:∃ q,k=q+1:=by
     cases k with
     | zero=>simp at hi4;omega
     | succ q=>exact⟨q,rfl⟩
    have hsh:=Lib.hid (spec_next_any wr H O L1 S1 t1 ch1 a n c vc hC hn hg.1 (by omega));have hpw:16777216≤S1*256*256^q:=by rw[Nat.pow_succ]at hi4;rw[Nat.mul_assoc,Nat.mul_comm 256];exact hi4
    have Hpw:=Lib.hid hpw;have Hg:=Lib.hid hg;have hg2:1≤(S1:Int):=by have:=hg.2.1;omega
    have hdl:decide ((S1:Int)<16777216)=true:=by simp;omega
    have Hi:=Lib.hid (⟨hlt,hi5,hk⟩:_∧_∧_);have hlt2:(S1:Int)<16777216:=by omega
    clear hpw hi4 hi5 hk hg hC hlt;go_wp2_with fail
    refine hsh.out.mono ?_
    rintro e w4 ⟨rfl,⟨L4,hL4,hC4⟩,hB4⟩
    clear bl k0 k1 k2 k3 k4 f0 f1 f2 f3 f4;obtain⟨bl,⟨k0,k1,k2,k3,k4⟩,f0,f1,f2,f3,f4⟩:=bx5d hC4.bk;have HC4:=Lib.hid hC4;have HB4:=Lib.hid (hB.trans hB4);have HL4:=Lib.hid hL4;clear hC4 hB4 hB hL4;go_wp2;go_roundw
    case rel =>
     obtain⟨hlt,hi5,hk⟩:=Hi.out;obtain⟨-,-,-,hg4,hg5⟩:=Hg.out;have hC5:=HC4.out.spn (S1*256);rw[show((S1*256:Nat):Int)=(S1:Int)*256 by omega]at hC5;exact⟨q,L4,S1*256,t1+1,ch1,by omega,hC5,HB4.out.trans (FD.set HC4.out.bk (.inl rfl) HC4.out.hO),⟨HL4.out,by omega,by omega,hg4,hg5⟩,Hpw.out,by omega⟩
    case measure =>
     have hC5:=HC4.out.spn (S1*256);rw[show((S1*256:Nat):Int)=(S1:Int)*256 by omega]at hC5;have h5:=hC5.span;have:=Hi.out.1;rw[h5,hsp];omega
   ·have hdl:decide ((S1:Int)<16777216)=false:=by simp;omega
    have HC:=Lib.hid hC;have Hg:=Lib.hid hg;have Hi:=Lib.hid (⟨hlt,hi5⟩:_∧_);have HB:=Lib.hid hB;clear hC hi4 hi5 hlt hg hB;go_wp2;go_ret
    exact⟨0,by omega,rfl,⟨L1,S1,t1,ch1,vc,by have:=Hi.out.2;omega,HC.out,Hg.out,by have:=Hi.out.1;omega,hn⟩,HB.out⟩
 ·have hd:decide ((L:Int)<bn)=false:=by simp;omega
  have HLS:=Lib.hid (⟨by omega,by omega,by omega,by omega⟩:L-bn<4294967296∧1≤S-bn∧S-bn<4294967296∧4096≤S-bn);have hh:=h.ext (Ext.drewN w nq);have hBd:FD H w (w.drewN nq):=FD.ext (Ext.drewN w nq) h.hs;have hC:=(hh.code (L-bn)).spn (S-bn);have hBl:=(hBd.trans (FD.set (i:=0) (v := .int .i64 ((L-bn:Nat):Int)) hh.bk (.inl rfl) h.hO)).trans (FD.set (i:=1) (v := .int .i64 ((S-bn:Nat):Int)) (hh.code (L-bn)).bk (.inl rfl) h.hO);rw[show((L-bn:Nat):Int)=(L:Int)-bn by omega,show((S-bn:Nat):Int)=(S:Int)-bn by omega]at hC hBl;clear h hB hh hBd HBn Hwr;go_upto_region 8 with fail
  clear bl k0 k1 k2 k3 k4 f0 f1 f2 f3 f4 kp hd hb1 hb2 hq1 hq2 hlt hL hsp2;generalize World.setCell (World.setCell _ _ _) _ _=w3 at *;refine wp_region_invL (by kernel_rfl) [(48,0),(49,1),(50,2),(51,3),(52,4),(53,5),(54,6),(55,7),(56,8),(57,9),(58,10),(59,11),(60,12),(61,13),(62,14)] [[],[0],[0,1],[0,1,2],[],[],[5],[5,6],[5,6,7],[],[5,6,7,8,9],[5,6,7,8,9,10],[],[5,6,7,8,9,10,11,12],[0,1,2,3,4,5,6,7,8,9,10,11,12,13],[0,1,2,3,4,5,6,7,8,9,10,11,12,13,14]] (fun i own ys wx=>match i with|0=>own= .pointer (some ⟨O,0,none⟩)|1=>own= .pointer (some ⟨O,0,none⟩)|2=>own= .pointer (some ⟨O,4,none⟩)|3=>own= .slice (some ⟨gc,0,none⟩) 40 cc|4=>own= .int .i64 (x:Int)|5=>own= .pointer (some ⟨O,0,none⟩)|6=>own= .pointer (some ⟨O,0,none⟩)|7=>own= .pointer (some ⟨O,4,none⟩)|8=>own= .slice (some ⟨gc,0,none⟩) 40 cc|9=>own= .int .i64 (x:Int)|10=>own= .pointer (some ⟨gc,x,none⟩)|11=>own= .int .i64 (p:Int)|12=>own= .int .i64 (1:Int)|13=>own= .int .i64 (nch p 1:Nat)|14=>own= .pointer (some ⟨gc,x,none⟩)|15=>∃ _z:Nat,DM wx H O (L-bn) (S-bn) t (ch.set x (nch p 1)) a n c (.slice (some ⟨gc,0,none⟩) 40 cc)|_=>True) (fun Lx wx=>(∃ q:Nat,DM wx H O (L-bn) (S-bn) t (ch.set x q) a n c (.slice (some ⟨gc,0,none⟩) 40 cc)∧(Lx 15=false→q=p))∧FD H w wx) (by kernel_rfl) (by kernel_rfl) (by kernel_rfl) ?g0_r2 ?gop_r2 ?gend_r2
  case g0_r2=>exact⟨⟨p,by rw[Hset.out];exact hC.ext (Ext.drewN _ 1),fun _=>rfl⟩,hBl.drew⟩
  case gop_r2 =>
   refine⟨?_,?o1,?o2,?o3,?_,?_,?o6,?o7,?o8,?_,?o10,?o11,?_,?o13,?o14,?o15,trivial⟩ <;> (intro Lx xs wx hG hl ha hb hD hI Qo Kx hK hQo;simp only[patchS,Nat.reduceAdd,Nat.reduceEqDiff,↓reduceIte]at hQo⊢)
   case o1 =>
    clear hl ha hb;rw[ddq (hD 0 rfl)]at hQo⊢;clear hD hI;go_wp2;exact hK.out _ _ ⟨rfl,hG,kkp⟩
   case o2 =>
    clear hl ha hb;rw[ddq (hD 1 rfl)]at hQo⊢;clear hD hI;go_wp2;exact hK.out _ _ ⟨rfl,hG,kkp⟩
   case o3 =>
    clear hl ha hb;rw[ddq (hD 2 rfl)]at hQo⊢;clear hD hI;obtain⟨q,g1,g2⟩:=hG.1;obtain⟨-,⟨k0,k1,k2,k3,k4⟩,-⟩:=bx5d g1.bk;go_wp2;exact hK.out _ _ ⟨rfl,hG,kkp⟩
   case o6 =>
    clear hl ha hb;rw[ddq (hD 5 rfl)]at hQo⊢;clear hD hI;go_wp2;exact hK.out _ _ ⟨rfl,hG,kkp⟩
   case o7 =>
    clear hl ha hb;rw[ddq (hD 6 rfl)]at hQo⊢;clear hD hI;go_wp2;exact hK.out _ _ ⟨rfl,hG,kkp⟩
   case o8 =>
    clear hl ha hb;rw[ddq (hD 7 rfl)]at hQo⊢;clear hD hI;obtain⟨q,g1,g2⟩:=hG.1;obtain⟨-,⟨k0,k1,k2,k3,k4⟩,-⟩:=bx5d g1.bk;go_wp2;exact hK.out _ _ ⟨rfl,hG,kkp⟩
   case o10 =>
    clear hl ha hb;rw[ddq (hD 8 rfl),ddq (hD 9 rfl)]at hQo⊢;clear hD hI;go_wp2;exact hK.out _ _ ⟨rfl,hG,kkp⟩
   case o11 =>
    have l15:Lx 15=false:=hb 15 rfl;clear hl ha hb;rw[ddq (hD 10 rfl)]at hQo⊢;clear hD hI;obtain⟨q,g1,g2⟩:=hG.1;obtain rfl:=g2 l15;rw[Hset.out]at g1;have k0:=g1.cellC Hp.out;go_wp2;exact hK.out _ _ ⟨rfl,hG,kkp⟩
   case o13 =>
    clear hl ha hb;rw[ddq (hD 11 rfl),ddq (hD 12 rfl)]at hQo⊢;clear hD hI;go_wp2_with fail
    refine(spec_NextChance_in p 1 _ hp1 hp2 (by omega)).mono ?_
    rintro e wz ⟨rfl,rfl⟩
    go_wp2;exact hK.out _ _ ⟨rfl,hG,kkp⟩
   case o14 =>
    clear hl ha hb;rw[ddq (hD 3 rfl),ddq (hD 4 rfl)]at hQo⊢;clear hD hI;go_wp2;exact hK.out _ _ ⟨rfl,hG,kkp⟩
   case o15 =>
    clear hl ha hb;rw[ddq (hD 13 rfl),ddq (hD 14 rfl)]at hQo⊢;clear hD hI;obtain⟨q,g1,g2⟩:=hG.1;have f0:=g1.rc.frozenAt x;have k0:=g1.cellC (i:=x) (p:=q) (by rw[List.getElem?_set_self (by omega)]);go_wp2;have hst:∀(wy:World),True→Stbn 16 15 [[],[0],[0,1],[0,1,2],[],[],[5],[5,6],[5,6,7],[],[5,6,7,8,9],[5,6,7,8,9,10],[],[5,6,7,8,9,10,11,12],[0,1,2,3,4,5,6,7,8,9,10,11,12,13],[0,1,2,3,4,5,6,7,8,9,10,11,12,13,14]] (fun i own ys wx=>match i with|0=>own= .pointer (some ⟨O,0,none⟩)|1=>own= .pointer (some ⟨O,0,none⟩)|2=>own= .pointer (some ⟨O,4,none⟩)|3=>own= .slice (some ⟨gc,0,none⟩) 40 cc|4=>own= .int .i64 (x:Int)|5=>own= .pointer (some ⟨O,0,none⟩)|6=>own= .pointer (some ⟨O,0,none⟩)|7=>own= .pointer (some ⟨O,4,none⟩)|8=>own= .slice (some ⟨gc,0,none⟩) 40 cc|9=>own= .int .i64 (x:Int)|10=>own= .pointer (some ⟨gc,x,none⟩)|11=>own= .int .i64 (p:Int)|12=>own= .int .i64 (1:Int)|13=>own= .int .i64 (nch p 1:Nat)|14=>own= .pointer (some ⟨gc,x,none⟩)|15=>∃ _z:Nat,DM wx H O (L-bn) (S-bn) t (ch.set x (nch p 1)) a n c (.slice (some ⟨gc,0,none⟩) 40 cc)|_=>True) wx wy:=by
     intro wy hy ii hii hne hc own ys h
     match ii,h with
     | 0,h|1,h|2,h|3,h|4,h|5,h|6,h|7,h|8,h|9,h|10,h|11,h|12,h|13,h|14,h=>exact h
     | 15,h=>exact absurd rfl hne
     | _+16,_=>trivial
    have hf:=g1.chs x (nch p 1);simp only[List.set_set]at hf;exact hQo undef _ (hK.out _ _ ⟨⟨0,hf⟩,⟨⟨_,hf,fun h=>by cases h⟩,hG.2.trans (g1.chF x _)⟩,hst _ trivial⟩)
   all_goals
    clear hl ha hb hD hI;go_wp2;exact hK.out _ _ ⟨rfl,hG,kkp⟩
  intro xs wx hV hG0;obtain⟨Lx,hL,hG⟩:=hG0;have l15:Lx 15=true:=hL 15 (by decide);clear hL;have d15:∃ _z:Nat,DM wx H O (L-bn) (S-bn) t (ch.set x (nch p 1)) a n c (.slice (some ⟨gc,0,none⟩) 40 cc):=hV 15 (by decide);clear hV;simp only[patchS,Nat.reduceAdd,Nat.reduceEqDiff,↓reduceIte];generalize xs 0=y0,xs 1=y1,xs 2=y2,xs 3=y3,xs 4=y4,xs 5=y5,xs 6=y6,xs 7=y7,xs 8=y8,xs 9=y9,xs 10=y10,xs 11=y11,xs 12=y12,xs 13=y13,xs 14=y14,xs 15=y15 at *
  replace hG:(∃ q:Nat,DM wx H O (L-bn) (S-bn) t (ch.set x q) a n c (.slice (some ⟨gc,0,none⟩) 40 cc)∧(Lx 15=false→q=p))∧FD H w wx:=hG
  obtain⟨_,c15⟩:=d15;have hD2:DG5 (L-bn) (S-bn) (ch.set x (nch p 1)):=⟨HLS.out.1,HLS.out.2.1,HLS.out.2.2.1,(Hdg.out.put Hp.out (by omega)).1,(Hdg.out.put Hp.out (by omega)).2⟩;have hN0:NJ w wx H O (t+3) a n c (.slice (some ⟨gc,0,none⟩) 40 cc):=by
   refine⟨3,_,_,t,_,Nat.le_refl _,c15,hG.2,hD2,?_,Nat.le_refl _⟩;have:=HLS.out.2.2.2;omega
  clear c15 hG hC hBl hp1 hp2 hcc1 hcc2 hD2 hlen;try clear HLS Hdg Hp Hset
  obtain⟨vc,hvc⟩:∃ v,v=Value.slice (some ⟨gc,0,none⟩) 40 cc:=⟨_,rfl⟩;rw[←hvc]at hN0;clear hvc;go_wp2_with fail
  go_loopw [] (fun wr=>NJ w wr H O (t+3) a n c vc) (fun wr=>4294967296-spanOf wr O)
  case atStart=>exact hN0
  case round =>
   obtain⟨k,L1,S1,t1,ch1,hk,hC,hB,hg,hi4,hi5⟩:=hrel;clear hN0;have hsp:=hC.span;obtain⟨bl,⟨k0,k1,k2,k3,k4⟩,f0,f1,f2,f3,f4⟩:=bx5d hC.bk
   by_cases hlt:S1<16777216
   ·obtain⟨q,rfl⟩:∃ q,k=q+1:=by
     cases k with
     | zero=>simp at hi4;omega
     | succ q=>exact⟨q,rfl⟩
    have hsh:=Lib.hid (spec_next_any wr H O L1 S1 t1 ch1 a n c vc hC hn hg.1 (by omega));have hpw:16777216≤S1*256*256^q:=by rw[Nat.pow_succ]at hi4;rw[Nat.mul_assoc,Nat.mul_comm 256];exact hi4
    have Hpw:=Lib.hid hpw;have Hg:=Lib.hid hg;have hg2:1≤(S1:Int):=by have:=hg.2.1;omega
    have hdl:decide ((S1:Int)<16777216)=true:=by simp;omega
    have Hi:=Lib.hid (⟨hlt,hi5,hk⟩:_∧_∧_);have hlt2:(S1:Int)<16777216:=by omega
    clear hpw hi4 hi5 hk hg hC hlt;go_wp2_with fail
    refine hsh.out.mono ?_
    rintro e w4 ⟨rfl,⟨L4,hL4,hC4⟩,hB4⟩
    clear bl k0 k1 k2 k3 k4 f0 f1 f2 f3 f4;obtain⟨bl,⟨k0,k1,k2,k3,k4⟩,f0,f1,f2,f3,f4⟩:=bx5d hC4.bk;have HC4:=Lib.hid hC4;have HB4:=Lib.hid (hB.trans hB4);have HL4:=Lib.hid hL4;clear hC4 hB4 hB hL4;go_wp2;go_roundw
    case rel =>
     obtain⟨hlt,hi5,hk⟩:=Hi.out;obtain⟨-,-,-,hg4,hg5⟩:=Hg.out;have hC5:=HC4.out.spn (S1*256);rw[show((S1*256:Nat):Int)=(S1:Int)*256 by omega]at hC5;exact⟨q,L4,S1*256,t1+1,ch1,by omega,hC5,HB4.out.trans (FD.set HC4.out.bk (.inl rfl) HC4.out.hO),⟨HL4.out,by omega,by omega,hg4,hg5⟩,Hpw.out,by omega⟩
    case measure =>
     have hC5:=HC4.out.spn (S1*256);rw[show((S1*256:Nat):Int)=(S1:Int)*256 by omega]at hC5;have h5:=hC5.span;have:=Hi.out.1;rw[h5,hsp];omega
   ·have hdl:decide ((S1:Int)<16777216)=false:=by simp;omega
    have HC:=Lib.hid hC;have Hg:=Lib.hid hg;have Hi:=Lib.hid (⟨hlt,hi5⟩:_∧_);have HB:=Lib.hid hB;clear hC hi4 hi5 hlt hg hB;go_wp2;go_ret
    exact⟨1,by omega,rfl,⟨L1,S1,t1,ch1,vc,by have:=Hi.out.2;omega,HC.out,Hg.out,by have:=Hi.out.1;omega,hn⟩,HB.out⟩
theorem half_ok : ∀ p∈List.replicate 40 2048,1≤p∧p≤4095:=fun p hp=>by
 have:=List.eq_of_mem_replicate hp;omega
theorem spec_l9Open_any (w:World) (a:Option Addr) (n c:Nat) (hI:Inp w w.heap.size a n) (hn:n≤2^40) :
 Calls Try.prog 46 #[.slice a n c] w fun e w'=>∃ O,e= .returned (.pointer (some ⟨O,0,none⟩))∧DK w' w.heap.size O a n c 4∧Ext w w':=by
 have HI:=Lib.hid hI;clear hI;go_enter Try.func46,Try.ntmps46
 go_wp2_with fail
 refine(spec_l9Chances_any _).mono ?_
 rintro e w1 ⟨vch,rfl,och,E1⟩
 obtain⟨ach,cch,rfl⟩:=owns_form och;go_wp2_with fail
 have hO:w.heap.size≤w1.heap.size:=E1.size;have E2:=E1.trans (Ext.alloc w1 (.cells #[.int .i64 0,.int .i64 4294967295,.slice a n c,.int .i64 0,.slice ach 40 cch] 109));have hC0:DM (w1.alloc (.cells #[.int .i64 0,.int .i64 4294967295,.slice a n c,.int .i64 0,.slice ach 40 cch] 109)) w.heap.size w1.heap.size 0 4294967295 0 (List.replicate 40 2048) a n c (.slice ach 40 cch) :=
  ⟨blk_new w1 _,by have:=owns_ext och (Ext.alloc w1 (.cells #[.int .i64 0,.int .i64 4294967295,.slice a n c,.int .i64 0,.slice ach 40 cch] 109));simpa [ch64] using this,HI.out.below E2,hO,by simp;omega⟩
 clear och E1;generalize w1.alloc (.cells #[.int .i64 0,.int .i64 4294967295,.slice a n c,.int .i64 0,.slice ach 40 cch] 109)=w2 at *;obtain⟨O,hOe⟩:∃ O,O=w1.heap.size:=⟨_,rfl⟩;rw[←hOe]at hC0 hO⊢;clear hOe;go_loopw [4] (fun i wr=>∃ k L:Nat,k≤4∧i= .int .i64 (k:Nat)∧Ext w wr∧L<4294967296∧DM wr w.heap.size O L 4294967295 k (List.replicate 40 2048) a n c (.slice ach 40 cch)) (fun i _=>4-(intOf i).toNat)
 case atStart=>exact⟨0,0,by omega,rfl,E2,by omega,hC0⟩
 case round =>
  clear hC0 E2;obtain⟨k,L,hk,rfl,E2,hL,hC⟩:=hrel
  by_cases hlt:k<4
  ·have hput:=Lib.hid (spec_next_any wr w.heap.size O L 4294967295 k _ a n c _ hC hn hL (by omega));clear hC;go_wp2_with fail
   refine hput.out.mono ?_
   rintro e w4 ⟨rfl,⟨L4,hL4,hC4⟩,hB4⟩
   have E4:=Below.trans E2 hB4.1;have HC4:=Lib.hid hC4;clear hC4 hB4 E2;go_wp2;go_roundw
   case rel=>exact⟨k+1,L4,by omega,by go_num,E4,hL4,HC4.out⟩
   case measure=>simp[intOf];omega
  ·obtain rfl:k=4:=by omega
   have hd:decide (((4:Nat):Int)<4)=false:=by simp
   have HC:=Lib.hid hC;clear hC;go_wp2;go_ret
   exact⟨O,rfl,⟨L,4294967295,4,_,_,Nat.le_refl _,HC.out,⟨hL,by omega,by omega,by simp,half_ok⟩,by omega,hn⟩,E2⟩
theorem Inp.mono {w:World} {H H':Nat} {a:Option Addr} {n:Nat} (h:Inp w H a n) (e:H≤H'):Inp w H' a n:=fun i hi=>by
 obtain⟨b,off,h1,h2,h3⟩:=h i hi;exact⟨b,off,h1,by omega,h3⟩
theorem DK.low {w:World} {H H' O n c T:Nat} {a:Option Addr} (h:DK w H' O a n c T) (e:H≤H') (hI:Inp w H a n):DK w H O a n c T:=by
 obtain⟨L,S,t,ch,vc,h1,h2,h3⟩:=h;exact⟨L,S,t,ch,vc,h1,⟨h2.bk,owns_mono h2.rc e,hI,Nat.le_trans e h2.hO,Nat.le_trans e h2.hs⟩,h3⟩
/-- The same; what the decoder reads lies below H. -/
theorem spec_l9Open_at (w:World) (H:Nat) (a:Option Addr) (n c:Nat) (hH:H≤w.heap.size) (hI:Inp w H a n) (hn:n≤2^40) :
 Calls Try.prog 46 #[.slice a n c] w fun e w'=>∃ O,e= .returned (.pointer (some ⟨O,0,none⟩))∧DK w' H O a n c 4∧Ext w w' :=
 (spec_l9Open_any w a n c (hI.mono hH) hn).mono fun e w' ⟨O,h1,h2,h3⟩=>⟨O,h1,h2.low hH (hI.below (Below.mono h3 hH)),h3⟩
theorem Inp.of_sl {w:World} {a:Option Addr} {n:Nat} {xs:List Int} (h:Sl w a n (xs.map (Value.int .u8))) (hb:∀ z∈xs,0≤z∧z≤255):Inp w w.heap.size a n:=fun i hi=>by
 obtain⟨b,off,h1,h2⟩:=h.int hi;have hl:=h.int_len;have hz:=hb (nth xs i) (by rw[nth_eq xs i (by omega)];exact List.getElem_mem _);exact⟨b,off,h1,World.block_lt_of_cell? w _ h2,_,hz.1,hz.2,h2⟩
theorem pw_up {k:Nat} (hk:k≤15):2^(16-k)=2*2^(15-k):=by
 rw[show 16-k=(15-k)+1 by omega,Nat.pow_succ,Nat.mul_comm]
theorem pw_le (k:Nat):2^(16-k)≤65536:=by
 have:=Nat.pow_le_pow_right (n:=2) (by omega) (show 16-k≤16 by omega);omega
theorem pw_ge {k:Nat} (hk:k≤15):2≤2^(16-k):=by
 have:=Nat.pow_le_pow_right (n:=2) (by omega) (show 1≤16-k by omega);omega
theorem spec_l10Get_any (w:World) (H O T base:Nat) (a:Option Addr) (n c:Nat) (h0:DK w H O a n c T) (hb:base≤33) (hT:T≤2^38) :
 Calls Try.prog 62 #[.pointer (some ⟨O,0,none⟩),.int .i64 (base:Int)] w fun e w'=>∃ r:Int,e= .returned (.int .i64 r) ∧ -1≤r∧r≤65535∧DK w' H O a n c (T+200)∧FD H w w':=by
 have hB:=FD.refl H w;go_enter Try.func62,Try.ntmps62
 go_wp2_with fail
 go_loopw [5] (fun i wr=>∃ k:Nat,k≤15∧i= .int .i64 (k:Nat)∧DK wr H O a n c (T+3*k)∧FD H w wr) (fun i _=>16-(intOf i).toNat)
 case atStart=>exact⟨0,by omega,rfl,h0,hB⟩
 case round =>
  obtain⟨k,hk,rfl,h2,hB2⟩:=hrel;clear h0 hB;obtain⟨x,hx⟩:∃ x:Nat,x=base+min k 5:=⟨_,rfl⟩;have hx40:x<40:=by omega
  have hG:=spec_get_any wr H O (T+3*k) x a n c h2 hx40 (by omega);have hxi:(base:Int)+min (k:Int) 5=x:=by omega
  have HG:=Lib.hid hG;have Hx:=Lib.hid hxi;clear hG h2 hx hxi;go_wp2_with fail
  rw[Hx.out];refine HG.out.mono ?_
  rintro e w3 ⟨bit,hbit,rfl,h3,hB3⟩
  have hB4:=hB2.trans hB3;have H3:=Lib.hid (h3.mono (T':=T+3*(k+1)) (by omega));clear h3 hB2 hB3 HG Hx
  by_cases h1:bit=1
  ·subst h1
   by_cases hk2:k<15
   ·have hd:decide ((15:Int)<(k:Int)+1)=false:=by simp;omega
    go_wp2;go_roundw
    case rel=>exact⟨k+1,by omega,by go_num,H3.out,hB4⟩
    case measure=>simp[intOf];omega
   ·have hd:decide ((15:Int)<(k:Int)+1)=true:=by simp;omega
    go_wp2;go_ret
    exact⟨-1,rfl,by omega,by omega,H3.out.mono (by omega),hB4⟩
  ·obtain rfl:bit=0:=by omega
   have hT2:T+3*(k+1)≤T+48:=by omega
   obtain⟨T2,hT2e⟩:∃ T2,T2=T+48:=⟨_,rfl⟩;have H4:=Lib.hid (H3.out.mono (T':=T2) (by omega));have HT2:=Lib.hid hT2e;have hT3:T2≤2^38+48:=by omega
   clear H3 hT2 hT2e hx40 h1;go_wp2_with fail
   go_loopw [5,6] (fun i m wr=>∃ k n1:Nat,k≤15∧i= .int .i64 (k:Nat)∧m= .int .i64 (n1:Nat)∧n1+1≤2^(16-k)∧DK wr H O a n c (T2+3*(15-k))∧FD H w wr) (fun i _ _=>(intOf i).toNat)
   case atStart=>exact⟨k,1,hk,rfl,rfl,pw_ge hk,H4.out.mono (by omega),hB4⟩
   case round =>
    clear hB4 H4;obtain⟨k,n1,hk,rfl,rfl,hn1,h5,hB5⟩:=hrel;have hp:=pw_le k;have hn2:n1≤65535:=by omega
    by_cases h0:k=0
    ·subst h0;have hd:decide ((((0:Nat):Int)>0))=false:=by simp
     have H5:=Lib.hid (h5.mono (T':=T+200) (by have:=HT2.out;omega));have hn3:n1+1≤65536:=by omega
     clear hn1 hp h5;go_wp2;go_ret
     exact⟨(n1:Int)-1,by first|rfl|(congr 3;omega),by omega,by omega,H5.out,hB5⟩
    ·have hd:decide (((k:Int)>0))=true:=by simp;omega
     have hG:=Lib.hid (spec_get_any wr H O (T2+3*(15-k)) (base+6) a n c h5 (by omega) (by omega));obtain⟨q,rfl⟩:∃ q,k=q+1:=⟨k-1,by omega⟩;have hup:=pw_up (k:=q) (by omega);rw[show 15-q=16-(q+1) by omega]at hup;have Hn:=Lib.hid (⟨hn1,hup⟩:_∧_);have hc:((base+6:Nat):Int)=(base:Int)+6:=by omega
     rw[hc]at hG;clear hn1 hp hup hc h5;go_wp2_with fail
     refine hG.out.mono ?_
     rintro e w6 ⟨bit,hbit,rfl,h6,hB6⟩
     have hB7:=hB5.trans hB6;have H6:=Lib.hid (h6.mono (T':=T2+3*(15-q)) (by omega));clear h6 hB5 hB6 hG;go_wp2;go_roundw
     case rel =>
      refine⟨q,2*n1+bit,by omega,by first|rfl|go_num,by first|rfl|go_num,?_,H6.out,hB7⟩;have:=Hn.out.1;have:=Hn.out.2;omega
     case measure=>simp[intOf] <;> omega
section
variable {P : Program} (w : World)
theorem run_app_nil (base:Nat) (t ty e:TypeId) (i:TypeInfo) (size:Nat) (ht:P.underlying t=some (.slice e)) (hi:P.info? e=some i)
 (v:Value) (n:Nat) (xs:List Value) (hown:w.ownsRow base e size v n xs) (c:Nat):(Builtin.append_ #[t,t] ty #[v,.slice none 0 c]).run P w= .ok v w:=by
 rcases hown.2 with⟨rfl,rfl⟩|⟨g,cap,cur,rfl,_,_,hnc,_⟩
 ·simp[Builtin.append_,run_underlying ht,sizeOf,typeInfo,hi,Builtin.lenOf,Builtin.firstCells]
 ·simp[Builtin.append_,run_underlying ht,sizeOf,typeInfo,hi,Builtin.lenOf,Builtin.firstCells,hnc,storeCells]
theorem Sl.cellsOf {a:Addr} {m:Nat} {us:List Value} (h:Sl w (some a) m us) (hm:0<m):∀ j u,us[j]?=some u→w.cell? (a.add j)=some u:=by
 intro j u hu;have hj:j<us.length:=(List.getElem?_eq_some_iff.1 hu).1;obtain⟨b,off,ha,hc⟩:=h.2 j (by rw[←h.1];exact hj);simp only[Option.some.injEq]at ha;subst ha;rw[Addr.add_lit,hc];simp[List.getD,hu]
theorem wpList_apps {ops:Array Oper} {rest:List Oper} {o:Oper} {a:Act} {Q:Exit→Act→World→Prop} {base e:Nat} {v:Value} {n:Nat} {xs:List Value}
 (hown:w.ownsRow base e 1 v n xs) (hbase:base≤w.heap.size)
 (hg:o.guard=none) (s x:Operand) (t:TypeId) (ho:o.op= .call { callee := .builtin .append,args := #[s,x],argTypes := #[t,t] })
 (z:Value) (bytes:Nat) (h1:P.underlying t=some (.slice e)) (h2:(P.info? e).map (fun i=>(i.zero,i.size,i.bytes))=some (some z,1,bytes)) (hz1:z.cells.size=1)
 (hs:a.eval s=v) (A:Option Addr) (m c:Nat) (us:List Value) (hx:a.eval x= .slice A m c) (src:Sl w A m us) (hu1:∀ u∈us,u.oneCell'=true)
 (hb:(n+m)*bytes≤140737488355328) (hn:n+m<2^62)
 (h:∀ v' w',w'.ownsRow base e 1 v' (n+m) (xs++us)→w.grownBy w' v.ownBlock→wpList P ops Q rest (a.put o.dst v') w'):wpList P ops Q (o::rest) a w:=by
 obtain⟨i0,hi,hz0,hz1',hz2⟩:=info_parts h2;cases A with
 | none =>
  have hm:m=0:=by
   refine Classical.byContradiction fun h0 => ?_
   obtain⟨b,off,ha,-⟩:=src.2 0 (by omega);cases ha
  subst hm;have hus:us = []:=List.eq_nil_of_length_eq_zero src.1;subst hus;refine wpList_plain hg fun _ hK => ?_
  have hrun:=run_app_nil (P:=P) w base t o.type e i0 1 h1 hi v n xs hown c;unfold Oper.wp execOp;simp only[ho,resolve,invoke,builtin,Sem.run_bind,Sem.run_pure,Result.andThen_ok,List.map_toArray,List.map_cons,List.map_nil,hs,hx,hrun];exact hK _ _ (h v w (by simpa using hown) (World.grownBy.refl w _))
 | some ad =>
  refine wpList_append_own _ hg s x t ho base e i0 z 1 bytes h1 hi hz0 hz1' hz2 hz1 (by decide) v n xs hs hown ad m c us hx (by rw[src.1];omega) ?_ hu1 (by unfold maxLen;omega) hb hbase ?_
  ·by_cases hm:0<m
   ·exact src.cellsOf _ hm
   ·have hus:us = []:=List.eq_nil_of_length_eq_zero (by rw[src.1];omega);subst hus;intro j u hj;simp at hj
  ·intro v' w' a1 a2 _;exact h v' w' a1 a2
end
end Go.Proofs.Ytphfacfjhjcllaa
namespace Go.Proofs.Ytphfacfjhjcllaa
open Go.RowKit
theorem info_Bin : (Try.prog.info? 97).map (fun i=>(i.zero,i.size,i.bytes))=some (some (.agg #[.int .i64 0,.int .i64 0]),2,16):=by kernel_rfl
theorem bin_new (w:World) (c b:Int):Sl (w.alloc (.cells #[.int .i64 c,.int .i64 b] 97)) (some ⟨w.heap.size,0,none⟩) 2 [.int .i64 c,.int .i64 b]:=Sl_new w [.int .i64 c,.int .i64 b] 97
theorem ownc {w:World} {b e s n:Nat} {v:Value} {xs ys:List Value} (h:w.ownsRow b e s v n xs) (he:xs=ys):w.ownsRow b e s v n ys:=he▸h
theorem upL_one {b k:Nat} {i:Nat} (h:i<k):upL b k (i+1)=upL b k i ++ [(b:Int)+min (i:Int) 5,1]:=by
 rw[upL,if_neg (by omega)];congr 2;omega
theorem upL_zero (b k:Nat):upL b k (k+1)=upL b k k ++ [(b:Int)+min (k:Int) 5,0]:=by
 rw[upL,if_pos rfl];congr 2;omega
theorem pow_le15 {i:Nat} (h:i≤15):2^(i+1)≤65536:=Nat.pow_le_pow_right (by decide) (show i+1≤16 by omega)
theorem l10Number_any (n b:Nat) (w:World) (hn:n<32768) (hb:b≤100) :
 Calls Try.prog 51 #[.int .i64 n,.int .i64 b] w fun e w'=>∃ a c,e= .returned (.slice a (numN n) c)∧w'.ownsRow w.heap.size 97 2 (.slice a (numN n) c) (numN n) ((numL n b).map (Value.int .i64))∧Ext w w':=by
 obtain⟨k,hk⟩:∃ k,k=kOf n:=⟨_,rfl⟩;have hk15:=kOf_le hn;have hlo:=kOf_lo n;have hhi:=kOf_hi n;rw[←hk]at hk15 hlo hhi;have HK:=Lib.hid (show numL n b=upL b k (k+1)++dnL (n+1) b k k by rw[hk];rfl);have HKN:=Lib.hid (show numN n=2*k+1 by rw[hk];rfl);have HLO:=Lib.hid hlo;have HHI:=Lib.hid hhi;obtain⟨W,hW⟩:∃ W,W=w.heap.size:=⟨_,rfl⟩;have F0:FR w.heap.size 97 w (w.alloc (.cells #[] 97)):=FR.of_ext (Ext.alloc w _) (Nat.le_refl _);have o0:=World.ownsRow_made (base:=w.heap.size) (e:=97) (size:=2) w #[] 0 (Nat.le_refl _) (by simp) rfl;rw[←hW]at F0 o0⊢;have hWw:W≤w.heap.size:=by omega
 have HW:=Lib.hid hW;clear hk hlo hhi;go_enter Try.func51,Try.ntmps51
 go_wp2_with fail
 rw[←hW];clear hW;go_loopw [5,6] (fun v y wr=>∃ i:Nat,i≤k∧y= .int .i64 i∧wr.ownsRow W 97 2 v i ((upL b k i).map (Value.int .i64))∧FR W 97 w wr) (fun _ y _=>k-(intOf y).toNat)
 case atStart=>exact⟨0,by omega,rfl,by simpa [upL] using o0,F0⟩
 case round =>
  obtain⟨i,hi,rfl,o1,F1⟩:=hrel;clear o0 F0;obtain⟨a1,c1,rfl⟩:=owns_form o1;have hB1:=Nat.le_trans hWw F1.size;have hp:=pow_le15 (show i≤15 by omega);have hpi:(2:Int)^(i+1)=((2^(i+1):Nat):Int):=by simp
  have hp0:=Nat.pow_pos (show 0<2 by decide) (n:=i+1);have hsh:wrap64 (2*2^i)=(2:Int)^(i+1):=by
   have e:(2:Int)*2^i=2^(i+1):=by rw[Int.pow_succ,Int.mul_comm]
   rw[e,hpi];unfold wrap64;omega
  have HPI:=Lib.hid hpi;clear hpi
  by_cases hlt:i<k
  ·have hd:decide ((2:Int)^(i+1)≤(n:Int)+1)=true:=by
    have:=Nat.pow_le_pow_right (show 0<2 by decide) (show i+1≤k by omega);have:=HLO.out;rw[HPI.out];simp only[decide_eq_true_eq];omega
   have HNX:=Lib.hid (upL_one (b:=b) hlt);go_wp2_with (at_builtin;go_loud (refine wpList_appk _ rfl (o1.alloc _) (by simp;omega) _ _ 76 rfl (.agg #[.int .i64 0,.int .i64 0]) 16 Try.underlying76 info_Bin rfl (by decide) rfl ⟨wr.heap.size,0,none⟩ 1 1 [.int .i64 _,.int .i64 _] rfl rfl ((bin_new wr _ _).cellsOf _ (by simp)) (by intro u hu;simp at hu;rcases hu with rfl|rfl <;> rfl) (by omega) (by omega) ?_;intro v2 w2 own2 gr2 _;refine Hid.out ?_))
   refine Lib.hid ?_;obtain⟨a2,c2,rfl⟩:=owns_form own2;have F2:=(F1.trans (FR.of_ext (Ext.alloc wr (.cells #[_,_] 97)) hB1)).trans (FR.of_row (o1.alloc _) gr2 (by simp;omega));have own3:=ownc own2 (show _=(upL b k (i+1)).map (Value.int .i64) by rw[HNX.out];simp);clear own2 hsh;go_wp2;go_roundw
   case rel=>exact⟨i+1,by omega,by go_num,own3,F2⟩
   case measure=>simp[intOf] <;> omega
  ·have HI:=Lib.hid (show i=k by omega);have hd:decide ((2:Int)^(i+1)≤(n:Int)+1)=false:=by
    have:=HHI.out;rw[HPI.out,HI.out];simp only[decide_eq_false_iff_not];omega
   go_wp2_with (at_builtin;go_loud (refine wpList_appk _ rfl (o1.alloc _) (by simp;omega) _ _ 76 rfl (.agg #[.int .i64 0,.int .i64 0]) 16 Try.underlying76 info_Bin rfl (by decide) rfl ⟨wr.heap.size,0,none⟩ 1 1 [.int .i64 _,.int .i64 _] rfl rfl ((bin_new wr _ _).cellsOf _ (by simp)) (by intro u hu;simp at hu;rcases hu with rfl|rfl <;> rfl) (by omega) (by omega) ?_;intro v2 w2 own2 gr2 _;refine Hid.out ?_))
   refine Lib.hid ?_;obtain⟨a2,c2,rfl⟩:=owns_form own2;have F2:=(F1.trans (FR.of_ext (Ext.alloc wr (.cells #[_,_] 97)) hB1)).trans (FR.of_row (o1.alloc _) gr2 (by simp;omega));have own3:=ownc own2 (show _=(upL b k (k+1)).map (Value.int .i64) by rw[upL_zero,HI.out];simp);clear own2 hsh hd o1 F1 hlt hi;go_wp2_with fail
   go_loopw [5,7] (fun v y wr=>∃ J:Nat,J≤k∧y= .int .i64 ((J:Int)-1)∧wr.ownsRow W 97 2 v (k+1+(k-J)) ((upL b k (k+1)++dnL (n+1) b k (k-J)).map (Value.int .i64))∧FR W 97 w wr) (fun _ y _=>((intOf y)+1).toNat)
   case atStart=>exact⟨k,by omega,by rw[HI.out];congr 1;unfold wrap64;omega,by have hI:=HI.out;subst hI;simpa [dnL] using own3,F2⟩
   case round =>
    obtain⟨J,hJ,rfl,o3,F3⟩:=hrel;clear own3 F2;obtain⟨a3,c3,rfl⟩:=owns_form o3;have hB3:=Nat.le_trans hWw F3.size;cases J with
    | zero =>
     have hd3:decide ((0:Int)≤((0:Nat):Int)-1)=false:=by simp
     have hc:k+1+(k-0)=numN n:=by rw[HKN.out];omega
     have ho:=Lib.hid (show(upL b k (k+1)++dnL (n+1) b k (k-0))=numL n b by rw[HK.out];rfl);rw[hc]at o3⊢;rw[ho.out]at o3;clear hc;go_wp2;go_ret
     exact⟨_,_,rfl,o3,by show Below w.heap.size w wr;rw[←HW.out];exact F3.lo⟩
    | succ J' =>
     rw[show(((J'+1:Nat):Int)-1)=(J':Int) by omega];have hd3:decide ((0:Int)≤(J':Int))=true:=by simp
     have hq:((n:Int)+1)/2^J'=(((n+1)/2^J':Nat):Int):=by simp
     have hkJ:k-(J'+1)+1=k-J':=by omega
     have HNX:=Lib.hid (show dnL (n+1) b k (k-J')=dnL (n+1) b k (k-(J'+1)) ++ [(b:Int)+6,((n:Int)+1)/2^J'%2] by rw[←hkJ,dnL,show k-1-(k-(J'+1))=J' by omega];congr 2);have HC:=Lib.hid (show k+1+(k-(J'+1))+1=k+1+(k-J') by omega);have HTM:=Lib.hid (show(((n:Int)+1)/2^J').tmod 2=((n:Int)+1)/2^J'%2 from Int.tmod_eq_emod_of_nonneg (hq▸Int.natCast_nonneg _));clear hkJ hq;go_wp2_with (at_builtin;go_loud (refine wpList_appk _ rfl (o3.alloc _) (by simp;omega) _ _ 76 rfl (.agg #[.int .i64 0,.int .i64 0]) 16 Try.underlying76 info_Bin rfl (by decide) rfl ⟨wr.heap.size,0,none⟩ 1 1 [.int .i64 _,.int .i64 _] rfl rfl ((bin_new wr _ _).cellsOf _ (by simp)) (by intro u hu;simp at hu;rcases hu with rfl|rfl <;> rfl) (by omega) (by omega) ?_;intro v2 w2 own2 gr2 _;refine Hid.out ?_))
     refine Lib.hid ?_;obtain⟨a2,c2,rfl⟩:=owns_form own2;have F2:=(F3.trans (FR.of_ext (Ext.alloc wr (.cells #[_,_] 97)) hB3)).trans (FR.of_row (o3.alloc _) gr2 (by simp;omega));rw[HC.out]at own2⊢;have own3:=ownc own2 (show _=(upL b k (k+1)++dnL (n+1) b k (k-J')).map (Value.int .i64) by rw[HNX.out];simp;exact HTM.out);clear own2;go_wp2;go_roundw
     case rel=>exact⟨J',by omega,by go_num,own3,F2⟩
     case measure=>simp[intOf] <;> omega
attribute [local go_sem] Oper.semAt_some
/-- Behind k levels of the scan order: how many zeros since the last run, the runs so far. -/
def runT (zs:List Int):Nat→Nat×List (Int×Int)
 | 0=>(0,[])
 | k+1=>if nth zs (nth scanL k).toNat=0 then((runT zs k).1+1,(runT zs k).2)else(0,(runT zs k).2 ++ [(((runT zs k).1:Int),nth zs (nth scanL k).toNat)])
/-- The runs of a block. -/
def runsL (zs:List Int):List (Int×Int):=(runT zs 16).2
theorem runT_le (zs:List Int) (k:Nat):(runT zs k).1≤k:=by
 induction k with
 | zero=>exact Nat.le_refl _
 | succ k ih=>unfold runT;split <;> simp <;> omega
theorem runT_len (zs:List Int) (k:Nat):(runT zs k).2.length≤k:=by
 induction k with
 | zero=>exact Nat.le_refl _
 | succ k ih=>unfold runT;split <;> simp <;> omega
theorem runsL_len (zs:List Int):(runsL zs).length≤16:=runT_len zs 16
theorem scan_rng : ∀ k,k<16→0≤nth scanL k∧nth scanL k≤15:=by decide
/-- A run of levels within B. -/
def rOk (B:Int) (x:Int×Int):Prop:=0≤x.1∧x.1≤15∧x.2≠0 ∧ -B≤x.2∧x.2≤B
abbrev Rn (B : Int) := { x : Int × Int // rOk B x }
def encR {B:Int} (x:Rn B):Array Value := #[.agg #[.int .i64 x.1.1,.int .i64 x.1.2]]
end Go.Proofs.Ytphfacfjhjcllaa
namespace Go.Proofs.Ytphfacfjhjcllaa
open Go.RowKit
/-- Diagonal d, its first j candidates, behind l. -/
def spY (d j:Nat):Nat:=if d%2=0 then 3-j else j
def spIn (d:Nat) (l:List Int):Nat→List Int
 | 0=>l
 | j+1=>if spY d j≤d∧d-spY d j≤3 then spIn d l j ++ [4*(spY d j:Int)+d-(spY d j:Int)]else spIn d l j
def spOut : Nat→List Int
 | 0 => []
 | d+1=>spIn d (spOut d) 4
theorem spOut_all : spOut 7=scanL:=by decide
theorem sp_len : ∀ d,d<7→∀ j,j≤4→(spIn d (spOut d) j).length≤16:=by decide
theorem info_intU : (Try.prog.info? 3).map (fun i=>(i.zero,i.size,i.bytes))=some (some (.int .i64 0),1,8):=by kernel_rfl
theorem info_Run : (Try.prog.info? 113).map (fun i=>(i.zero,i.size,i.bytes))=some (some (.agg #[.int .i64 0,.int .i64 0]),2,16):=by kernel_rfl
theorem spec_ScanOrder_any (w:World) :
 Calls Try.prog 67 #[] w fun e w'=>∃ a c,e= .returned (.slice a 16 c)∧w'.ownsRow w.heap.size 3 1 (.slice a 16 c) 16 (scanL.map (Value.int .i64))∧Ext w w':=by
 obtain⟨W,hW⟩:∃ W,W=w.heap.size:=⟨_,rfl⟩;have F0:FR w.heap.size 3 w (w.alloc (.cells #[] 3)):=FR.of_ext (Ext.alloc w _) (Nat.le_refl _);have o0:=World.ownsRow_made (base:=w.heap.size) (e:=3) (size:=1) w #[] 0 (Nat.le_refl _) (by simp) rfl;rw[←hW]at F0 o0⊢;have hWw:W≤w.heap.size:=by omega
 have HW:=Lib.hid hW;go_enter Try.func67,Try.ntmps67
 go_wp2_with fail
 rw[←hW];clear hW;go_loopw [1,2] (fun v y wr=>∃ d:Nat,d≤7∧y= .int .i64 d∧wr.ownsRow W 3 1 v (spOut d).length ((spOut d).map (Value.int .i64))∧FR W 3 w wr) (fun _ y _=>7-(intOf y).toNat)
 case atStart=>exact⟨0,by omega,rfl,by simpa [spOut] using o0,F0⟩
 case round =>
  obtain⟨d,hd,rfl,o1,F1⟩:=hrel;clear o0 F0;obtain⟨a1,c1,rfl⟩:=owns_form o1
  by_cases hlt:d<7
  ·have hd7:decide ((d:Int)<7)=true:=by simp;omega
   go_wp2_with fail
   go_loopw [1,3] (fun v y wr=>∃ j:Nat,j≤4∧y= .int .i64 j∧wr.ownsRow W 3 1 v (spIn d (spOut d) j).length ((spIn d (spOut d) j).map (Value.int .i64))∧FR W 3 w wr) (fun _ y _=>4-(intOf y).toNat)
   case atStart=>exact⟨0,by omega,rfl,o1,F1⟩
   case round =>
    obtain⟨j,hj,rfl,o2,F2⟩:=hrel;clear o1 F1;obtain⟨a2,c2,rfl⟩:=owns_form o2;have hB2:=Nat.le_trans hWw F2.size
    by_cases hlt2:j<4
    ·have hd4:decide ((j:Int)<4)=true:=by simp;omega
     have hln:=sp_len d hlt j (by omega);have HST:=Lib.hid (show spIn d (spOut d) (j+1)=if spY d j≤d∧d-spY d j≤3 then spIn d (spOut d) j ++ [4*(spY d j:Int)+d-(spY d j:Int)]else spIn d (spOut d) j from rfl);obtain⟨L,hL⟩:∃ L,L=spIn d (spOut d) j:=⟨_,rfl⟩;rw[←hL]at HST o2 hln⊢;have hyr:spY d j≤3:=by unfold spY;split <;> omega
     have hyd:(d%2=0∧spY d j=3-j)∨(d%2=1∧spY d j=j):=by
      unfold spY
      by_cases h:d%2=0
      ·rw[if_pos h];exact .inl ⟨h,rfl⟩
      ·rw[if_neg h];exact .inr ⟨by omega,rfl⟩
     generalize spY d j=y at *;clear hL;rcases hyd with⟨he,rfl⟩|⟨he,rfl⟩
     ·have hdm:((d:Int).tmod 2 == 0)=true:=by
       rw[Int.tmod_eq_emod_of_nonneg (by omega)];simp;omega
      go_wp2_with fail
      by_cases hin:3-j≤d∧d-(3-j)≤3
      ·refine(l1In_yes ((d:Int)-(3-(j:Int))) 0 3 _ (by omega) (by omega)).mono ?_
       rintro e w3 ⟨rfl,rfl⟩
       go_wp2_with (at_builtin;refine wpList_app _ o2 hB2 _ rfl _ _ 26 rfl (.int .i64 0) 8 Try.underlying26 info_intU rfl rfl rfl rfl (by omega) (by omega) ?_;intro v3 w3 own3 gr3 _;refine Hid.out ?_)
       refine Lib.hid ?_;obtain⟨a3,c3,rfl⟩:=owns_form own3;have F3:=F2.trans (FR.of_row o2 gr3 hB2);have HN:=Lib.hid (show spIn d (spOut d) (j+1)=L ++ [4*(3-(j:Int))+d-(3-(j:Int))] by rw[HST.out,if_pos hin];congr 2;omega);clear HST;go_wp2;go_roundw
       case rel=>exact⟨j+1,by omega,by go_num,by rw[HN.out,List.length_append,List.map_append];exact own3,F3⟩
       case measure=>simp[intOf] <;> omega
      ·refine(l1In_no ((d:Int)-(3-(j:Int))) 0 3 _ (by omega)).mono ?_
       rintro e w3 ⟨rfl,rfl⟩
       have HN:=Lib.hid (show spIn d (spOut d) (j+1)=L by rw[HST.out,if_neg hin]);clear HST;go_wp2;go_roundw
       case rel=>exact⟨j+1,by omega,by go_num,by rw[HN.out];exact o2,F2⟩
       case measure=>simp[intOf] <;> omega
     ·have hdm:((d:Int).tmod 2 == 0)=false:=by
       rw[Int.tmod_eq_emod_of_nonneg (by omega)];simp;omega
      go_wp2_with fail
      by_cases hin:y≤d∧d-y≤3
      ·refine(l1In_yes ((d:Int)-(y:Int)) 0 3 _ (by omega) (by omega)).mono ?_
       rintro e w3 ⟨rfl,rfl⟩
       go_wp2_with (at_builtin;refine wpList_app _ o2 hB2 _ rfl _ _ 26 rfl (.int .i64 0) 8 Try.underlying26 info_intU rfl rfl rfl rfl (by omega) (by omega) ?_;intro v3 w3 own3 gr3 _;refine Hid.out ?_)
       refine Lib.hid ?_;obtain⟨a3,c3,rfl⟩:=owns_form own3;have F3:=F2.trans (FR.of_row o2 gr3 hB2);have HN:=Lib.hid (show spIn d (spOut d) (y+1)=L ++ [4*(y:Int)+d-(y:Int)] by rw[HST.out,if_pos hin]);clear HST;go_wp2;go_roundw
       case rel=>exact⟨y+1,by omega,by go_num,by rw[HN.out,List.length_append,List.map_append];exact own3,F3⟩
       case measure=>simp[intOf] <;> omega
      ·refine(l1In_no ((d:Int)-(y:Int)) 0 3 _ (by omega)).mono ?_
       rintro e w3 ⟨rfl,rfl⟩
       have HN:=Lib.hid (show spIn d (spOut d) (y+1)=L by rw[HST.out,if_neg hin]);clear HST;go_wp2;go_roundw
       case rel=>exact⟨y+1,by omega,by go_num,by rw[HN.out];exact o2,F2⟩
       case measure=>simp[intOf] <;> omega
    ·have HJ:=Lib.hid (show j=4 by omega);have hd4:decide ((j:Int)<4)=false:=by simp;omega
     have HO:=Lib.hid (show spIn d (spOut d) j=spOut (d+1) by rw[HJ.out];rfl);rw[HO.out]at o2⊢;go_wp2;go_roundw
     case rel=>exact⟨d+1,by omega,by go_num,o2,F2⟩
     case measure=>simp[intOf] <;> omega
  ·have HD:=Lib.hid (show d=7 by omega);have hd7:decide ((d:Int)<7)=false:=by simp;omega
   have HO:=Lib.hid (show spOut d=scanL by rw[HD.out];exact spOut_all);rw[HO.out,show scanL.length=16 from rfl]at o1⊢;go_wp2;go_ret
   exact⟨_,_,rfl,o1,by show Below w.heap.size w wr;rw[←HW.out];exact F1.lo⟩
end Go.Proofs.Ytphfacfjhjcllaa
