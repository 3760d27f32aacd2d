/- The range coder: the reference's shift. | The range coder: the reference's put. | The range coder: the reference's BinsValid and EncodeBins. | The decisions for a number. | The decisions for a number: the reference. -/
import Derived.Test.YtmokncpppmchfaaDoorQs4
import Derived.Deep.Cut
import Derived.LoopIn
set_option linter.unusedVariables false
set_option linter.unusedSimpArgs false
set_option maxRecDepth 100000
set_option maxHeartbeats 4000000
namespace Go.Proofs.YtmokncpppmchfaaDoor
open Go.RowKit
theorem gsO (w:World) (g o:Nat) (u:Value):w.grownBy (w.setCell ⟨g,o,none⟩ u) (some g):=⟨rfl,rfl,rfl,by simp,fun k _ hk=>heap_setCell_other w ⟨g,o,none⟩ k u (fun e=>hk (by simp[e]))⟩
theorem own_hiE {w w':World} {base e s n:Nat} {v:Value} {xs:List Value} {row:Option Nat} (h:w.ownsRow base e s v n xs) (g:w.grownBy w' row) (hb:∀ q,row=some q→q<base):w'.ownsRow base e s v n xs:=by
 refine h.kept g ?_;cases hv:v.ownBlock with
 | none=>exact .inl rfl
 | some k=>right;intro e;have h1:=owns_ge h k hv;have h2:=hb k e.symm;omega
theorem CM.ext {w w':World} {H O:Nat} {c:Ac} {vo vc:Value} (h:CM w H O c vo vc) (e:Ext w w'):CM w' H O c vo vc:=⟨e.blk h.bk,owns_ext h.ro e,owns_ext h.rc e,h.hO,Nat.le_trans h.hs e.size⟩
theorem CM.mk5 {w:World} {H O L S m:Nat} {out:List Int} {ch:List Nat} {x:Int} {vo vc:Value} (hb:w.heap[O]?=some (.cells #[.int .i64 (L:Int),.int .i64 (S:Int),vo,vc] 100 (0,0)))
 (ho:w.ownsRow H 5 1 vo (m+1) (u8s out ++ [.int .u8 x])) (hm:out.length=m) (hc:w.ownsRow H 3 1 vc 40 (ch64 ch)) (hO:H≤O) (hs:H≤w.heap.size):CM w H O ⟨L,S,out ++ [x],ch⟩ vo vc:=by
 refine⟨hb,?_,hc,hO,hs⟩;have e:(out ++ [x]).length=m+1:=by simp[hm]
 show World.ownsRow _ _ _ _ _ (out ++ [x]).length _;rw[e];unfold u8s at *;rw[List.map_append];exact ho
theorem CM.cellB {w:World} {H O g n cap:Nat} {c:Ac} {vc:Value} (h:CM w H O c (.slice (some ⟨g,0,none⟩) n cap) vc) {i:Nat} {v:Int} (hv:c.out[i]?=some v):w.cell? ⟨g,i,none⟩=some (.int .u8 v):=by
 have:=h.ro.cells (g:=g) rfl i (.int .u8 v) (by simp[u8s,hv])
 by_cases h0:i=0 <;> simpa [Addr.add,h0] using this
theorem CM.form {w:World} {H O:Nat} {c:Ac} {vo vc:Value} (h:CM w H O c vo vc) (hn:0<c.out.length):∃ g cap,vo= .slice (some ⟨g,0,none⟩) c.out.length cap∧c.out.length≤cap∧cap≤maxLen∧H≤g:=by
 rcases h.ro.2 with⟨rfl,h0⟩|⟨g,cap,cur,rfl,p0,-,p2,p3,-⟩
 ·omega
 ·exact⟨g,cap,rfl,p2,p3,p0⟩
theorem CM.frozB {w:World} {H O g n cap:Nat} {c:Ac} {vc:Value} (h:CM w H O c (.slice (some ⟨g,0,none⟩) n cap) vc) (i:Nat):w.frozen? ⟨g,i,none⟩=false:=by
 have hn:n=c.out.length:=by rcases h.ro.2 with⟨h0,-⟩|⟨_,_,_,h0,-⟩ <;> cases h0 <;> rfl
 subst hn;exact h.ro.frozenAt i
def outL (r:List Int) (x:Int) (m i:Nat):List Int:=r++x::(List.replicate (m-i) 255++List.replicate i 0)
theorem outL_len {r:List Int} {x:Int} {m i:Nat} (h:i≤m):(outL r x m i).length=r.length+1+m:=by simp[outL];omega
theorem outL_get {r:List Int} {x:Int} {m i:Nat} (h:i<m):(outL r x m i)[r.length+(m-i)]?=some 255:=by
 unfold outL;obtain⟨q,hq⟩:∃ q,m-i=q+1:=⟨m-i-1,by omega⟩;rw[List.getElem?_append_right (by omega),show r.length+(m-i)-r.length=q+1 by omega,hq];simp[List.getElem?_append]
theorem outL_top {r:List Int} {x:Int} {m:Nat} : (outL r x m m)[r.length]?=some x:=by
 unfold outL;rw[List.getElem?_append_right (by omega)];simp
theorem outL_set {r:List Int} {x:Int} {m i:Nat} (h:i<m):(outL r x m i).set (r.length+(m-i)) 0=outL r x m (i+1):=by
 unfold outL;obtain⟨q,hq⟩:∃ q,m-i=q+1:=⟨m-i-1,by omega⟩;have h2:m-(i+1)=q:=by omega
 rw[List.set_append_right _ _ (by omega),show r.length+(m-i)-r.length=q+1 by omega,hq,h2,List.replicate_succ' (n:=q)]
 congr 1
 simp[List.replicate_succ]
theorem spec_shift_no (w:World) (H O:Nat) (c:Ac) (vo vc:Value) (h:CM w H O c vo vc) (hn:c.out.length≤1000000) (hl:c.low<4294967296) :
 Calls Tryd.prog 64 #[.pointer (some ⟨O,0,none⟩)] w fun e w'=>e= .returned (.tuple #[])∧(∃ vo',CM w' H O ⟨c.low%16777216*256,c.span,c.out ++ [((c.low/16777216:Nat):Int)],c.ch⟩ vo' vc)∧Below H w w':=by
 obtain⟨L,S0,out,ch⟩:=c;simp only at hl hn⊢;have hd:decide ((4294967296:Int)≤(L:Int))=false:=by simp;omega
 have HL:=Lib.hid hl;obtain⟨m,hm⟩:∃ m,out.length=m:=⟨_,rfl⟩;rw[hm]at hn;obtain⟨bl,⟨k0,k1,k2,k3⟩,f0,f1,f2,f3⟩:=bx4 h.bk;simp only at k0;have HC:=Lib.hid h;clear hl h;go_enter Tryd.func64,Tryd.ntmps64
 go_upto_region 7 with fail
 clear hd bl k0 k1 k2 k3 f0 f1 f2 f3;have hC:=HC.out;have hL:=HL.out;have hB:=Below.refl H w;obtain⟨wr,hwr⟩:∃ wr,wr=w:=⟨_,rfl⟩;rw[←hwr];rw[show CM w H O ⟨L,S0,out,ch⟩ vo vc=CM wr H O ⟨L,S0,out,ch⟩ vo vc by rw[hwr]]at hC;rw[show Below H w w=Below H w wr by rw[hwr]]at hB;clear hwr HC HL;obtain⟨HI,hHI0⟩:∃ HI,HI=wr.heap.size:=⟨_,rfl⟩;have hHI:H≤HI:=by rw[hHI0];exact hC.hs
 have hvl:∀ q,vo.ownBlock=some q→q<HI:=fun q hq=>by rw[hHI0];exact(hC.ro.lt q hq).2
 have hOI:O<HI:=by rw[hHI0];exact lt_of_block hC.bk
 have hHIs:HI≤wr.heap.size:=by omega
 have hrc:=hC.rc;have hro:=hC.ro;have hbk:=hC.bk;simp only at hbk;have hHO:=hC.hO;rw[show((⟨L,S0,out,ch⟩:Ac).out.length)=m from hm]at hro;have hq64:IntKind.i64.wrap ((L:Int)/16777216)=(L:Int)/16777216:=by rw[IntKind.wrap_i64];omega
 have hq8:IntKind.u8.wrap ((L:Int)/16777216)=(L:Int)/16777216:=by rw[IntKind.wrap_u8];omega
 clear hHI0 hC;have hext:Stab (fun wa wb=>Ext wa wb) (fun i own ys wx=>match i with|0=>own= .pointer (some ⟨O,0,none⟩)|1=>own= .pointer (some ⟨O,0,none⟩)|2=>own= .pointer (some ⟨O,0,none⟩)|3=>own= .pointer (some ⟨O,2,none⟩)|4=>own=vo|5=>own= .pointer (some ⟨O,0,none⟩)|6=>own= .pointer (some ⟨O,0,none⟩)|7=>own= .pointer (some ⟨O,0,none⟩)|8=>own= .int .i64 (L:Int)|9=>own= .int .i64 ((L:Int)/16777216)|10=>own= .int .u8 ((L:Int)/16777216)|11=>∃(q:Nat),own= .slice (some ⟨q,0,none⟩) 1 1∧wx.ownsRow HI 5 1 (.slice (some ⟨q,0,none⟩) 1 1) 1 [.int .u8 ((L:Int)/16777216)]|12=>∃(a3:Option Addr) (c3:Nat),own= .slice a3 (m+1) c3∧wx.ownsRow H 5 1 (.slice a3 (m+1) c3) (m+1) (u8s out ++ [.int .u8 ((L:Int)/16777216)])|13=>own= .pointer (some ⟨O,0,none⟩)|14=>own= .pointer (some ⟨O,2,none⟩)|15=>∃ v2,CM wx H O ⟨L,S0,out ++ [(L:Int)/16777216],ch⟩ v2 vc|_=>True):=by
  intro i own ys wa wb e h
  match i,h with
  | 0,h|1,h|2,h|3,h|4,h|5,h|6,h|7,h|8,h|9,h|10,h|13,h|14,h=>exact h
  | 11,h=>obtain⟨q9,h1,h2⟩:=h;exact⟨q9,h1,owns_ext h2 e⟩
  | 12,h=>obtain⟨a9,c9,h1,h2⟩:=h;exact⟨a9,c9,h1,owns_ext h2 e⟩
  | 15,h=>obtain⟨v9,h1⟩:=h;exact⟨v9,h1.ext e⟩
  | _+16,_=>trivial
 have Hext:=Lib.hid hext;clear hext;refine wp_region_invL (by kernel_rfl) [(52,0),(53,1),(54,2),(55,3),(56,4),(57,5),(58,6),(59,7),(60,8),(61,9),(62,10),(63,11),(64,12),(65,13),(66,14)] [[],[],[1],[1,2],[1,2,3],[],[5],[5,6],[5,6,7],[5,6,7,8],[5,6,7,8,9],[5,6,7,8,9,10],[1,2,3,4,5,6,7,8,9,10,11],[0,1,2,3,4,5,6,7,8,9,10,11,12],[0,1,2,3,4,5,6,7,8,9,10,11,12,13],[0,1,2,3,4,5,6,7,8,9,10,11,12,13,14]] (fun i own ys wx=>match i with|0=>own= .pointer (some ⟨O,0,none⟩)|1=>own= .pointer (some ⟨O,0,none⟩)|2=>own= .pointer (some ⟨O,0,none⟩)|3=>own= .pointer (some ⟨O,2,none⟩)|4=>own=vo|5=>own= .pointer (some ⟨O,0,none⟩)|6=>own= .pointer (some ⟨O,0,none⟩)|7=>own= .pointer (some ⟨O,0,none⟩)|8=>own= .int .i64 (L:Int)|9=>own= .int .i64 ((L:Int)/16777216)|10=>own= .int .u8 ((L:Int)/16777216)|11=>∃(q:Nat),own= .slice (some ⟨q,0,none⟩) 1 1∧wx.ownsRow HI 5 1 (.slice (some ⟨q,0,none⟩) 1 1) 1 [.int .u8 ((L:Int)/16777216)]|12=>∃(a3:Option Addr) (c3:Nat),own= .slice a3 (m+1) c3∧wx.ownsRow H 5 1 (.slice a3 (m+1) c3) (m+1) (u8s out ++ [.int .u8 ((L:Int)/16777216)])|13=>own= .pointer (some ⟨O,0,none⟩)|14=>own= .pointer (some ⟨O,2,none⟩)|15=>∃ v2,CM wx H O ⟨L,S0,out ++ [(L:Int)/16777216],ch⟩ v2 vc|_=>True) (fun Lx wx=>(Below H w wx∧HI≤wx.heap.size)∧(∃ z,wx.heap[O]?=some (.cells #[.int .i64 (L:Int),.int .i64 (S0:Int),z,vc] 100 (0,0))∧(Lx 15=false→z=vo))∧wx.ownsRow H 5 1 vo m (u8s out)∧wx.ownsRow H 3 1 vc 40 (ch64 ch)) (by kernel_rfl) (by kernel_rfl) (by kernel_rfl) ?g0_r1 ?gop_r1 ?gend_r1
 case g0_r1=>exact⟨⟨hB.drew,hHIs⟩,⟨_,hbk,fun _=>rfl⟩,owns_ext hro (Ext.drewN _ 1),owns_ext hrc (Ext.drewN _ 1)⟩
 case gop_r1 =>
  refine⟨?_,?_,?o2,?o3,?o4,?_,?o6,?o7,?o8,?o9,?o10,?o11,?o12,?o13,?o14,?o15,trivial⟩ <;> (intro Lx xs wx hG hl ha hb hD hI Qo Kx hK hQo;simp only[patchS,Nat.reduceAdd,Nat.reduceEqDiff,↓reduceIte]at hQo⊢)
  case o2 =>
   clear hl ha hb;rw[ddq (hD 1 rfl)]at hQo⊢;clear hD hI;go_wp2;exact hK.out _ _ ⟨rfl,hG,kkp⟩
  case o3 =>
   clear hl ha hb;rw[ddq (hD 2 rfl)]at hQo⊢;clear hD hI;go_wp2;exact hK.out _ _ ⟨rfl,hG,kkp⟩
  case o4 =>
   have l15:Lx 15=false:=hb 15 rfl;clear hl ha hb;rw[ddq (hD 3 rfl)]at hQo⊢;clear hD hI;obtain⟨z,g1,g2⟩:=hG.2.1;obtain rfl:=g2 l15;obtain⟨-,⟨k0,k1,k2,k3⟩,-⟩:=bx4 g1;go_wp2;exact hK.out _ _ ⟨rfl,hG,kkp⟩
  case o6 =>
   clear hl ha hb;rw[ddq (hD 5 rfl)]at hQo⊢;clear hD hI;go_wp2;exact hK.out _ _ ⟨rfl,hG,kkp⟩
  case o7 =>
   clear hl ha hb;rw[ddq (hD 6 rfl)]at hQo⊢;clear hD hI;go_wp2;exact hK.out _ _ ⟨rfl,hG,kkp⟩
  case o8 =>
   clear hl ha hb;rw[ddq (hD 7 rfl)]at hQo⊢;clear hD hI;obtain⟨z,g1,g2⟩:=hG.2.1;obtain⟨-,⟨k0,k1,k2,k3⟩,-⟩:=bx4 g1;go_wp2;exact hK.out _ _ ⟨rfl,hG,kkp⟩
  case o9 =>
   clear hl ha hb;rw[ddq (hD 8 rfl)]at hQo⊢;clear hD hI;go_wp2;exact hK.out _ _ ⟨rfl,hG,kkp⟩
  case o10 =>
   clear hl ha hb;rw[ddq (hD 9 rfl)]at hQo⊢;clear hD hI;go_wp2;exact hK.out _ _ ⟨rfl,hG,kkp⟩
  case o11 =>
   clear hl ha hb;rw[ddq (hD 10 rfl)]at hQo⊢;clear hD hI;have e8:=Ext.alloc wx (.cells #[.int .u8 ((L:Int)/16777216)] 5);have o9:=World.ownsRow_lit (base:=HI) (e:=5) (size:=1) wx #[.int .u8 ((L:Int)/16777216)] 1 hG.1.2 (by unfold maxLen;omega) rfl;go_wp2;obtain⟨⟨g0,gs⟩,⟨z,g3,g4⟩,g5,g6⟩:=hG;exact hK.out _ _ ⟨⟨_,rfl,o9⟩,⟨⟨g0.alloc (Nat.le_trans hHI gs) _,Nat.le_trans gs e8.size⟩,⟨z,e8.blk g3,g4⟩,owns_ext g5 e8,owns_ext g6 e8⟩,fun i _ _ _ own ys h=>Hext.out i own ys _ _ e8 h⟩
  case o12 =>
   clear hl ha hb;rw[ddq (hD 4 rfl)]at hQo⊢;have d11:∃(q:Nat),(xs 11) = .slice (some ⟨q,0,none⟩) 1 1∧wx.ownsRow HI 5 1 (.slice (some ⟨q,0,none⟩) 1 1) 1 [.int .u8 ((L:Int)/16777216)]:=hD 11 rfl;clear hD hI;generalize xs 11=y11 at *;obtain⟨q11,rfl,o11⟩:=d11;refine wpList_appk _ rfl hG.2.2.1 (Nat.le_trans hHI hG.1.2) _ _ _ rfl (.int .u8 0) 1 Tryd.underlying30 info_uint8 rfl (by decide) rfl ⟨q11,0,none⟩ 1 1 _ rfl rfl (o11.cells rfl) (by intro u hu;simp at hu;subst hu;rfl) (by omega) (by omega) ?_;intro v14 w14 own14 gr14 keep14;obtain⟨a14,c14,rfl⟩:=owns_form own14;have hst:∀(wy:World),(∀ e' own n' xs',wx.ownsRow HI e' 1 own n' xs'→wy.ownsRow HI e' 1 own n' xs')→Stbn 16 12 [[],[],[1],[1,2],[1,2,3],[],[5],[5,6],[5,6,7],[5,6,7,8],[5,6,7,8,9],[5,6,7,8,9,10],[1,2,3,4,5,6,7,8,9,10,11],[0,1,2,3,4,5,6,7,8,9,10,11,12],[0,1,2,3,4,5,6,7,8,9,10,11,12,13],[0,1,2,3,4,5,6,7,8,9,10,11,12,13,14]] (fun i own ys wx=>match i with|0=>own= .pointer (some ⟨O,0,none⟩)|1=>own= .pointer (some ⟨O,0,none⟩)|2=>own= .pointer (some ⟨O,0,none⟩)|3=>own= .pointer (some ⟨O,2,none⟩)|4=>own=vo|5=>own= .pointer (some ⟨O,0,none⟩)|6=>own= .pointer (some ⟨O,0,none⟩)|7=>own= .pointer (some ⟨O,0,none⟩)|8=>own= .int .i64 (L:Int)|9=>own= .int .i64 ((L:Int)/16777216)|10=>own= .int .u8 ((L:Int)/16777216)|11=>∃(q:Nat),own= .slice (some ⟨q,0,none⟩) 1 1∧wx.ownsRow HI 5 1 (.slice (some ⟨q,0,none⟩) 1 1) 1 [.int .u8 ((L:Int)/16777216)]|12=>∃(a3:Option Addr) (c3:Nat),own= .slice a3 (m+1) c3∧wx.ownsRow H 5 1 (.slice a3 (m+1) c3) (m+1) (u8s out ++ [.int .u8 ((L:Int)/16777216)])|13=>own= .pointer (some ⟨O,0,none⟩)|14=>own= .pointer (some ⟨O,2,none⟩)|15=>∃ v2,CM wx H O ⟨L,S0,out ++ [(L:Int)/16777216],ch⟩ v2 vc|_=>True) wx wy:=by
    intro wy hy ii hii hne hc own ys h
    match ii,h with
    | 0,h|1,h|2,h|3,h|4,h|5,h|6,h|7,h|8,h|9,h|10,h=>exact h
    | 11,h=>obtain⟨q9,h1,h2⟩:=h;exact⟨q9,h1,hy _ _ _ _ h2⟩
    | 12,h=>exact absurd rfl hne
    | 13,h|14,h|15,h=>exact absurd hc (by decide)
    | _+16,_=>trivial
   obtain⟨⟨g0,gs⟩,⟨z,g3,g4⟩,g5,g6⟩:=hG;have hb1:=blk_gr g3 gr14 (neO g5 g3 (by decide));exact hQo _ _ (hK.out _ _ ⟨⟨_,_,rfl,own14⟩,⟨⟨g0.grown gr14 (Nat.le_trans hHI gs) (owns_ge g5),Nat.le_trans gs gr14.size⟩,⟨z,hb1,g4⟩,keep14 _ _ _ _ (Nat.le_refl _) g5,g6.kept gr14 (owns_neE g6 g5 (by decide))⟩,hst _ (fun _ _ _ _ h=>own_hiE h gr14 hvl)⟩)
  case o13 =>
   clear hl ha hb;rw[ddq (hD 0 rfl)]at hQo⊢;clear hD hI;go_wp2;exact hK.out _ _ ⟨rfl,hG,kkp⟩
  case o14 =>
   clear hl ha hb;rw[ddq (hD 13 rfl)]at hQo⊢;clear hD hI;go_wp2;exact hK.out _ _ ⟨rfl,hG,kkp⟩
  case o15 =>
   clear hl ha hb;rw[ddq (hD 14 rfl)]at hQo⊢;have d12:∃(a3:Option Addr) (c3:Nat),(xs 12) = .slice a3 (m+1) c3∧wx.ownsRow H 5 1 (.slice a3 (m+1) c3) (m+1) (u8s out ++ [.int .u8 ((L:Int)/16777216)]):=hD 12 rfl;clear hD hI;generalize xs 12=y12 at *;obtain⟨a12,c12,rfl,o12⟩:=d12;obtain⟨z,g1,g2⟩:=hG.2.1;obtain⟨-,⟨k0,k1,k2,k3⟩,f0,f1,f2,f3⟩:=bx4 g1;go_wp2;have hst:∀(wy:World),(∀ b' own n' xs',wx.ownsRow b' 5 1 own n' xs'→wy.ownsRow b' 5 1 own n' xs')→Stbn 16 15 [[],[],[1],[1,2],[1,2,3],[],[5],[5,6],[5,6,7],[5,6,7,8],[5,6,7,8,9],[5,6,7,8,9,10],[1,2,3,4,5,6,7,8,9,10,11],[0,1,2,3,4,5,6,7,8,9,10,11,12],[0,1,2,3,4,5,6,7,8,9,10,11,12,13],[0,1,2,3,4,5,6,7,8,9,10,11,12,13,14]] (fun i own ys wx=>match i with|0=>own= .pointer (some ⟨O,0,none⟩)|1=>own= .pointer (some ⟨O,0,none⟩)|2=>own= .pointer (some ⟨O,0,none⟩)|3=>own= .pointer (some ⟨O,2,none⟩)|4=>own=vo|5=>own= .pointer (some ⟨O,0,none⟩)|6=>own= .pointer (some ⟨O,0,none⟩)|7=>own= .pointer (some ⟨O,0,none⟩)|8=>own= .int .i64 (L:Int)|9=>own= .int .i64 ((L:Int)/16777216)|10=>own= .int .u8 ((L:Int)/16777216)|11=>∃(q:Nat),own= .slice (some ⟨q,0,none⟩) 1 1∧wx.ownsRow HI 5 1 (.slice (some ⟨q,0,none⟩) 1 1) 1 [.int .u8 ((L:Int)/16777216)]|12=>∃(a3:Option Addr) (c3:Nat),own= .slice a3 (m+1) c3∧wx.ownsRow H 5 1 (.slice a3 (m+1) c3) (m+1) (u8s out ++ [.int .u8 ((L:Int)/16777216)])|13=>own= .pointer (some ⟨O,0,none⟩)|14=>own= .pointer (some ⟨O,2,none⟩)|15=>∃ v2,CM wx H O ⟨L,S0,out ++ [(L:Int)/16777216],ch⟩ v2 vc|_=>True) wx wy:=by
    intro wy hy ii hii hne hc own ys h
    match ii,h with
    | 0,h|1,h|2,h|3,h|4,h|5,h|6,h|7,h|8,h|9,h|10,h|13,h|14,h=>exact h
    | 11,h=>obtain⟨q9,h1,h2⟩:=h;exact⟨q9,h1,hy _ _ _ _ h2⟩
    | 12,h=>obtain⟨a9,c9,h1,h2⟩:=h;exact⟨a9,c9,h1,hy _ _ _ _ h2⟩
    | 15,h=>exact absurd rfl hne
    | _+16,_=>trivial
   obtain⟨⟨g0,gs⟩,-,g5,g6⟩:=hG;have gB:=gsO wx O 2 (.slice a12 (m+1) c12);have hb:=heap_setCell_same wx O 2 _ _ (.slice a12 (m+1) c12) g1;have hb2:(wx.setCell ⟨O,2,none⟩ (.slice a12 (m+1) c12)).heap[O]?=some (.cells #[.int .i64 (L:Int),.int .i64 (S0:Int),.slice a12 (m+1) c12,vc] 100 (0,0)):=by simpa using hb
   have hk:∀ b' own n' xs',wx.ownsRow b' 5 1 own n' xs'→(wx.setCell ⟨O,2,none⟩ (.slice a12 (m+1) c12)).ownsRow b' 5 1 own n' xs':=fun _ _ _ _ h=>ownsRow_setCell_other h (neO h g1 (by decide)) _
   have hrc2:=ownsRow_setCell_other g6 (a:=⟨O,2,none⟩) (neO g6 g1 (by decide)) (.slice a12 (m+1) c12);exact hQo undef _ (hK.out _ _ ⟨⟨_,CM.mk5 hb2 (hk _ _ _ _ o12) hm hrc2 hHO (by have:=gB.size;omega)⟩,⟨⟨g0.setCell hHO _,Nat.le_trans gs gB.size⟩,⟨_,hb2,fun h=>by cases h⟩,hk _ _ _ _ g5,hrc2⟩,hst _ hk⟩)
  all_goals
   clear hl ha hb hD hI;go_wp2;exact hK.out _ _ ⟨rfl,hG,kkp⟩
 clear Hext;intro xs wx hV hG0;obtain⟨Lx,hL,hG⟩:=hG0;have l15:Lx 15=true:=hL 15 (by decide);clear hL;have d15:∃ v2,CM wx H O ⟨L,S0,out ++ [(L:Int)/16777216],ch⟩ v2 vc:=hV 15 (by decide);clear hV;simp only[patchS,Nat.reduceAdd,Nat.reduceEqDiff,↓reduceIte];generalize xs 0=y0,xs 1=y1,xs 2=y2,xs 3=y3,xs 4=y4,xs 5=y5,xs 6=y6,xs 7=y7,xs 8=y8,xs 9=y9,xs 10=y10,xs 11=y11,xs 12=y12,xs 13=y13,xs 14=y14,xs 15=y15 at *
 replace hG:(Below H w wx∧HI≤wx.heap.size)∧(∃ z,wx.heap[O]?=some (.cells #[.int .i64 (L:Int),.int .i64 (S0:Int),z,vc] 100 (0,0))∧(Lx 15=false→z=vo))∧wx.ownsRow H 5 1 vo m (u8s out)∧wx.ownsRow H 3 1 vc 40 (ch64 ch):=hG
 obtain⟨v15,c15⟩:=d15;obtain⟨⟨g0,gs⟩,-⟩:=hG;obtain⟨bl,⟨k0,k1,k2,k3⟩,f0,f1,f2,f3⟩:=bx4 c15.bk;simp only at k0;have HC:=Lib.hid c15;have HL:=Lib.hid hL;have Hm:=Lib.hid hm;clear c15 hvl hm hbk hro hrc;go_wp2;refine bodyPost_end (results_none rfl _ _ _) rfl ?_;refine⟨rfl,⟨v15,?_⟩,g0.setCell hHO _⟩;have hf:=HC.out.low (L%16777216*256);rw[show(((L%16777216*256:Nat)):Int)=(L:Int)%16777216*256 by omega]at hf;first|exact hf|(rw[show(((L/16777216:Nat)):Int)=(L:Int)/16777216 by omega];exact hf)|(rw[Hout.out]at hf;simp only[List.append_assoc,List.cons_append]at hf;first|exact hf|(rw[hmm]at hf;exact hf))
theorem spec_shift_yes (w:World) (H O s:Nat) (c:Ac) (vo vc:Value) (h:CM w H O c vo vc) (hi:c.inv s) (hs:0<s) (hn:c.out.length≤1000000) (hl:4294967296≤c.low) :
 Calls Tryd.prog 64 #[.pointer (some ⟨O,0,none⟩)] w fun e w'=>e= .returned (.tuple #[])∧(∃ vo',CM w' H O c.shift vo' vc)∧Below H w w':=by
 have hsplit:=inc_split (Ac.carry hi hs hl);have hlo:=Ac.lo_lt hi;have hbyt:=hi.1;clear hi hs;obtain⟨L0,S0,out0,ch⟩:=c;simp only at hl hn hsplit hbyt;unfold Ac.lo at hlo;simp only at hlo;rw[if_pos hl]at hlo;obtain⟨r,x,mm,hout,hx⟩:=hsplit;subst hout;have hx2:0≤x∧x≤255:=hbyt x (by simp);have hx3:0≤x+1∧x+1≤255:=by omega
 obtain⟨L,hL0⟩:∃ q,q=L0-4294967296:=⟨_,rfl⟩;rw[←hL0]at hlo;have hshift:(⟨L0,S0,r++x::List.replicate mm 255,ch⟩:Ac).shift=⟨L%16777216*256,S0,(r++(x+1)::List.replicate mm 0) ++ [((L/16777216:Nat):Int)],ch⟩:=by
  unfold Ac.shift Ac.car Ac.lo;simp only;rw[if_pos hl,if_pos hl,inc_at r x mm hx,←hL0]
 rw[hshift];rw[show r++x::List.replicate mm 255=outL r x mm 0 by simp[outL]]at h hn;obtain⟨g,cap,rfl,hc1,hc2,hgH⟩:=h.form (by rw[outL_len (by omega)];omega);simp only at hc1 h;rw[outL_len (by omega)]at hc1 hn h;obtain⟨N,hN⟩:∃ N,N=r.length+1+mm:=⟨_,rfl⟩;rw[←hN]at hc1 hn h;have HN:=Lib.hid hN;have hrN:r.length+mm<N:=by omega
 clear hN;have hd:decide ((4294967296:Int)≤(L0:Int))=true:=by simp;omega
 obtain⟨bl,⟨k0,k1,k2,k3⟩,f0,f1,f2,f3⟩:=bx4 h.bk;simp only at k0;have HC:=Lib.hid h;have HL:=Lib.hid hlo;have HL0:=Lib.hid (show(L0:Int)-4294967296=(L:Int) by omega);have hL1:(L0:Int)<8589934592:=by omega
 clear hshift hbyt hl h hlo hL0;go_enter Tryd.func64,Tryd.ntmps64
 go_upto_region 2 with fail
 have hC:=HC.out.low L;simp only at hC;rw[←HL0.out]at hC;have hB:=(Below.refl H w).setCell (p:=⟨O,0,none⟩) HC.out.hO (.int .i64 ((L0:Int)-4294967296));clear hd bl k0 k1 k2 k3 f0 f1 f2 f3 HC hL1 HL0 hc2;generalize World.setCell _ _ _=w1 at *;obtain⟨bl,⟨k0,k1,k2,k3⟩,f0,f1,f2,f3⟩:=bx4 hC.bk;have hC1:=Lib.hid hC;clear hC;go_wp2_with fail
 go_loopw [2] (fun kx wr=>∃ i,i≤mm∧kx= .int .i64 ((r.length+(mm-i):Nat):Int)∧Below H w wr∧CM wr H O ⟨L,S0,outL r x mm i,ch⟩ (.slice (some ⟨g,0,none⟩) N cap) vc) (fun kx _=>(intOf kx).toNat)
 case atStart=>exact⟨0,by omega,by have:=HN.out;congr 1;omega,hB,hC1.out⟩
 case round =>
  clear hB hC1 bl k0 k1 k2 k3 f0 f1 f2 f3;obtain⟨i,hi,rfl,hB,hC⟩:=hrel;obtain⟨K,hK0⟩:∃ K,K=r.length+(mm-i):=⟨_,rfl⟩;rw[←hK0];have hKN:(K:Int)<N:=by omega
  have hKm:i<mm→1≤K:=by omega
  have HK:=Lib.hid hK0;have Hrn:=Lib.hid hrN;clear hK0 hrN;obtain⟨bl,⟨k0,k1,k2,k3⟩,f0,f1,f2,f3⟩:=bx4 hC.bk
  by_cases hlt:i<mm
  ·have hk:=hC.cellB (outL_get hlt);rw[←HK.out]at hk;have hf:=hC.frozB K;have hC5:=hC.byte K 0;simp only at hC5;rw[show(outL r x mm i).set K 0=outL r x mm (i+1) by rw[HK.out];exact outL_set hlt]at hC5;have HC5:=Lib.hid hC5;have hK1:=hKm hlt;have Hlt:=Lib.hid hlt;clear hC hC5 hKm hlt;go_wp2;go_roundw
   case rel=>exact⟨i+1,by have:=Hlt.out;omega,by have:=HK.out;have:=Hlt.out;congr 1;omega,hB.setCell hgH _,HC5.out⟩
   case measure=>simp[intOf];omega
  ·obtain rfl:i=mm:=by omega
   have hKr:K=r.length:=by have:=HK.out;omega
   have htop:(outL r x i i)[K]?=some x:=by rw[hKr];exact outL_top
   have hk:=hC.cellB htop;have hty:∀ y,(r++y::List.replicate i (0:Int))[K]?=some y:=fun y=>by rw[hKr,List.getElem?_append_right (Nat.le_refl _)];simp
   have hts:∀ y,(r++y::List.replicate i (0:Int)).set K (x+1)=r++(x+1)::List.replicate i 0:=fun y=>by rw[hKr,List.set_append_right _ _ (Nat.le_refl _)];simp
   have hno:decide (x=255)=false:=by simp;omega
   have Hkr:=Lib.hid hKr;clear hKr hKm;have hC6:=hC;rw[show outL r x i i=r++x::List.replicate i 0 by simp[outL]]at hC6;have HC6:=Lib.hid hC6;have Hty:=Lib.hid hty;have Hts:=Lib.hid hts;clear hC hC6 htop hty hts;go_upto_region 6 with fail
   have hC6:=HC6.out;have hty:=Hty.out;have hts:=Hts.out;have hw8:IntKind.u8.wrap (x+1)=x+1:=by rw[IntKind.wrap_u8];omega
   clear bl k0 k1 k2 k3 f0 f1 f2 f3 hk hno HC6 Hty Hts;obtain⟨mm,hmm⟩:∃ q,q=i:=⟨_,rfl⟩;rw[←hmm]at hC6 hty hts HN;generalize (x == 255)=bb;clear hw8;have hw8:IntKind.u8.wrap (x+1)=x+1:=by rw[IntKind.wrap_u8];omega
   refine wp_region_invL (by kernel_rfl) [(38,0),(39,1),(40,2),(41,3),(42,4),(43,5),(44,6),(45,7),(46,8),(47,9),(48,10),(49,11),(50,12),(51,13)] [[],[0],[0,1],[0,1,2],[],[],[5],[5,6],[5,6,7],[],[5,6,7,8,9],[5,6,7,8,9,10],[5,6,7,8,9,10,11],[0,1,2,3,4,5,6,7,8,9,10,11,12],[0,1,2,3,4,5,6,7,8,9,10,11,12,13]] (fun i own ys wx=>match i with|0=>own= .pointer (some ⟨O,0,none⟩)|1=>own= .pointer (some ⟨O,0,none⟩)|2=>own= .pointer (some ⟨O,2,none⟩)|3=>own= .slice (some ⟨g,0,none⟩) N cap|4=>own= .int .i64 (K:Int)|5=>own= .pointer (some ⟨O,0,none⟩)|6=>own= .pointer (some ⟨O,0,none⟩)|7=>own= .pointer (some ⟨O,2,none⟩)|8=>own= .slice (some ⟨g,0,none⟩) N cap|9=>own= .int .i64 (K:Int)|10=>own= .pointer (some ⟨g,K,none⟩)|11=>own= .int .u8 x|12=>own= .int .u8 (x+1)|13=>own= .pointer (some ⟨g,K,none⟩)|14=>∃ _z:Nat,CM wx H O ⟨L,S0,r++(x+1)::List.replicate mm 0,ch⟩ (.slice (some ⟨g,0,none⟩) N cap) vc|_=>True) (fun Lx wx=>(∃ y,CM wx H O ⟨L,S0,r++y::List.replicate mm 0,ch⟩ (.slice (some ⟨g,0,none⟩) N cap) vc∧(Lx 14=false→y=x))∧Below H w wx) (by kernel_rfl) (by kernel_rfl) (by kernel_rfl) ?g0_r2 ?gop_r2 ?gend_r2
   case g0_r2=>exact⟨⟨x,hC6.ext (Ext.drewN _ 1),fun _=>rfl⟩,hB.drew⟩
   case gop_r2 =>
    refine⟨?_,?o1,?o2,?o3,?_,?_,?o6,?o7,?o8,?_,?o10,?o11,?o12,?o13,?o14,trivial⟩ <;> (intro Lx xs wx hG hl ha hb hD hI Qo Kx hK hQo;simp only[patchS,Nat.reduceAdd,Nat.reduceEqDiff,↓reduceIte]at hQo⊢)
    case o1 =>
     clear hl ha hb;rw[ddq (hD 0 rfl)]at hQo⊢;clear hD hI;go_wp2;exact hK.out _ _ ⟨rfl,hG,kkp⟩
    case o2 =>
     clear hl ha hb;rw[ddq (hD 1 rfl)]at hQo⊢;clear hD hI;go_wp2;exact hK.out _ _ ⟨rfl,hG,kkp⟩
    case o3 =>
     clear hl ha hb;rw[ddq (hD 2 rfl)]at hQo⊢;clear hD hI;obtain⟨y,g1,g2⟩:=hG.1;obtain⟨-,⟨k0,k1,k2,k3⟩,-⟩:=bx4 g1.bk;go_wp2;exact hK.out _ _ ⟨rfl,hG,kkp⟩
    case o6 =>
     clear hl ha hb;rw[ddq (hD 5 rfl)]at hQo⊢;clear hD hI;go_wp2;exact hK.out _ _ ⟨rfl,hG,kkp⟩
    case o7 =>
     clear hl ha hb;rw[ddq (hD 6 rfl)]at hQo⊢;clear hD hI;go_wp2;exact hK.out _ _ ⟨rfl,hG,kkp⟩
    case o8 =>
     clear hl ha hb;rw[ddq (hD 7 rfl)]at hQo⊢;clear hD hI;obtain⟨y,g1,g2⟩:=hG.1;obtain⟨-,⟨k0,k1,k2,k3⟩,-⟩:=bx4 g1.bk;go_wp2;exact hK.out _ _ ⟨rfl,hG,kkp⟩
    case o10 =>
     clear hl ha hb;rw[ddq (hD 8 rfl),ddq (hD 9 rfl)]at hQo⊢;clear hD hI;go_wp2;exact hK.out _ _ ⟨rfl,hG,kkp⟩
    case o11 =>
     have l14:Lx 14=false:=hb 14 rfl;clear hl ha hb;rw[ddq (hD 10 rfl)]at hQo⊢;clear hD hI;obtain⟨y,g1,g2⟩:=hG.1;have hy:=g2 l14;rw[hy]at g1;have k0:=g1.cellB (i:=K) (v:=x) (hty x);go_wp2;exact hK.out _ _ ⟨rfl,hG,kkp⟩
    case o12 =>
     clear hl ha hb;rw[ddq (hD 11 rfl)]at hQo⊢;clear hD hI;go_wp2;exact hK.out _ _ ⟨rfl,hG,kkp⟩
    case o13 =>
     clear hl ha hb;rw[ddq (hD 3 rfl),ddq (hD 4 rfl)]at hQo⊢;clear hD hI;go_wp2;exact hK.out _ _ ⟨rfl,hG,kkp⟩
    case o14 =>
     clear hl ha hb;rw[ddq (hD 12 rfl),ddq (hD 13 rfl)]at hQo⊢;clear hD hI;obtain⟨y,g1,g2⟩:=hG.1;have f0:=g1.frozB K;have k0:=g1.cellB (i:=K) (v:=y) (hty y);go_wp2;have hst:∀(wy:World),True→Stbn 15 14 [[],[0],[0,1],[0,1,2],[],[],[5],[5,6],[5,6,7],[],[5,6,7,8,9],[5,6,7,8,9,10],[5,6,7,8,9,10,11],[0,1,2,3,4,5,6,7,8,9,10,11,12],[0,1,2,3,4,5,6,7,8,9,10,11,12,13]] (fun i own ys wx=>match i with|0=>own= .pointer (some ⟨O,0,none⟩)|1=>own= .pointer (some ⟨O,0,none⟩)|2=>own= .pointer (some ⟨O,2,none⟩)|3=>own= .slice (some ⟨g,0,none⟩) N cap|4=>own= .int .i64 (K:Int)|5=>own= .pointer (some ⟨O,0,none⟩)|6=>own= .pointer (some ⟨O,0,none⟩)|7=>own= .pointer (some ⟨O,2,none⟩)|8=>own= .slice (some ⟨g,0,none⟩) N cap|9=>own= .int .i64 (K:Int)|10=>own= .pointer (some ⟨g,K,none⟩)|11=>own= .int .u8 x|12=>own= .int .u8 (x+1)|13=>own= .pointer (some ⟨g,K,none⟩)|14=>∃ _z:Nat,CM wx H O ⟨L,S0,r++(x+1)::List.replicate mm 0,ch⟩ (.slice (some ⟨g,0,none⟩) N cap) vc|_=>True) wx wy:=by
      intro wy hy ii hii hne hc own ys h
      match ii,h with
      | 0,h|1,h|2,h|3,h|4,h|5,h|6,h|7,h|8,h|9,h|10,h|11,h|12,h|13,h=>exact h
      | 14,h=>exact absurd rfl hne
      | _+15,_=>trivial
     have hf:=g1.byte K (x+1);simp only[hts]at hf;exact hQo undef _ (hK.out _ _ ⟨⟨0,hf⟩,⟨⟨_,hf,fun h=>by cases h⟩,hG.2.setCell hgH _⟩,hst _ trivial⟩)
    all_goals
     clear hl ha hb hD hI;go_wp2;exact hK.out _ _ ⟨rfl,hG,kkp⟩
   intro xs wx hV hG0;obtain⟨Lx,hL,hG⟩:=hG0;have l14:Lx 14=true:=hL 14 (by decide);clear hL;have d14:∃ _z:Nat,CM wx H O ⟨L,S0,r++(x+1)::List.replicate mm 0,ch⟩ (.slice (some ⟨g,0,none⟩) N cap) vc:=hV 14 (by decide);clear hV;simp only[patchS,Nat.reduceAdd,Nat.reduceEqDiff,↓reduceIte];generalize xs 0=y0,xs 1=y1,xs 2=y2,xs 3=y3,xs 4=y4,xs 5=y5,xs 6=y6,xs 7=y7,xs 8=y8,xs 9=y9,xs 10=y10,xs 11=y11,xs 12=y12,xs 13=y13,xs 14=y14 at *
   replace hG:(∃ y,CM wx H O ⟨L,S0,r++y::List.replicate mm 0,ch⟩ (.slice (some ⟨g,0,none⟩) N cap) vc∧(Lx 14=false→y=x))∧Below H w wx:=hG
   obtain⟨_,c14⟩:=d14;have hC:=c14;have hB:=hG.2;clear c14 hG hC6;obtain⟨out,hout⟩:∃ q,q=r++(x+1)::List.replicate mm 0:=⟨_,rfl⟩;rw[←hout]at hC;have Hout:=Lib.hid hout;have hm:out.length=N:=by have:=HN.out;rw[hout];simp;omega
   clear hty hts;obtain⟨m,hmN⟩:∃ m,m=N:=⟨_,rfl⟩;rw[←hmN]at hm hn;have hL:=HL.out;clear hw8 hout hmN;obtain⟨vo,hvo⟩:∃ v,v=Value.slice (some ⟨g,0,none⟩) N cap:=⟨_,rfl⟩;rw[←hvo]at hC;clear hvo;generalize wx=wr at *;go_upto_region 7 with fail
   obtain⟨HI,hHI0⟩:∃ HI,HI=wr.heap.size:=⟨_,rfl⟩;have hHI:H≤HI:=by rw[hHI0];exact hC.hs
   have hvl:∀ q,vo.ownBlock=some q→q<HI:=fun q hq=>by rw[hHI0];exact(hC.ro.lt q hq).2
   have hOI:O<HI:=by rw[hHI0];exact lt_of_block hC.bk
   have hHIs:HI≤wr.heap.size:=by omega
   have hrc:=hC.rc;have hro:=hC.ro;have hbk:=hC.bk;simp only at hbk;have hHO:=hC.hO;rw[show((⟨L,S0,out,ch⟩:Ac).out.length)=m from hm]at hro;have hq64:IntKind.i64.wrap ((L:Int)/16777216)=(L:Int)/16777216:=by rw[IntKind.wrap_i64];omega
   have hq8:IntKind.u8.wrap ((L:Int)/16777216)=(L:Int)/16777216:=by rw[IntKind.wrap_u8];omega
   clear hHI0 hC;have hext:Stab (fun wa wb=>Ext wa wb) (fun i own ys wx=>match i with|0=>own= .pointer (some ⟨O,0,none⟩)|1=>own= .pointer (some ⟨O,0,none⟩)|2=>own= .pointer (some ⟨O,0,none⟩)|3=>own= .pointer (some ⟨O,2,none⟩)|4=>own=vo|5=>own= .pointer (some ⟨O,0,none⟩)|6=>own= .pointer (some ⟨O,0,none⟩)|7=>own= .pointer (some ⟨O,0,none⟩)|8=>own= .int .i64 (L:Int)|9=>own= .int .i64 ((L:Int)/16777216)|10=>own= .int .u8 ((L:Int)/16777216)|11=>∃(q:Nat),own= .slice (some ⟨q,0,none⟩) 1 1∧wx.ownsRow HI 5 1 (.slice (some ⟨q,0,none⟩) 1 1) 1 [.int .u8 ((L:Int)/16777216)]|12=>∃(a3:Option Addr) (c3:Nat),own= .slice a3 (m+1) c3∧wx.ownsRow H 5 1 (.slice a3 (m+1) c3) (m+1) (u8s out ++ [.int .u8 ((L:Int)/16777216)])|13=>own= .pointer (some ⟨O,0,none⟩)|14=>own= .pointer (some ⟨O,2,none⟩)|15=>∃ v2,CM wx H O ⟨L,S0,out ++ [(L:Int)/16777216],ch⟩ v2 vc|_=>True):=by
    intro i own ys wa wb e h
    match i,h with
    | 0,h|1,h|2,h|3,h|4,h|5,h|6,h|7,h|8,h|9,h|10,h|13,h|14,h=>exact h
    | 11,h=>obtain⟨q9,h1,h2⟩:=h;exact⟨q9,h1,owns_ext h2 e⟩
    | 12,h=>obtain⟨a9,c9,h1,h2⟩:=h;exact⟨a9,c9,h1,owns_ext h2 e⟩
    | 15,h=>obtain⟨v9,h1⟩:=h;exact⟨v9,h1.ext e⟩
    | _+16,_=>trivial
   have Hext:=Lib.hid hext;clear hext;refine wp_region_invL (by kernel_rfl) [(52,0),(53,1),(54,2),(55,3),(56,4),(57,5),(58,6),(59,7),(60,8),(61,9),(62,10),(63,11),(64,12),(65,13),(66,14)] [[],[],[1],[1,2],[1,2,3],[],[5],[5,6],[5,6,7],[5,6,7,8],[5,6,7,8,9],[5,6,7,8,9,10],[1,2,3,4,5,6,7,8,9,10,11],[0,1,2,3,4,5,6,7,8,9,10,11,12],[0,1,2,3,4,5,6,7,8,9,10,11,12,13],[0,1,2,3,4,5,6,7,8,9,10,11,12,13,14]] (fun i own ys wx=>match i with|0=>own= .pointer (some ⟨O,0,none⟩)|1=>own= .pointer (some ⟨O,0,none⟩)|2=>own= .pointer (some ⟨O,0,none⟩)|3=>own= .pointer (some ⟨O,2,none⟩)|4=>own=vo|5=>own= .pointer (some ⟨O,0,none⟩)|6=>own= .pointer (some ⟨O,0,none⟩)|7=>own= .pointer (some ⟨O,0,none⟩)|8=>own= .int .i64 (L:Int)|9=>own= .int .i64 ((L:Int)/16777216)|10=>own= .int .u8 ((L:Int)/16777216)|11=>∃(q:Nat),own= .slice (some ⟨q,0,none⟩) 1 1∧wx.ownsRow HI 5 1 (.slice (some ⟨q,0,none⟩) 1 1) 1 [.int .u8 ((L:Int)/16777216)]|12=>∃(a3:Option Addr) (c3:Nat),own= .slice a3 (m+1) c3∧wx.ownsRow H 5 1 (.slice a3 (m+1) c3) (m+1) (u8s out ++ [.int .u8 ((L:Int)/16777216)])|13=>own= .pointer (some ⟨O,0,none⟩)|14=>own= .pointer (some ⟨O,2,none⟩)|15=>∃ v2,CM wx H O ⟨L,S0,out ++ [(L:Int)/16777216],ch⟩ v2 vc|_=>True) (fun Lx wx=>(Below H w wx∧HI≤wx.heap.size)∧(∃ z,wx.heap[O]?=some (.cells #[.int .i64 (L:Int),.int .i64 (S0:Int),z,vc] 100 (0,0))∧(Lx 15=false→z=vo))∧wx.ownsRow H 5 1 vo m (u8s out)∧wx.ownsRow H 3 1 vc 40 (ch64 ch)) (by kernel_rfl) (by kernel_rfl) (by kernel_rfl) ?g0_r3 ?gop_r3 ?gend_r3
   case g0_r3=>exact⟨⟨hB.drew,hHIs⟩,⟨_,hbk,fun _=>rfl⟩,owns_ext hro (Ext.drewN _ 1),owns_ext hrc (Ext.drewN _ 1)⟩
   case gop_r3 =>
    refine⟨?_,?_,?o2,?o3,?o4,?_,?o6,?o7,?o8,?o9,?o10,?o11,?o12,?o13,?o14,?o15,trivial⟩ <;> (intro Lx xs wx hG hl ha hb hD hI Qo Kx hK hQo;simp only[patchS,Nat.reduceAdd,Nat.reduceEqDiff,↓reduceIte]at hQo⊢)
    case o2 =>
     clear hl ha hb;rw[ddq (hD 1 rfl)]at hQo⊢;clear hD hI;go_wp2;exact hK.out _ _ ⟨rfl,hG,kkp⟩
    case o3 =>
     clear hl ha hb;rw[ddq (hD 2 rfl)]at hQo⊢;clear hD hI;go_wp2;exact hK.out _ _ ⟨rfl,hG,kkp⟩
    case o4 =>
     have l15:Lx 15=false:=hb 15 rfl;clear hl ha hb;rw[ddq (hD 3 rfl)]at hQo⊢;clear hD hI;obtain⟨z,g1,g2⟩:=hG.2.1;obtain rfl:=g2 l15;obtain⟨-,⟨k0,k1,k2,k3⟩,-⟩:=bx4 g1;go_wp2;exact hK.out _ _ ⟨rfl,hG,kkp⟩
    case o6 =>
     clear hl ha hb;rw[ddq (hD 5 rfl)]at hQo⊢;clear hD hI;go_wp2;exact hK.out _ _ ⟨rfl,hG,kkp⟩
    case o7 =>
     clear hl ha hb;rw[ddq (hD 6 rfl)]at hQo⊢;clear hD hI;go_wp2;exact hK.out _ _ ⟨rfl,hG,kkp⟩
    case o8 =>
     clear hl ha hb;rw[ddq (hD 7 rfl)]at hQo⊢;clear hD hI;obtain⟨z,g1,g2⟩:=hG.2.1;obtain⟨-,⟨k0,k1,k2,k3⟩,-⟩:=bx4 g1;go_wp2;exact hK.out _ _ ⟨rfl,hG,kkp⟩
    case o9 =>
     clear hl ha hb;rw[ddq (hD 8 rfl)]at hQo⊢;clear hD hI;go_wp2;exact hK.out _ _ ⟨rfl,hG,kkp⟩
    case o10 =>
     clear hl ha hb;rw[ddq (hD 9 rfl)]at hQo⊢;clear hD hI;go_wp2;exact hK.out _ _ ⟨rfl,hG,kkp⟩
    case o11 =>
     clear hl ha hb;rw[ddq (hD 10 rfl)]at hQo⊢;clear hD hI;have e8:=Ext.alloc wx (.cells #[.int .u8 ((L:Int)/16777216)] 5);have o9:=World.ownsRow_lit (base:=HI) (e:=5) (size:=1) wx #[.int .u8 ((L:Int)/16777216)] 1 hG.1.2 (by unfold maxLen;omega) rfl;go_wp2;obtain⟨⟨g0,gs⟩,⟨z,g3,g4⟩,g5,g6⟩:=hG;exact hK.out _ _ ⟨⟨_,rfl,o9⟩,⟨⟨g0.alloc (Nat.le_trans hHI gs) _,Nat.le_trans gs e8.size⟩,⟨z,e8.blk g3,g4⟩,owns_ext g5 e8,owns_ext g6 e8⟩,fun i _ _ _ own ys h=>Hext.out i own ys _ _ e8 h⟩
    case o12 =>
     clear hl ha hb;rw[ddq (hD 4 rfl)]at hQo⊢;have d11:∃(q:Nat),(xs 11) = .slice (some ⟨q,0,none⟩) 1 1∧wx.ownsRow HI 5 1 (.slice (some ⟨q,0,none⟩) 1 1) 1 [.int .u8 ((L:Int)/16777216)]:=hD 11 rfl;clear hD hI;generalize xs 11=y11 at *;obtain⟨q11,rfl,o11⟩:=d11;refine wpList_appk _ rfl hG.2.2.1 (Nat.le_trans hHI hG.1.2) _ _ _ rfl (.int .u8 0) 1 Tryd.underlying30 info_uint8 rfl (by decide) rfl ⟨q11,0,none⟩ 1 1 _ rfl rfl (o11.cells rfl) (by intro u hu;simp at hu;subst hu;rfl) (by omega) (by omega) ?_;intro v14 w14 own14 gr14 keep14;obtain⟨a14,c14,rfl⟩:=owns_form own14;have hst:∀(wy:World),(∀ e' own n' xs',wx.ownsRow HI e' 1 own n' xs'→wy.ownsRow HI e' 1 own n' xs')→Stbn 16 12 [[],[],[1],[1,2],[1,2,3],[],[5],[5,6],[5,6,7],[5,6,7,8],[5,6,7,8,9],[5,6,7,8,9,10],[1,2,3,4,5,6,7,8,9,10,11],[0,1,2,3,4,5,6,7,8,9,10,11,12],[0,1,2,3,4,5,6,7,8,9,10,11,12,13],[0,1,2,3,4,5,6,7,8,9,10,11,12,13,14]] (fun i own ys wx=>match i with|0=>own= .pointer (some ⟨O,0,none⟩)|1=>own= .pointer (some ⟨O,0,none⟩)|2=>own= .pointer (some ⟨O,0,none⟩)|3=>own= .pointer (some ⟨O,2,none⟩)|4=>own=vo|5=>own= .pointer (some ⟨O,0,none⟩)|6=>own= .pointer (some ⟨O,0,none⟩)|7=>own= .pointer (some ⟨O,0,none⟩)|8=>own= .int .i64 (L:Int)|9=>own= .int .i64 ((L:Int)/16777216)|10=>own= .int .u8 ((L:Int)/16777216)|11=>∃(q:Nat),own= .slice (some ⟨q,0,none⟩) 1 1∧wx.ownsRow HI 5 1 (.slice (some ⟨q,0,none⟩) 1 1) 1 [.int .u8 ((L:Int)/16777216)]|12=>∃(a3:Option Addr) (c3:Nat),own= .slice a3 (m+1) c3∧wx.ownsRow H 5 1 (.slice a3 (m+1) c3) (m+1) (u8s out ++ [.int .u8 ((L:Int)/16777216)])|13=>own= .pointer (some ⟨O,0,none⟩)|14=>own= .pointer (some ⟨O,2,none⟩)|15=>∃ v2,CM wx H O ⟨L,S0,out ++ [(L:Int)/16777216],ch⟩ v2 vc|_=>True) wx wy:=by
      intro wy hy ii hii hne hc own ys h
      match ii,h with
      | 0,h|1,h|2,h|3,h|4,h|5,h|6,h|7,h|8,h|9,h|10,h=>exact h
      | 11,h=>obtain⟨q9,h1,h2⟩:=h;exact⟨q9,h1,hy _ _ _ _ h2⟩
      | 12,h=>exact absurd rfl hne
      | 13,h|14,h|15,h=>exact absurd hc (by decide)
      | _+16,_=>trivial
     obtain⟨⟨g0,gs⟩,⟨z,g3,g4⟩,g5,g6⟩:=hG;have hb1:=blk_gr g3 gr14 (neO g5 g3 (by decide));exact hQo _ _ (hK.out _ _ ⟨⟨_,_,rfl,own14⟩,⟨⟨g0.grown gr14 (Nat.le_trans hHI gs) (owns_ge g5),Nat.le_trans gs gr14.size⟩,⟨z,hb1,g4⟩,keep14 _ _ _ _ (Nat.le_refl _) g5,g6.kept gr14 (owns_neE g6 g5 (by decide))⟩,hst _ (fun _ _ _ _ h=>own_hiE h gr14 hvl)⟩)
    case o13 =>
     clear hl ha hb;rw[ddq (hD 0 rfl)]at hQo⊢;clear hD hI;go_wp2;exact hK.out _ _ ⟨rfl,hG,kkp⟩
    case o14 =>
     clear hl ha hb;rw[ddq (hD 13 rfl)]at hQo⊢;clear hD hI;go_wp2;exact hK.out _ _ ⟨rfl,hG,kkp⟩
    case o15 =>
     clear hl ha hb;rw[ddq (hD 14 rfl)]at hQo⊢;have d12:∃(a3:Option Addr) (c3:Nat),(xs 12) = .slice a3 (m+1) c3∧wx.ownsRow H 5 1 (.slice a3 (m+1) c3) (m+1) (u8s out ++ [.int .u8 ((L:Int)/16777216)]):=hD 12 rfl;clear hD hI;generalize xs 12=y12 at *;obtain⟨a12,c12,rfl,o12⟩:=d12;obtain⟨z,g1,g2⟩:=hG.2.1;obtain⟨-,⟨k0,k1,k2,k3⟩,f0,f1,f2,f3⟩:=bx4 g1;go_wp2;have hst:∀(wy:World),(∀ b' own n' xs',wx.ownsRow b' 5 1 own n' xs'→wy.ownsRow b' 5 1 own n' xs')→Stbn 16 15 [[],[],[1],[1,2],[1,2,3],[],[5],[5,6],[5,6,7],[5,6,7,8],[5,6,7,8,9],[5,6,7,8,9,10],[1,2,3,4,5,6,7,8,9,10,11],[0,1,2,3,4,5,6,7,8,9,10,11,12],[0,1,2,3,4,5,6,7,8,9,10,11,12,13],[0,1,2,3,4,5,6,7,8,9,10,11,12,13,14]] (fun i own ys wx=>match i with|0=>own= .pointer (some ⟨O,0,none⟩)|1=>own= .pointer (some ⟨O,0,none⟩)|2=>own= .pointer (some ⟨O,0,none⟩)|3=>own= .pointer (some ⟨O,2,none⟩)|4=>own=vo|5=>own= .pointer (some ⟨O,0,none⟩)|6=>own= .pointer (some ⟨O,0,none⟩)|7=>own= .pointer (some ⟨O,0,none⟩)|8=>own= .int .i64 (L:Int)|9=>own= .int .i64 ((L:Int)/16777216)|10=>own= .int .u8 ((L:Int)/16777216)|11=>∃(q:Nat),own= .slice (some ⟨q,0,none⟩) 1 1∧wx.ownsRow HI 5 1 (.slice (some ⟨q,0,none⟩) 1 1) 1 [.int .u8 ((L:Int)/16777216)]|12=>∃(a3:Option Addr) (c3:Nat),own= .slice a3 (m+1) c3∧wx.ownsRow H 5 1 (.slice a3 (m+1) c3) (m+1) (u8s out ++ [.int .u8 ((L:Int)/16777216)])|13=>own= .pointer (some ⟨O,0,none⟩)|14=>own= .pointer (some ⟨O,2,none⟩)|15=>∃ v2,CM wx H O ⟨L,S0,out ++ [(L:Int)/16777216],ch⟩ v2 vc|_=>True) wx wy:=by
      intro wy hy ii hii hne hc own ys h
      match ii,h with
      | 0,h|1,h|2,h|3,h|4,h|5,h|6,h|7,h|8,h|9,h|10,h|13,h|14,h=>exact h
      | 11,h=>obtain⟨q9,h1,h2⟩:=h;exact⟨q9,h1,hy _ _ _ _ h2⟩
      | 12,h=>obtain⟨a9,c9,h1,h2⟩:=h;exact⟨a9,c9,h1,hy _ _ _ _ h2⟩
      | 15,h=>exact absurd rfl hne
      | _+16,_=>trivial
     obtain⟨⟨g0,gs⟩,-,g5,g6⟩:=hG;have gB:=gsO wx O 2 (.slice a12 (m+1) c12);have hb:=heap_setCell_same wx O 2 _ _ (.slice a12 (m+1) c12) g1;have hb2:(wx.setCell ⟨O,2,none⟩ (.slice a12 (m+1) c12)).heap[O]?=some (.cells #[.int .i64 (L:Int),.int .i64 (S0:Int),.slice a12 (m+1) c12,vc] 100 (0,0)):=by simpa using hb
     have hk:∀ b' own n' xs',wx.ownsRow b' 5 1 own n' xs'→(wx.setCell ⟨O,2,none⟩ (.slice a12 (m+1) c12)).ownsRow b' 5 1 own n' xs':=fun _ _ _ _ h=>ownsRow_setCell_other h (neO h g1 (by decide)) _
     have hrc2:=ownsRow_setCell_other g6 (a:=⟨O,2,none⟩) (neO g6 g1 (by decide)) (.slice a12 (m+1) c12);exact hQo undef _ (hK.out _ _ ⟨⟨_,CM.mk5 hb2 (hk _ _ _ _ o12) hm hrc2 hHO (by have:=gB.size;omega)⟩,⟨⟨g0.setCell hHO _,Nat.le_trans gs gB.size⟩,⟨_,hb2,fun h=>by cases h⟩,hk _ _ _ _ g5,hrc2⟩,hst _ hk⟩)
    all_goals
     clear hl ha hb hD hI;go_wp2;exact hK.out _ _ ⟨rfl,hG,kkp⟩
   clear Hext;intro xs wx hV hG0;obtain⟨Lx,hL,hG⟩:=hG0;have l15:Lx 15=true:=hL 15 (by decide);clear hL;have d15:∃ v2,CM wx H O ⟨L,S0,out ++ [(L:Int)/16777216],ch⟩ v2 vc:=hV 15 (by decide);clear hV;simp only[patchS,Nat.reduceAdd,Nat.reduceEqDiff,↓reduceIte];generalize xs 0=y0,xs 1=y1,xs 2=y2,xs 3=y3,xs 4=y4,xs 5=y5,xs 6=y6,xs 7=y7,xs 8=y8,xs 9=y9,xs 10=y10,xs 11=y11,xs 12=y12,xs 13=y13,xs 14=y14,xs 15=y15 at *
   replace hG:(Below H w wx∧HI≤wx.heap.size)∧(∃ z,wx.heap[O]?=some (.cells #[.int .i64 (L:Int),.int .i64 (S0:Int),z,vc] 100 (0,0))∧(Lx 15=false→z=vo))∧wx.ownsRow H 5 1 vo m (u8s out)∧wx.ownsRow H 3 1 vc 40 (ch64 ch):=hG
   obtain⟨v15,c15⟩:=d15;obtain⟨⟨g0,gs⟩,-⟩:=hG;obtain⟨bl,⟨k0,k1,k2,k3⟩,f0,f1,f2,f3⟩:=bx4 c15.bk;simp only at k0;have HC:=Lib.hid c15;have HL:=Lib.hid hL;have Hm:=Lib.hid hm;clear c15 hvl hm hbk hro hrc;go_wp2;refine bodyPost_end (results_none rfl _ _ _) rfl ?_;refine⟨rfl,⟨v15,?_⟩,g0.setCell hHO _⟩;have hf:=HC.out.low (L%16777216*256);rw[show(((L%16777216*256:Nat)):Int)=(L:Int)%16777216*256 by omega]at hf;first|exact hf|(rw[show(((L/16777216:Nat)):Int)=(L:Int)/16777216 by omega];exact hf)|(rw[Hout.out]at hf;simp only[List.append_assoc,List.cons_append]at hf;first|exact hf|(rw[hmm]at hf;exact hf))
theorem spec_shift_any (w:World) (H O s:Nat) (c:Ac) (vo vc:Value) (h:CM w H O c vo vc) (hi:c.inv s) (hs:0<s) (hn:c.out.length≤1000000) :
 Calls Tryd.prog 64 #[.pointer (some ⟨O,0,none⟩)] w fun e w'=>e= .returned (.tuple #[])∧(∃ vo',CM w' H O c.shift vo' vc)∧Below H w w':=by
 by_cases hl:4294967296≤c.low
 ·exact spec_shift_yes w H O s c vo vc h hi hs hn hl
 ·refine(spec_shift_no w H O c vo vc h hn (by omega)).mono ?_
  rintro e w' ⟨rfl,⟨v,hC⟩,hB⟩
  refine⟨rfl,⟨v,?_⟩,hB⟩;have:c.shift=⟨c.low%16777216*256,c.span,c.out ++ [((c.low/16777216:Nat):Int)],c.ch⟩:=by
   unfold Ac.shift Ac.car Ac.lo;rw[if_neg hl,if_neg hl]
  rw[this];exact hC
theorem CM.formc {w:World} {H O:Nat} {c:Ac} {vo vc:Value} (h:CM w H O c vo vc):∃ g cap,vc= .slice (some ⟨g,0,none⟩) 40 cap∧40≤cap∧cap≤maxLen∧H≤g:=by
 rcases h.rc.2 with⟨rfl,h0⟩|⟨g,cap,cur,rfl,p0,-,p2,p3,-⟩
 ·omega
 ·exact⟨g,cap,rfl,p2,p3,p0⟩
theorem CM.cellC {w:World} {H O g n cap:Nat} {c:Ac} {vo:Value} (h:CM w H O c vo (.slice (some ⟨g,0,none⟩) n cap)) {i p:Nat} (hv:c.ch[i]?=some p):w.cell? ⟨g,i,none⟩=some (.int .i64 (p:Int)):=by
 have:=h.rc.cells (g:=g) rfl i (.int .i64 (p:Int)) (by simp[ch64,hv])
 by_cases h0:i=0 <;> simpa [Addr.add,h0] using this
theorem CM.chs {w:World} {H O g cap:Nat} {c:Ac} {vo:Value} (h:CM w H O c vo (.slice (some ⟨g,0,none⟩) 40 cap)) (x v:Nat):CM (w.setCell ⟨g,x,none⟩ (.int .i64 (v:Int))) H O ⟨c.low,c.span,c.out,c.ch.set x v⟩ vo (.slice (some ⟨g,0,none⟩) 40 cap):=by
 have h1:=h.cO;have h2:=owns_neE h.rc h.ro (by decide);refine⟨blk_set_other h.bk (fun e=>h1 (by rw[e];rfl)),?_,?_,h.hO,by simpa using h.hs⟩
 ·refine ownsRow_setCell_other h.ro ?_ _;rcases h2 with h2|h2
  ·cases h2
  ·exact fun e=>h2 (by rw[e];rfl)
 ·have o2:=(h.rc.stored x (.int .i64 (v:Int))).1;unfold ch64 at *;rw[←List.map_set]at o2
  simpa using o2
theorem getD_some {l:List Nat} {x:Nat} (h:x<l.length):l[x]?=some (l.getD x 0):=by
 rw[List.getD,List.getElem?_eq_getElem h];rfl
def spanOf (w:World) (O:Nat):Nat:=match w.cell? ⟨O,1,none⟩with
 | some (.int _ x)=>x.toNat
 | _=>0
theorem CM.span {w:World} {H O:Nat} {c:Ac} {vo vc:Value} (h:CM w H O c vo vc):spanOf w O=c.span:=by
 obtain⟨bl,⟨k0,k1,k2,k3⟩,-⟩:=bx4 h.bk;simp[spanOf,k1]
/-- What the loop behind a decision keeps. -/
def NI (w wr:World) (H O N:Nat) (t:Ac) (vc:Value):Prop :=
 ∃(k:Nat) (c:Ac) (vo:Value),k≤3∧CM wr H O c vo vc∧Below H w wr∧Ac.norm k c=t∧c.inv c.span∧1≤c.span∧c.span<4294967296∧16777216≤c.span*256^k∧c.out.length+k≤N
theorem Ac.norm_done {c:Ac} (k:Nat) (h:16777216≤c.span):Ac.norm k c=c:=by
 cases k with
 | zero=>rfl
 | succ k=>unfold Ac.norm;rw[if_neg (by omega)]
theorem CM.cneB {w:World} {H O g n cap B:Nat} {c:Ac} {vo:Value} {arr:Array Value} (h:CM w H O c vo (.slice (some ⟨g,0,none⟩) n cap)) (hb:w.heap[B]?=some (.cells arr 93 (0,0))):some B≠some g:=by
 intro e;obtain rfl:B=g:=by simpa using e
 rcases h.rc.2 with⟨h0,-⟩|⟨g',cap',cur,h0,-,p1,-⟩
 ·cases h0
 ·cases h0;rw[hb]at p1;simp at p1
theorem spec_put_any (w:World) (H O x bit:Nat) (c:Ac) (vo vc:Value) (h:CM w H O c vo vc) (hg:c.good) (hn:c.out.length≤900000) (hx:x<40) (hbit:bit≤1) :
 Calls Tryd.prog 63 #[.pointer (some ⟨O,0,none⟩),.agg #[.int .i64 (x:Int),.int .i64 (bit:Int)]] w fun e w'=>e= .returned (.tuple #[])∧(∃ vo',CM w' H O (c.put (x,bit)) vo' vc)∧Below H w w':=by
 have hok:=Ac.upd_inv hg.1 hg.2.2.2 hg.2.1 hg.2.2.1 (bit:=bit) hx;have hbd:=Ac.bnd_rng hg.2.2.2 hg.2.1 hg.2.2.1 hx;have hlow:=hg.1.2.1;have hsp1:=hg.2.1;have hsp2:=hg.2.2.1;have hlen:=hg.2.2.2.1;obtain⟨gc,cc,rfl,hcc1,hcc2,hgc⟩:=h.formc;have Hok:=Lib.hid hok;obtain⟨tg,htg⟩:∃ t,t=c.put (x,bit):=⟨_,rfl⟩;rw[←htg];have Htg:=Lib.hid htg;clear hok hg htg;obtain⟨L,S0,out,ch⟩:=c;simp only at hlow hsp1 hsp2 hlen hn;obtain⟨bn,hbn0⟩:∃ q,q=(⟨L,S0,out,ch⟩:Ac).bnd x:=⟨_,rfl⟩;rw[←hbn0]at hbd;obtain⟨p,hp0⟩:∃ q,q=ch.getD x 0:=⟨_,rfl⟩;have Hp0:=Lib.hid hp0;have hp:ch[x]?=some p:=by rw[hp0];exact getD_some (by omega)
 have hset:ch.set x p=ch:=by
  obtain⟨hlt,hge⟩:=List.getElem?_eq_some_iff.1 hp;rw[←hge];exact List.set_getElem_self hlt
 simp only at hbd;rw[←hp0]at hbd;obtain⟨hb1,hb2,hq1,hq2,hp1,hp2⟩:=hbd;have hbn:(bn:Int)=(S0:Int)/4096*p:=by
  rw[hbn0];show((S0/4096*ch.getD x 0:Nat):Int)=_;rw[←hp0];simp
 have Hbn:=Lib.hid hbn0;have HBn:=Lib.hid hbn;have Hp:=Lib.hid hp;have Hset:=Lib.hid hset;clear hbn0 hbn hp hset hp0;go_enter Tryd.func63,Tryd.ntmps63
 go_upto_region 1 with fail
 have hC:=h.ext (Ext.alloc w (.cells #[.int .i64 (x:Int),.int .i64 (bit:Int)] 93));have hb0:=blk_new w (.cells #[.int .i64 (x:Int),.int .i64 (bit:Int)] 93);have hBl:=(Below.refl H w).alloc h.hs (.cells #[.int .i64 (x:Int),.int .i64 (bit:Int)] 93);have hBO:O≠w.heap.size:=by have:=lt_of_block h.bk;omega
 generalize w.alloc (.cells #[.int .i64 (x:Int),.int .i64 (bit:Int)] 93)=w1 at *;obtain⟨B,hB0⟩:∃ B,B=w.heap.size:=⟨_,rfl⟩;rw[←hB0]at hb0 hBO⊢;clear hB0;refine wp_region_inv2 (by kernel_rfl) [(4,14),(5,0),(6,1),(7,2),(8,3),(9,4),(10,5),(11,6),(12,7),(13,8),(14,9),(15,10),(16,11),(17,12),(18,13)] [[],[0],[0,1],[0,1,2],[0,1,2,3],[],[5],[5,6],[5,6,7],[],[9],[5,6,7,8,9,10],[5,6,7,8,9,10,11],[0,1,2,3,4,5,6,7,8,9,10,11,12],[0,1,2,3,4,5,6,7,8,9,10,11,12,13]] (fun i own ys wx=>match i with|0=>own= .pointer (some ⟨O,0,none⟩)|1=>own= .pointer (some ⟨O,0,none⟩)|2=>own= .pointer (some ⟨O,1,none⟩)|3=>own= .int .i64 (S0:Int)|4=>own= .int .i64 ((S0:Int)/4096)|5=>own= .pointer (some ⟨O,0,none⟩)|6=>own= .pointer (some ⟨O,0,none⟩)|7=>own= .pointer (some ⟨O,3,none⟩)|8=>own= .slice (some ⟨gc,0,none⟩) 40 cc|9=>own= .pointer (some ⟨B,0,none⟩)|10=>own= .int .i64 (x:Int)|11=>own= .pointer (some ⟨gc,x,none⟩)|12=>own= .int .i64 (p:Int)|13=>own= .int .i64 (bn:Int)|14=>own= .int .i64 (bn:Int)|_=>True) (fun kx wx=>CM wx H O ⟨L,S0,out,ch⟩ vo (.slice (some ⟨gc,0,none⟩) 40 cc)∧wx.heap[B]?=some (.cells #[.int .i64 (x:Int),.int .i64 (bit:Int)] 93 (0,0))∧Below H w wx) (by kernel_rfl) (by kernel_rfl) (by kernel_rfl) ?g0_r1 ?gop_r1 ?gend_r1
 case g0_r1=>exact⟨hC.ext (Ext.drewN _ 1),(Ext.drewN _ 1).blk hb0,hBl.drew⟩
 case gop_r1 =>
  refine⟨?_,?o1,?o2,?o3,?o4,?_,?o6,?o7,?o8,?_,?o10,?o11,?o12,?o13,?o14,trivial⟩ <;> (intro kx xs wx hk hG hD hI Qo Kx hK hQo;simp only[patchS,Nat.reduceAdd,Nat.reduceEqDiff,↓reduceIte]at hQo⊢)
  case o1 =>
   rw[ddq (hD 0 rfl)]at hQo⊢;clear hD hI;go_wp2;exact hK.out _ _ ⟨rfl,hG,kkp⟩
  case o2 =>
   rw[ddq (hD 1 rfl)]at hQo⊢;clear hD hI;go_wp2;exact hK.out _ _ ⟨rfl,hG,kkp⟩
  case o3 =>
   rw[ddq (hD 2 rfl)]at hQo⊢;clear hD hI;obtain⟨-,⟨k0,k1,k2,k3⟩,-⟩:=bx4 hG.1.bk;go_wp2;exact hK.out _ _ ⟨rfl,hG,kkp⟩
  case o4 =>
   rw[ddq (hD 3 rfl)]at hQo⊢;clear hD hI;go_wp2;exact hK.out _ _ ⟨rfl,hG,kkp⟩
  case o6 =>
   rw[ddq (hD 5 rfl)]at hQo⊢;clear hD hI;go_wp2;exact hK.out _ _ ⟨rfl,hG,kkp⟩
  case o7 =>
   rw[ddq (hD 6 rfl)]at hQo⊢;clear hD hI;go_wp2;exact hK.out _ _ ⟨rfl,hG,kkp⟩
  case o8 =>
   rw[ddq (hD 7 rfl)]at hQo⊢;clear hD hI;obtain⟨-,⟨k0,k1,k2,k3⟩,-⟩:=bx4 hG.1.bk;go_wp2;exact hK.out _ _ ⟨rfl,hG,kkp⟩
  case o10 =>
   rw[ddq (hD 9 rfl)]at hQo⊢;clear hD hI;obtain⟨-,k0,k1,-⟩:=bx2 hG.2.1;go_wp2;exact hK.out _ _ ⟨rfl,hG,kkp⟩
  case o11 =>
   rw[ddq (hD 8 rfl),ddq (hD 10 rfl)]at hQo⊢;clear hD hI;go_wp2;exact hK.out _ _ ⟨rfl,hG,kkp⟩
  case o12 =>
   rw[ddq (hD 11 rfl)]at hQo⊢;clear hD hI;have k0:=hG.1.cellC Hp.out;go_wp2;exact hK.out _ _ ⟨rfl,hG,kkp⟩
  case o13 =>
   rw[ddq (hD 4 rfl),ddq (hD 12 rfl)]at hQo⊢;clear hD hI;go_wp2;exact hK.out _ _ ⟨by rw[←HBn.out];first|rfl|(congr 1;exact IntWalk.wrap64_in _ (by omega)),hG,fun _ _ _ _ _ _ h=>h⟩
  case o14 =>
   rw[ddq (hD 13 rfl)]at hQo⊢;clear hD hI;go_wp2;exact hK.out _ _ ⟨rfl,hG,kkp⟩
  all_goals
   clear hD hI;go_wp2;exact hK.out _ _ ⟨rfl,hG,kkp⟩
 intro xs wx hV hG;have d14:_=_:=hV 14 (by decide);clear hV;simp only[patchS,Nat.reduceAdd,Nat.reduceEqDiff,↓reduceIte];generalize xs 0=y0,xs 1=y1,xs 2=y2,xs 3=y3,xs 4=y4,xs 5=y5,xs 6=y6,xs 7=y7,xs 8=y8,xs 9=y9,xs 10=y10,xs 11=y11,xs 12=y12,xs 13=y13,xs 14=y14 at *
 replace hG:CM wx H O ⟨L,S0,out,ch⟩ vo (.slice (some ⟨gc,0,none⟩) 40 cc)∧wx.heap[B]?=some (.cells #[.int .i64 (x:Int),.int .i64 (bit:Int)] 93 (0,0))∧Below H w wx:=hG
 subst d14;obtain⟨hC2,hb2',hB2⟩:=hG;clear hC hb0 hBl;have hBw:B≠O:=fun e=>hBO e.symm
 obtain⟨bl,⟨k0,k1,k2,k3⟩,f0,f1,f2,f3⟩:=bx4 hC2.bk;simp only at k0 k1;obtain⟨-,j0,j1,-⟩:=bx2 hb2';have HC2:=Lib.hid hC2;have Hb2:=Lib.hid hb2';clear hC2 hb2' h
 by_cases h0:bit=0
 ·have hd:decide ((bit:Int)=0)=true:=by simp;omega
  go_upto_region 6 with fail
  have hC:=HC2.out.spn bn;have hb0:=blk_set_other (i:=1) (v := .int .i64 (bn:Int)) Hb2.out hBw;have hBl:=hB2.setCell (p:=⟨O,1,none⟩) HC2.out.hO (.int .i64 (bn:Int));clear bl k0 k1 k2 k3 f0 f1 f2 f3 j0 j1 HC2 Hb2 hB2 hd;have H0:=Lib.hid h0;clear h0;generalize World.setCell _ _ _=w3 at *;obtain⟨L2,hL2⟩:∃ q,q=L:=⟨_,rfl⟩;obtain⟨S2,hS2⟩:∃ q,q=bn:=⟨_,rfl⟩;rw[←hL2,←hS2]at hC;have HL2:=Lib.hid hL2;have HS2:=Lib.hid hS2;clear hL2 hS2;refine wp_region_invL (by kernel_rfl) [(44,0),(45,1),(46,2),(47,3),(48,4),(49,5),(50,6),(51,7),(52,8),(53,9),(54,10),(55,11),(56,12),(57,13),(58,14),(59,15),(60,16),(61,17)] [[],[0],[0,1],[0,1,2],[],[4],[],[6],[6,7],[6,7,8],[],[10],[6,7,8,9,10,11],[6,7,8,9,10,11,12],[],[14],[6,7,8,9,10,11,12,13,14,15],[0,1,2,3,4,5,6,7,8,9,10,11,12,13,14,15,16],[0,1,2,3,4,5,6,7,8,9,10,11,12,13,14,15,16,17]] (fun i own ys wx=>match i with|0=>own= .pointer (some ⟨O,0,none⟩)|1=>own= .pointer (some ⟨O,0,none⟩)|2=>own= .pointer (some ⟨O,3,none⟩)|3=>own= .slice (some ⟨gc,0,none⟩) 40 cc|4=>own= .pointer (some ⟨B,0,none⟩)|5=>own= .int .i64 (x:Int)|6=>own= .pointer (some ⟨O,0,none⟩)|7=>own= .pointer (some ⟨O,0,none⟩)|8=>own= .pointer (some ⟨O,3,none⟩)|9=>own= .slice (some ⟨gc,0,none⟩) 40 cc|10=>own= .pointer (some ⟨B,0,none⟩)|11=>own= .int .i64 (x:Int)|12=>own= .pointer (some ⟨gc,x,none⟩)|13=>own= .int .i64 (p:Int)|14=>own= .pointer (some ⟨B,1,none⟩)|15=>own= .int .i64 (bit:Int)|16=>own= .int .i64 (nch p bit:Nat)|17=>own= .pointer (some ⟨gc,x,none⟩)|18=>∃ _z:Nat,CM wx H O ⟨L2,S2,out,ch.set x (nch p bit)⟩ vo (.slice (some ⟨gc,0,none⟩) 40 cc)|_=>True) (fun Lx wx=>(∃ q:Nat,CM wx H O ⟨L2,S2,out,ch.set x q⟩ vo (.slice (some ⟨gc,0,none⟩) 40 cc)∧(Lx 18=false→q=p))∧wx.heap[B]?=some (.cells #[.int .i64 (x:Int),.int .i64 (bit:Int)] 93 (0,0))∧Below H w wx) (by kernel_rfl) (by kernel_rfl) (by kernel_rfl) ?g0_r2 ?gop_r2 ?gend_r2
  case g0_r2=>exact⟨⟨p,by rw[Hset.out];exact hC.ext (Ext.drewN _ 1),fun _=>rfl⟩,(Ext.drewN _ 1).blk hb0,hBl.drew⟩
  case gop_r2 =>
   refine⟨?_,?o1,?o2,?o3,?_,?o5,?_,?o7,?o8,?o9,?_,?o11,?o12,?o13,?_,?o15,?o16,?o17,?o18,trivial⟩ <;> (intro Lx xs wx hG hl ha hb hD hI Qo Kx hK hQo;simp only[patchS,Nat.reduceAdd,Nat.reduceEqDiff,↓reduceIte]at hQo⊢)
   case o1 =>
    clear hl ha hb;rw[ddq (hD 0 rfl)]at hQo⊢;clear hD hI;go_wp2;exact hK.out _ _ ⟨rfl,hG,kkp⟩
   case o2 =>
    clear hl ha hb;rw[ddq (hD 1 rfl)]at hQo⊢;clear hD hI;go_wp2;exact hK.out _ _ ⟨rfl,hG,kkp⟩
   case o3 =>
    clear hl ha hb;rw[ddq (hD 2 rfl)]at hQo⊢;clear hD hI;obtain⟨q,g1,g2⟩:=hG.1;obtain⟨-,⟨k0,k1,k2,k3⟩,-⟩:=bx4 g1.bk;go_wp2;exact hK.out _ _ ⟨rfl,hG,kkp⟩
   case o5 =>
    clear hl ha hb;rw[ddq (hD 4 rfl)]at hQo⊢;clear hD hI;obtain⟨-,k0,k1,-⟩:=bx2 hG.2.1;go_wp2;exact hK.out _ _ ⟨rfl,hG,kkp⟩
   case o7 =>
    clear hl ha hb;rw[ddq (hD 6 rfl)]at hQo⊢;clear hD hI;go_wp2;exact hK.out _ _ ⟨rfl,hG,kkp⟩
   case o8 =>
    clear hl ha hb;rw[ddq (hD 7 rfl)]at hQo⊢;clear hD hI;go_wp2;exact hK.out _ _ ⟨rfl,hG,kkp⟩
   case o9 =>
    clear hl ha hb;rw[ddq (hD 8 rfl)]at hQo⊢;clear hD hI;obtain⟨q,g1,g2⟩:=hG.1;obtain⟨-,⟨k0,k1,k2,k3⟩,-⟩:=bx4 g1.bk;go_wp2;exact hK.out _ _ ⟨rfl,hG,kkp⟩
   case o11 =>
    clear hl ha hb;rw[ddq (hD 10 rfl)]at hQo⊢;clear hD hI;obtain⟨-,k0,k1,-⟩:=bx2 hG.2.1;go_wp2;exact hK.out _ _ ⟨rfl,hG,kkp⟩
   case o12 =>
    clear hl ha hb;rw[ddq (hD 9 rfl),ddq (hD 11 rfl)]at hQo⊢;clear hD hI;go_wp2;exact hK.out _ _ ⟨rfl,hG,kkp⟩
   case o13 =>
    have l18:Lx 18=false:=hb 18 rfl;clear hl ha hb;rw[ddq (hD 12 rfl)]at hQo⊢;clear hD hI;obtain⟨q,g1,g2⟩:=hG.1;obtain rfl:=g2 l18;rw[Hset.out]at g1;have k0:=g1.cellC Hp.out;go_wp2;exact hK.out _ _ ⟨rfl,hG,kkp⟩
   case o15 =>
    clear hl ha hb;rw[ddq (hD 14 rfl)]at hQo⊢;clear hD hI;obtain⟨-,k0,k1,-⟩:=bx2 hG.2.1;go_wp2;exact hK.out _ _ ⟨rfl,hG,kkp⟩
   case o16 =>
    clear hl ha hb;rw[ddq (hD 13 rfl),ddq (hD 15 rfl)]at hQo⊢;clear hD hI;go_wp2_with fail
    refine(spec_NextChance_in p bit _ hp1 hp2 hbit).mono ?_
    rintro e wz ⟨rfl,rfl⟩
    go_wp2;exact hK.out _ _ ⟨rfl,hG,kkp⟩
   case o17 =>
    clear hl ha hb;rw[ddq (hD 3 rfl),ddq (hD 5 rfl)]at hQo⊢;clear hD hI;go_wp2;exact hK.out _ _ ⟨rfl,hG,kkp⟩
   case o18 =>
    clear hl ha hb;rw[ddq (hD 16 rfl),ddq (hD 17 rfl)]at hQo⊢;clear hD hI;obtain⟨q,g1,g2⟩:=hG.1;have f0:=g1.rc.frozenAt x;have k0:=g1.cellC (i:=x) (p:=q) (by rw[List.getElem?_set_self (by omega)]);go_wp2;have hst:∀(wy:World),True→Stbn 19 18 [[],[0],[0,1],[0,1,2],[],[4],[],[6],[6,7],[6,7,8],[],[10],[6,7,8,9,10,11],[6,7,8,9,10,11,12],[],[14],[6,7,8,9,10,11,12,13,14,15],[0,1,2,3,4,5,6,7,8,9,10,11,12,13,14,15,16],[0,1,2,3,4,5,6,7,8,9,10,11,12,13,14,15,16,17]] (fun i own ys wx=>match i with|0=>own= .pointer (some ⟨O,0,none⟩)|1=>own= .pointer (some ⟨O,0,none⟩)|2=>own= .pointer (some ⟨O,3,none⟩)|3=>own= .slice (some ⟨gc,0,none⟩) 40 cc|4=>own= .pointer (some ⟨B,0,none⟩)|5=>own= .int .i64 (x:Int)|6=>own= .pointer (some ⟨O,0,none⟩)|7=>own= .pointer (some ⟨O,0,none⟩)|8=>own= .pointer (some ⟨O,3,none⟩)|9=>own= .slice (some ⟨gc,0,none⟩) 40 cc|10=>own= .pointer (some ⟨B,0,none⟩)|11=>own= .int .i64 (x:Int)|12=>own= .pointer (some ⟨gc,x,none⟩)|13=>own= .int .i64 (p:Int)|14=>own= .pointer (some ⟨B,1,none⟩)|15=>own= .int .i64 (bit:Int)|16=>own= .int .i64 (nch p bit:Nat)|17=>own= .pointer (some ⟨gc,x,none⟩)|18=>∃ _z:Nat,CM wx H O ⟨L2,S2,out,ch.set x (nch p bit)⟩ vo (.slice (some ⟨gc,0,none⟩) 40 cc)|_=>True) wx wy:=by
     intro wy hy ii hii hne hc own ys h
     match ii,h with
     | 0,h|1,h|2,h|3,h|4,h|5,h|6,h|7,h|8,h|9,h|10,h|11,h|12,h|13,h|14,h|15,h|16,h|17,h=>exact h
     | 18,h=>exact absurd rfl hne
     | _+19,_=>trivial
    have hf:=g1.chs x (nch p bit);simp only[List.set_set]at hf;have hBg:B≠gc:=fun e=>g1.cneB hG.2.1 (by rw[e])
    exact hQo undef _ (hK.out _ _ ⟨⟨0,hf⟩,⟨⟨_,hf,fun h=>by cases h⟩,blk_set_other hG.2.1 hBg,hG.2.2.setCell hgc _⟩,hst _ trivial⟩)
   all_goals
    clear hl ha hb hD hI;go_wp2;exact hK.out _ _ ⟨rfl,hG,kkp⟩
  intro xs wx hV hG0;obtain⟨Lx,hL,hG⟩:=hG0;have l18:Lx 18=true:=hL 18 (by decide);clear hL;have d18:∃ _z:Nat,CM wx H O ⟨L2,S2,out,ch.set x (nch p bit)⟩ vo (.slice (some ⟨gc,0,none⟩) 40 cc):=hV 18 (by decide);clear hV;simp only[patchS,Nat.reduceAdd,Nat.reduceEqDiff,↓reduceIte];generalize xs 0=y0,xs 1=y1,xs 2=y2,xs 3=y3,xs 4=y4,xs 5=y5,xs 6=y6,xs 7=y7,xs 8=y8,xs 9=y9,xs 10=y10,xs 11=y11,xs 12=y12,xs 13=y13,xs 14=y14,xs 15=y15,xs 16=y16,xs 17=y17,xs 18=y18 at *
  replace hG:(∃ q:Nat,CM wx H O ⟨L2,S2,out,ch.set x q⟩ vo (.slice (some ⟨gc,0,none⟩) 40 cc)∧(Lx 18=false→q=p))∧wx.heap[B]?=some (.cells #[.int .i64 (x:Int),.int .i64 (bit:Int)] 93 (0,0))∧Below H w wx:=hG
  obtain⟨_,c18⟩:=d18;have hu:(⟨L,S0,out,ch⟩:Ac).upd x bit=⟨L2,S2,out,ch.set x (nch p bit)⟩:=by
   unfold Ac.upd;rw[if_pos H0.out,←Hbn.out];simp only;rw[←Hp0.out,←HS2.out,←HL2.out]
  have hok:=Hok.out;rw[hu]at hok;have hN0:NI w wx H O (out.length+3) tg (.slice (some ⟨gc,0,none⟩) 40 cc):=by
   refine⟨3,_,vo,Nat.le_refl _,c18,hG.2.2,?_,hok.1,hok.2.1,hok.2.2,?_,Nat.le_refl _⟩
   ·rw[Htg.out,←hu];rfl
   ·have:=hok.2.1;simp only at this;show 16777216≤S2*256^3;omega
  have hn3:out.length+3≤900003:=by omega
  clear hlow hsp1 hsp2 hlen hn hok hu c18 hG hC hb0 hBl hp1 hp2 hb1 hb2 hq1 hq2 hcc1 hcc2;try clear Hok Htg Hbn Hp0
  obtain⟨vc,hvc⟩:∃ v,v=Value.slice (some ⟨gc,0,none⟩) 40 cc:=⟨_,rfl⟩;rw[←hvc]at hN0;have Hvc:=Lib.hid hvc;clear hvc;go_wp2_with fail
  go_loopw [] (fun wr=>NI w wr H O (out.length+3) tg vc) (fun wr=>4294967296-spanOf wr O)
  case atStart=>exact hN0
  case round =>
   obtain⟨k,c1,vo1,hk,hC,hB,hno,hi1,hi2,hi3,hi4,hi5⟩:=hrel;clear hN0;have hsp:=hC.span;obtain⟨bl,⟨k0,k1,k2,k3⟩,f0,f1,f2,f3⟩:=bx4 hC.bk
   by_cases hlt:c1.span<16777216
   ·obtain⟨q,rfl⟩:∃ q,k=q+1:=by
     cases k with
     | zero=>simp at hi4;omega
     | succ q=>exact⟨q,rfl⟩
    have hsh:=Lib.hid (spec_shift_any wr H O c1.span c1 vo1 vc hC hi1 hi2 (by omega));have hwi:=Lib.hid (Ac.wide_inv hi1 hi2 hlt);have hno2:Ac.norm q c1.wide=tg:=by rw[←hno];show _=if c1.span<16777216 then _ else _;rw[if_pos hlt]
    have hwo:c1.wide.out.length=c1.out.length+1:=by show(c1.car ++ [_]).length=_;rw[List.length_append,Ac.car_len];rfl
    have hws:c1.wide.span=c1.span*256:=rfl;have hpw:16777216≤c1.wide.span*256^q:=by rw[hws];rw[Nat.pow_succ]at hi4;rw[Nat.mul_assoc,Nat.mul_comm 256];exact hi4
    have Hrest:=Lib.hid (⟨hno2,hwo,hpw,hi4,hno⟩:_∧_∧_∧_∧_);have hcs:c1.shift.span=c1.span:=rfl;obtain⟨S1,hS1⟩:∃ S1,S1=c1.span:=⟨_,rfl⟩;rw[←hS1]at hlt hi2 hi3 k1 hsp hcs;have HS1:=Lib.hid hS1;have hdl:decide ((S1:Int)<16777216)=true:=by simp;omega
    have hS1i:1≤(S1:Int):=by omega
    have hS2i:(S1:Int)<16777216:=by omega
    have Hi:=Lib.hid (⟨hi2,hi3,hlt,hi5,hk⟩:_∧_∧_∧_∧_);clear hi2 hi3 hlt hi5 hk hn3 hno2 hwo hpw hi4 hno hws hi1 hC hS1;go_wp2_with fail
    refine hsh.out.mono ?_
    rintro e w4 ⟨rfl,⟨vo2,hC4⟩,hB4⟩
    obtain⟨c4,hc4⟩:∃ c4,c4=c1.shift:=⟨_,rfl⟩;rw[←hc4]at hC4 hcs;have Hc4:=Lib.hid hc4;clear hc4 bl k0 k1 k2 k3 f0 f1 f2 f3;obtain⟨bl,⟨k0,k1,k2,k3⟩,f0,f1,f2,f3⟩:=bx4 hC4.bk;rw[hcs]at k1;have HC4:=Lib.hid hC4;have HB4:=Lib.hid (hB.trans hB4);clear hC4 hB4 hB;go_wp2;go_roundw
    case rel =>
     obtain⟨r1,r2,r3,-,-⟩:=Hrest.out;obtain⟨hi2,hi3,hlt,hi5,hk⟩:=Hi.out;have hC5:=HC4.out.spn (S1*256);rw[show((S1*256:Nat):Int)=(S1:Int)*256 by omega]at hC5;refine⟨q,c1.wide,vo2,by omega,?_,HB4.out.setCell HC4.out.hO _,r1,hwi.out,?_,?_,r3,by omega⟩
     ·have:(⟨c4.low,S1*256,c4.out,c4.ch⟩:Ac)=c1.wide:=by rw[Hc4.out,HS1.out];rfl
      rw[←this];exact hC5
     ·show 1≤c1.span*256;have:=HS1.out;omega
     ·show c1.span*256<_;have:=HS1.out;omega
    case measure =>
     have hC5:=HC4.out.spn (S1*256);rw[show((S1*256:Nat):Int)=(S1:Int)*256 by omega]at hC5;have h5:=hC5.span;simp only at h5;have:=Hi.out.1;have:=Hi.out.2.2.1;rw[h5,hsp];omega
   ·have HC:=Lib.hid hC;have hd:Ac.norm k c1=c1:=Ac.norm_done k (by omega);rw[hd]at hno;subst hno;have hdl:decide ((c1.span:Int)<16777216)=false:=by simp;omega
    clear hC hi1 hd hi2 hi3 hi4 hi5 hlt hn3;go_wp2;refine bodyPost_end (results_none rfl _ _ _) rfl ?_;exact⟨rfl,⟨vo1,by rw[←Hvc.out];exact HC.out⟩,hB⟩
 ·have hd:decide ((bit:Int)=0)=false:=by simp;omega
  go_upto_region 5 with fail
  have hC:=HC2.out.low (L+bn);rw[show((L+bn:Nat):Int)=(L:Int)+bn by omega]at hC;have hb0:=blk_set_other (i:=0) (v := .int .i64 ((L:Int)+bn)) Hb2.out hBw;have hBl:=hB2.setCell (p:=⟨O,0,none⟩) HC2.out.hO (.int .i64 ((L:Int)+bn));clear bl k0 k1 k2 k3 f0 f1 f2 f3 j0 j1 HC2 Hb2 hB2 hd;generalize World.setCell _ _ _=w3 at *;obtain⟨bl,⟨k0,k1,k2,k3⟩,f0,f1,f2,f3⟩:=bx4 hC.bk;simp only at k0 k1;have HC2:=Lib.hid hC;have Hb2:=Lib.hid hb0;have hB2:=hBl;clear hC hb0 hBl;go_upto_region 6 with fail
  have hC:=HC2.out.spn (S0-bn);simp only at hC;rw[show((S0-bn:Nat):Int)=(S0:Int)-bn by omega]at hC;have hb0:=blk_set_other (i:=1) (v := .int .i64 ((S0:Int)-bn)) Hb2.out hBw;have hBl:=hB2.setCell (p:=⟨O,1,none⟩) HC2.out.hO (.int .i64 ((S0:Int)-bn));clear bl k0 k1 k2 k3 f0 f1 f2 f3 HC2 Hb2 hB2;have H0:=Lib.hid h0;clear h0;generalize World.setCell _ _ _=w4 at *;generalize ((bit:Int) == 0)=bb;obtain⟨L2,hL2⟩:∃ q,q=L+bn:=⟨_,rfl⟩;obtain⟨S2,hS2⟩:∃ q,q=S0-bn:=⟨_,rfl⟩;rw[←hL2,←hS2]at hC;have HL2:=Lib.hid hL2;have HS2:=Lib.hid hS2;clear hL2 hS2;refine wp_region_invL (by kernel_rfl) [(44,0),(45,1),(46,2),(47,3),(48,4),(49,5),(50,6),(51,7),(52,8),(53,9),(54,10),(55,11),(56,12),(57,13),(58,14),(59,15),(60,16),(61,17)] [[],[0],[0,1],[0,1,2],[],[4],[],[6],[6,7],[6,7,8],[],[10],[6,7,8,9,10,11],[6,7,8,9,10,11,12],[],[14],[6,7,8,9,10,11,12,13,14,15],[0,1,2,3,4,5,6,7,8,9,10,11,12,13,14,15,16],[0,1,2,3,4,5,6,7,8,9,10,11,12,13,14,15,16,17]] (fun i own ys wx=>match i with|0=>own= .pointer (some ⟨O,0,none⟩)|1=>own= .pointer (some ⟨O,0,none⟩)|2=>own= .pointer (some ⟨O,3,none⟩)|3=>own= .slice (some ⟨gc,0,none⟩) 40 cc|4=>own= .pointer (some ⟨B,0,none⟩)|5=>own= .int .i64 (x:Int)|6=>own= .pointer (some ⟨O,0,none⟩)|7=>own= .pointer (some ⟨O,0,none⟩)|8=>own= .pointer (some ⟨O,3,none⟩)|9=>own= .slice (some ⟨gc,0,none⟩) 40 cc|10=>own= .pointer (some ⟨B,0,none⟩)|11=>own= .int .i64 (x:Int)|12=>own= .pointer (some ⟨gc,x,none⟩)|13=>own= .int .i64 (p:Int)|14=>own= .pointer (some ⟨B,1,none⟩)|15=>own= .int .i64 (bit:Int)|16=>own= .int .i64 (nch p bit:Nat)|17=>own= .pointer (some ⟨gc,x,none⟩)|18=>∃ _z:Nat,CM wx H O ⟨L2,S2,out,ch.set x (nch p bit)⟩ vo (.slice (some ⟨gc,0,none⟩) 40 cc)|_=>True) (fun Lx wx=>(∃ q:Nat,CM wx H O ⟨L2,S2,out,ch.set x q⟩ vo (.slice (some ⟨gc,0,none⟩) 40 cc)∧(Lx 18=false→q=p))∧wx.heap[B]?=some (.cells #[.int .i64 (x:Int),.int .i64 (bit:Int)] 93 (0,0))∧Below H w wx) (by kernel_rfl) (by kernel_rfl) (by kernel_rfl) ?g0_r3 ?gop_r3 ?gend_r3
  case g0_r3=>exact⟨⟨p,by rw[Hset.out];exact hC.ext (Ext.drewN _ 1),fun _=>rfl⟩,(Ext.drewN _ 1).blk hb0,hBl.drew⟩
  case gop_r3 =>
   refine⟨?_,?o1,?o2,?o3,?_,?o5,?_,?o7,?o8,?o9,?_,?o11,?o12,?o13,?_,?o15,?o16,?o17,?o18,trivial⟩ <;> (intro Lx xs wx hG hl ha hb hD hI Qo Kx hK hQo;simp only[patchS,Nat.reduceAdd,Nat.reduceEqDiff,↓reduceIte]at hQo⊢)
   case o1 =>
    clear hl ha hb;rw[ddq (hD 0 rfl)]at hQo⊢;clear hD hI;go_wp2;exact hK.out _ _ ⟨rfl,hG,kkp⟩
   case o2 =>
    clear hl ha hb;rw[ddq (hD 1 rfl)]at hQo⊢;clear hD hI;go_wp2;exact hK.out _ _ ⟨rfl,hG,kkp⟩
   case o3 =>
    clear hl ha hb;rw[ddq (hD 2 rfl)]at hQo⊢;clear hD hI;obtain⟨q,g1,g2⟩:=hG.1;obtain⟨-,⟨k0,k1,k2,k3⟩,-⟩:=bx4 g1.bk;go_wp2;exact hK.out _ _ ⟨rfl,hG,kkp⟩
   case o5 =>
    clear hl ha hb;rw[ddq (hD 4 rfl)]at hQo⊢;clear hD hI;obtain⟨-,k0,k1,-⟩:=bx2 hG.2.1;go_wp2;exact hK.out _ _ ⟨rfl,hG,kkp⟩
   case o7 =>
    clear hl ha hb;rw[ddq (hD 6 rfl)]at hQo⊢;clear hD hI;go_wp2;exact hK.out _ _ ⟨rfl,hG,kkp⟩
   case o8 =>
    clear hl ha hb;rw[ddq (hD 7 rfl)]at hQo⊢;clear hD hI;go_wp2;exact hK.out _ _ ⟨rfl,hG,kkp⟩
   case o9 =>
    clear hl ha hb;rw[ddq (hD 8 rfl)]at hQo⊢;clear hD hI;obtain⟨q,g1,g2⟩:=hG.1;obtain⟨-,⟨k0,k1,k2,k3⟩,-⟩:=bx4 g1.bk;go_wp2;exact hK.out _ _ ⟨rfl,hG,kkp⟩
   case o11 =>
    clear hl ha hb;rw[ddq (hD 10 rfl)]at hQo⊢;clear hD hI;obtain⟨-,k0,k1,-⟩:=bx2 hG.2.1;go_wp2;exact hK.out _ _ ⟨rfl,hG,kkp⟩
   case o12 =>
    clear hl ha hb;rw[ddq (hD 9 rfl),ddq (hD 11 rfl)]at hQo⊢;clear hD hI;go_wp2;exact hK.out _ _ ⟨rfl,hG,kkp⟩
   case o13 =>
    have l18:Lx 18=false:=hb 18 rfl;clear hl ha hb;rw[ddq (hD 12 rfl)]at hQo⊢;clear hD hI;obtain⟨q,g1,g2⟩:=hG.1;obtain rfl:=g2 l18;rw[Hset.out]at g1;have k0:=g1.cellC Hp.out;go_wp2;exact hK.out _ _ ⟨rfl,hG,kkp⟩
   case o15 =>
    clear hl ha hb;rw[ddq (hD 14 rfl)]at hQo⊢;clear hD hI;obtain⟨-,k0,k1,-⟩:=bx2 hG.2.1;go_wp2;exact hK.out _ _ ⟨rfl,hG,kkp⟩
   case o16 =>
    clear hl ha hb;rw[ddq (hD 13 rfl),ddq (hD 15 rfl)]at hQo⊢;clear hD hI;go_wp2_with fail
    refine(spec_NextChance_in p bit _ hp1 hp2 hbit).mono ?_
    rintro e wz ⟨rfl,rfl⟩
    go_wp2;exact hK.out _ _ ⟨rfl,hG,kkp⟩
   case o17 =>
    clear hl ha hb;rw[ddq (hD 3 rfl),ddq (hD 5 rfl)]at hQo⊢;clear hD hI;go_wp2;exact hK.out _ _ ⟨rfl,hG,kkp⟩
   case o18 =>
    clear hl ha hb;rw[ddq (hD 16 rfl),ddq (hD 17 rfl)]at hQo⊢;clear hD hI;obtain⟨q,g1,g2⟩:=hG.1;have f0:=g1.rc.frozenAt x;have k0:=g1.cellC (i:=x) (p:=q) (by rw[List.getElem?_set_self (by omega)]);go_wp2;have hst:∀(wy:World),True→Stbn 19 18 [[],[0],[0,1],[0,1,2],[],[4],[],[6],[6,7],[6,7,8],[],[10],[6,7,8,9,10,11],[6,7,8,9,10,11,12],[],[14],[6,7,8,9,10,11,12,13,14,15],[0,1,2,3,4,5,6,7,8,9,10,11,12,13,14,15,16],[0,1,2,3,4,5,6,7,8,9,10,11,12,13,14,15,16,17]] (fun i own ys wx=>match i with|0=>own= .pointer (some ⟨O,0,none⟩)|1=>own= .pointer (some ⟨O,0,none⟩)|2=>own= .pointer (some ⟨O,3,none⟩)|3=>own= .slice (some ⟨gc,0,none⟩) 40 cc|4=>own= .pointer (some ⟨B,0,none⟩)|5=>own= .int .i64 (x:Int)|6=>own= .pointer (some ⟨O,0,none⟩)|7=>own= .pointer (some ⟨O,0,none⟩)|8=>own= .pointer (some ⟨O,3,none⟩)|9=>own= .slice (some ⟨gc,0,none⟩) 40 cc|10=>own= .pointer (some ⟨B,0,none⟩)|11=>own= .int .i64 (x:Int)|12=>own= .pointer (some ⟨gc,x,none⟩)|13=>own= .int .i64 (p:Int)|14=>own= .pointer (some ⟨B,1,none⟩)|15=>own= .int .i64 (bit:Int)|16=>own= .int .i64 (nch p bit:Nat)|17=>own= .pointer (some ⟨gc,x,none⟩)|18=>∃ _z:Nat,CM wx H O ⟨L2,S2,out,ch.set x (nch p bit)⟩ vo (.slice (some ⟨gc,0,none⟩) 40 cc)|_=>True) wx wy:=by
     intro wy hy ii hii hne hc own ys h
     match ii,h with
     | 0,h|1,h|2,h|3,h|4,h|5,h|6,h|7,h|8,h|9,h|10,h|11,h|12,h|13,h|14,h|15,h|16,h|17,h=>exact h
     | 18,h=>exact absurd rfl hne
     | _+19,_=>trivial
    have hf:=g1.chs x (nch p bit);simp only[List.set_set]at hf;have hBg:B≠gc:=fun e=>g1.cneB hG.2.1 (by rw[e])
    exact hQo undef _ (hK.out _ _ ⟨⟨0,hf⟩,⟨⟨_,hf,fun h=>by cases h⟩,blk_set_other hG.2.1 hBg,hG.2.2.setCell hgc _⟩,hst _ trivial⟩)
   all_goals
    clear hl ha hb hD hI;go_wp2;exact hK.out _ _ ⟨rfl,hG,kkp⟩
  intro xs wx hV hG0;obtain⟨Lx,hL,hG⟩:=hG0;have l18:Lx 18=true:=hL 18 (by decide);clear hL;have d18:∃ _z:Nat,CM wx H O ⟨L2,S2,out,ch.set x (nch p bit)⟩ vo (.slice (some ⟨gc,0,none⟩) 40 cc):=hV 18 (by decide);clear hV;simp only[patchS,Nat.reduceAdd,Nat.reduceEqDiff,↓reduceIte];generalize xs 0=y0,xs 1=y1,xs 2=y2,xs 3=y3,xs 4=y4,xs 5=y5,xs 6=y6,xs 7=y7,xs 8=y8,xs 9=y9,xs 10=y10,xs 11=y11,xs 12=y12,xs 13=y13,xs 14=y14,xs 15=y15,xs 16=y16,xs 17=y17,xs 18=y18 at *
  replace hG:(∃ q:Nat,CM wx H O ⟨L2,S2,out,ch.set x q⟩ vo (.slice (some ⟨gc,0,none⟩) 40 cc)∧(Lx 18=false→q=p))∧wx.heap[B]?=some (.cells #[.int .i64 (x:Int),.int .i64 (bit:Int)] 93 (0,0))∧Below H w wx:=hG
  obtain⟨_,c18⟩:=d18;have hu:(⟨L,S0,out,ch⟩:Ac).upd x bit=⟨L2,S2,out,ch.set x (nch p bit)⟩:=by
   unfold Ac.upd;rw[if_neg H0.out,←Hbn.out];simp only;rw[←Hp0.out,HS2.out,HL2.out]
  have hok:=Hok.out;rw[hu]at hok;have hN0:NI w wx H O (out.length+3) tg (.slice (some ⟨gc,0,none⟩) 40 cc):=by
   refine⟨3,_,vo,Nat.le_refl _,c18,hG.2.2,?_,hok.1,hok.2.1,hok.2.2,?_,Nat.le_refl _⟩
   ·rw[Htg.out,←hu];rfl
   ·have:=hok.2.1;simp only at this;show 16777216≤S2*256^3;omega
  have hn3:out.length+3≤900003:=by omega
  clear hlow hsp1 hsp2 hlen hn hok hu c18 hG hC hb0 hBl hp1 hp2 hb1 hb2 hq1 hq2 hcc1 hcc2;try clear Hok Htg Hbn Hp0
  obtain⟨vc,hvc⟩:∃ v,v=Value.slice (some ⟨gc,0,none⟩) 40 cc:=⟨_,rfl⟩;rw[←hvc]at hN0;have Hvc:=Lib.hid hvc;clear hvc;go_wp2_with fail
  go_loopw [] (fun wr=>NI w wr H O (out.length+3) tg vc) (fun wr=>4294967296-spanOf wr O)
  case atStart=>exact hN0
  case round =>
   obtain⟨k,c1,vo1,hk,hC,hB,hno,hi1,hi2,hi3,hi4,hi5⟩:=hrel;clear hN0;have hsp:=hC.span;obtain⟨bl,⟨k0,k1,k2,k3⟩,f0,f1,f2,f3⟩:=bx4 hC.bk
   by_cases hlt:c1.span<16777216
   ·obtain⟨q,rfl⟩:∃ q,k=q+1:=by
     cases k with
     | zero=>simp at hi4;omega
     | succ q=>exact⟨q,rfl⟩
    have hsh:=Lib.hid (spec_shift_any wr H O c1.span c1 vo1 vc hC hi1 hi2 (by omega));have hwi:=Lib.hid (Ac.wide_inv hi1 hi2 hlt);have hno2:Ac.norm q c1.wide=tg:=by rw[←hno];show _=if c1.span<16777216 then _ else _;rw[if_pos hlt]
    have hwo:c1.wide.out.length=c1.out.length+1:=by show(c1.car ++ [_]).length=_;rw[List.length_append,Ac.car_len];rfl
    have hws:c1.wide.span=c1.span*256:=rfl;have hpw:16777216≤c1.wide.span*256^q:=by rw[hws];rw[Nat.pow_succ]at hi4;rw[Nat.mul_assoc,Nat.mul_comm 256];exact hi4
    have Hrest:=Lib.hid (⟨hno2,hwo,hpw,hi4,hno⟩:_∧_∧_∧_∧_);have hcs:c1.shift.span=c1.span:=rfl;obtain⟨S1,hS1⟩:∃ S1,S1=c1.span:=⟨_,rfl⟩;rw[←hS1]at hlt hi2 hi3 k1 hsp hcs;have HS1:=Lib.hid hS1;have hdl:decide ((S1:Int)<16777216)=true:=by simp;omega
    have hS1i:1≤(S1:Int):=by omega
    have hS2i:(S1:Int)<16777216:=by omega
    have Hi:=Lib.hid (⟨hi2,hi3,hlt,hi5,hk⟩:_∧_∧_∧_∧_);clear hi2 hi3 hlt hi5 hk hn3 hno2 hwo hpw hi4 hno hws hi1 hC hS1;go_wp2_with fail
    refine hsh.out.mono ?_
    rintro e w4 ⟨rfl,⟨vo2,hC4⟩,hB4⟩
    obtain⟨c4,hc4⟩:∃ c4,c4=c1.shift:=⟨_,rfl⟩;rw[←hc4]at hC4 hcs;have Hc4:=Lib.hid hc4;clear hc4 bl k0 k1 k2 k3 f0 f1 f2 f3;obtain⟨bl,⟨k0,k1,k2,k3⟩,f0,f1,f2,f3⟩:=bx4 hC4.bk;rw[hcs]at k1;have HC4:=Lib.hid hC4;have HB4:=Lib.hid (hB.trans hB4);clear hC4 hB4 hB;go_wp2;go_roundw
    case rel =>
     obtain⟨r1,r2,r3,-,-⟩:=Hrest.out;obtain⟨hi2,hi3,hlt,hi5,hk⟩:=Hi.out;have hC5:=HC4.out.spn (S1*256);rw[show((S1*256:Nat):Int)=(S1:Int)*256 by omega]at hC5;refine⟨q,c1.wide,vo2,by omega,?_,HB4.out.setCell HC4.out.hO _,r1,hwi.out,?_,?_,r3,by omega⟩
     ·have:(⟨c4.low,S1*256,c4.out,c4.ch⟩:Ac)=c1.wide:=by rw[Hc4.out,HS1.out];rfl
      rw[←this];exact hC5
     ·show 1≤c1.span*256;have:=HS1.out;omega
     ·show c1.span*256<_;have:=HS1.out;omega
    case measure =>
     have hC5:=HC4.out.spn (S1*256);rw[show((S1*256:Nat):Int)=(S1:Int)*256 by omega]at hC5;have h5:=hC5.span;simp only at h5;have:=Hi.out.1;have:=Hi.out.2.2.1;rw[h5,hsp];omega
   ·have HC:=Lib.hid hC;have hd:Ac.norm k c1=c1:=Ac.norm_done k (by omega);rw[hd]at hno;subst hno;have hdl:decide ((c1.span:Int)<16777216)=false:=by simp;omega
    clear hC hi1 hd hi2 hi3 hi4 hi5 hlt hn3;go_wp2;refine bodyPost_end (results_none rfl _ _ _) rfl ?_;exact⟨rfl,⟨vo1,by rw[←Hvc.out];exact HC.out⟩,hB⟩
def binOk (L:List Int) (k:Nat):Bool:=decide ((0≤L.getD (k*2) 0∧L.getD (k*2) 0≤39)∧0≤L.getD (k*2+1) 0∧L.getD (k*2+1) 0≤1)
/-- What BinsValid answers for n decisions. -/
def binsOk (L:List Int) (n:Nat):Bool:=(List.range n).all (binOk L) && decide (n≤20000)
def pairs (L:List Int) (n:Nat):List (Nat×Nat):=(List.range n).map fun k=>((L.getD (k*2) 0).toNat,(L.getD (k*2+1) 0).toNat)
/-- What EncodeBins answers for n decisions. -/
def encS (L:List Int) (n:Nat):List Int:=if binsOk L n=true then encL (pairs L n)else []
theorem binsOk_no {L:List Int} {n k:Nat} (hk:k<n) (h:binOk L k=false):binsOk L n=false:=by
 unfold binsOk;rw[show(List.range n).all (binOk L)=false from ?_]
 ·rfl
 ·rw[List.all_eq_false];exact⟨k,by simpa using hk,by simp[h]⟩
theorem binsOk_yes {L:List Int} {n:Nat} (h:∀ k,k<n→binOk L k=true):binsOk L n=decide (n≤20000):=by
 unfold binsOk;rw[show(List.range n).all (binOk L)=true from ?_]
 ·rfl
 ·rw[List.all_eq_true];intro k hk;exact h k (by simpa using hk)
theorem binsOk_at {L:List Int} {n:Nat} (h:binsOk L n=true):n≤20000∧∀ k,k<n→binOk L k=true:=by
 unfold binsOk at h;rw[Bool.and_eq_true,List.all_eq_true]at h;exact⟨by simpa using h.2,fun k hk=>h.1 k (by simpa using hk)⟩
theorem bin_cells {w:World} {H n c:Nat} {a:Option Addr} {L:List Int} (h:w.ownsRow H 93 2 (.slice a n c) n (L.map (Value.int .i64))) {k:Nat} (hk:k<n) :
 ∃ g,a=some ⟨g,0,none⟩∧w.cell? ⟨g,k*2,none⟩=some (.int .i64 (L.getD (k*2) 0))∧w.cell? ⟨g,k*2+1,none⟩=some (.int .i64 (L.getD (k*2+1) 0)):=by
 have hl:L.length=n*2:=by simpa using h.1
 rcases id h.2 with⟨hv,h0⟩|⟨g,cap,cur,hv,-⟩
 ·omega
 ·simp only[Value.slice.injEq]at hv;obtain⟨rfl,-,rfl⟩:=hv;have h1:=h.cells (g:=g) rfl (k*2) (.int .i64 (L.getD (k*2) 0)) (by simp[List.getElem?_eq_getElem (show k*2<L.length by omega)]);have h2:=h.cells (g:=g) rfl (k*2+1) (.int .i64 (L.getD (k*2+1) 0)) (by simp[List.getElem?_eq_getElem (show k*2+1<L.length by omega)]);refine⟨g,rfl,?_,?_⟩
  ·by_cases h0:k*2=0 <;> simpa [Addr.add,h0] using h1
  ·simpa [Addr.add] using h2
theorem Ac.inv_mono {c:Ac} {s t:Nat} (h:c.inv s) (hst:t≤s):c.inv t:=⟨h.1,by have:=h.2.1;omega,by have:=h.2.2;omega⟩
theorem pairs_succ (L:List Int) (k:Nat):encC (pairs L (k+1))=(encC (pairs L k)).put ((L.getD (k*2) 0).toNat,(L.getD (k*2+1) 0).toNat):=by
 unfold pairs encC;rw[List.range_succ,List.map_append,List.foldl_append];rfl
theorem pairs_ok {L:List Int} {n:Nat} (h:∀ k,k<n→binOk L k=true):∀ b∈pairs L n,b.1<40:=by
 intro b hb;obtain⟨k,hk,rfl⟩:=List.mem_map.1 hb;have:=h k (by simpa using hk);simp only[binOk,decide_eq_true_eq]at this;show(L.getD (k*2) 0).toNat<40;omega
theorem pairs_len (L:List Int) (n:Nat):(pairs L n).length=n:=by simp[pairs]
/-- Shifted k times. -/
def Ac.sh : Nat→Ac→Ac
 | 0,c=>c
 | k+1,c=>(Ac.sh k c).shift
theorem Ac.sh_inv {c:Ac} {s:Nat} (h:c.inv s) (hs:0<s):∀ k,(Ac.sh k c).inv 1∧(Ac.sh k c).out.length=c.out.length+k
 | 0=>⟨Ac.inv_mono h hs,rfl⟩
 | k+1=>by
  obtain⟨h1,h2⟩:=Ac.sh_inv h hs k;refine⟨Ac.inv_mono (Ac.shift_inv h1 (by omega) (by omega)) (by omega),?_⟩;show((Ac.sh k c).car ++ [_]).length=_;rw[List.length_append,Ac.car_len,h2];rfl
theorem encS_len (L:List Int) (n:Nat):(encS L n).length≤60004:=by
 unfold encS
 split
 ·rename_i h
  obtain⟨h1,h2⟩:=binsOk_at h;have h3:=encC_ok (pairs L n) (pairs_ok h2);have h4:=(Ac.sh_inv h3.1.1 (by have:=h3.1.2.1;omega) 4).2;have h5:=h3.2;rw[pairs_len]at h5;show(Ac.sh 4 (encC (pairs L n))).out.length≤_;omega
 ·simp
theorem encS_byt (L:List Int) (n:Nat):bytL (encS L n):=by
 unfold encS
 split
 ·rename_i h
  obtain⟨h1,h2⟩:=binsOk_at h;have h3:=encC_ok (pairs L n) (pairs_ok h2);exact(Ac.sh_inv h3.1.1 (by have:=h3.1.2.1;omega) 4).1.1
 ·intro x hx;cases hx
theorem spec_BinsValid_any (a:Option Addr) (n c H:Nat) (L:List Int) (w:World) (h:w.ownsRow H 93 2 (.slice a n c) n (L.map (Value.int .i64))) (hn:n≤2^40) :
 Calls Tryd.prog 61 #[.slice a n c] w fun e w'=>e= .returned (.bool (binsOk L n))∧w=w':=by
 go_enter Tryd.func61,Tryd.ntmps61
 go_wp2_with fail
 go_loopw [3] (fun i wr=>∃ k,k≤n∧i= .int .i64 (k:Nat)∧wr=w∧∀ j,j<k→binOk L j=true) (fun i _=>n-(intOf i).toNat)
 case atStart=>exact⟨0,by omega,rfl,rfl,fun j hj=>by omega⟩
 case round =>
  obtain⟨k,hk,rfl,rfl,hall⟩:=hrel;have Hall:=Lib.hid hall;clear hall
  by_cases hlt:k<n
  ·obtain⟨g,rfl,k0,k1⟩:=bin_cells h hlt;obtain⟨A,hA⟩:∃ A,A=L.getD (k*2) 0:=⟨_,rfl⟩;obtain⟨B,hB⟩:∃ B,B=L.getD (k*2+1) 0:=⟨_,rfl⟩;have hbo:binOk L k=decide ((0≤A∧A≤39)∧0≤B∧B≤1):=by rw[hA,hB];rfl
   rw[←hA]at k0;rw[←hB]at k1;have Hbo:=Lib.hid hbo;clear hbo hA hB
   by_cases h1:0≤A∧A≤39
   ·by_cases h2:0≤B∧B≤1
    ·go_wp2_with fail
     refine(l1In_yes _ _ _ _ (by omega) (by omega)).mono ?_
     rintro e w' ⟨rfl,rfl⟩
     go_wp2_with fail
     refine(l1In_yes _ _ _ _ (by omega) (by omega)).mono ?_
     rintro e w' ⟨rfl,rfl⟩
     go_wp2;go_roundw
     case rel =>
      refine⟨k+1,by omega,by go_num,by first|rfl|trivial,fun j hj => ?_⟩
      by_cases e:j=k
      ·rw[e,Hbo.out];simp;omega
      ·exact Hall.out j (by omega)
     case measure=>simp[intOf];omega
    ·have hno:=Lib.hid (binsOk_no hlt (by rw[Hbo.out];simp;omega));go_wp2_with fail
     refine(l1In_yes _ _ _ _ (by omega) (by omega)).mono ?_
     rintro e w' ⟨rfl,rfl⟩
     go_wp2_with fail
     refine(l1In_no _ _ _ _ (by omega)).mono ?_
     rintro e w' ⟨rfl,rfl⟩
     go_wp2;go_ret
     exact⟨by rw[hno.out];rfl,rfl⟩
   ·have hno:=Lib.hid (binsOk_no hlt (by rw[Hbo.out];simp;omega));go_wp2_with fail
    refine(l1In_no _ _ _ _ (by omega)).mono ?_
    rintro e w' ⟨rfl,rfl⟩
    go_wp2;go_ret
    exact⟨by rw[hno.out];rfl,rfl⟩
  ·obtain rfl:k=n:=by omega
   have Hy:=Lib.hid (binsOk_yes Hall.out)
   by_cases h20:k≤20000
   ·have hd:decide ((k:Int)≤20000)=true:=by simp;omega
    go_wp2;go_ret
    exact⟨by rw[Hy.out,decide_eq_true h20];rfl,rfl⟩
   ·have hd:decide ((k:Int)≤20000)=false:=by simp;omega
    go_wp2;go_ret
    exact⟨by rw[Hy.out,decide_eq_false h20];rfl,rfl⟩
theorem spec_EncodeBins_any (a:Option Addr) (n c H0:Nat) (L:List Int) (w:World) (h:w.ownsRow H0 93 2 (.slice a n c) n (L.map (Value.int .i64))) (hn:n≤2^40) :
 Calls Tryd.prog 54 #[.slice a n c] w fun e w'=>∃ a' c',e= .returned (.slice a' (encS L n).length c')∧w'.ownsRow w.heap.size 5 1 (.slice a' (encS L n).length c') (encS L n).length (u8s (encS L n))∧Ext w w':=by
 by_cases hb:binsOk L n=true
 ·have hs:encS L n=(Ac.sh 4 (encC (pairs L n))).out:=by unfold encS;rw[if_pos hb];rfl
  rw[hs];have Hat:=Lib.hid (binsOk_at hb);have hn2:=Hat.out.1;have Hb:=Lib.hid hb;have Hh:=Lib.hid h;clear hb hs;go_enter Tryd.func54,Tryd.ntmps54
  go_wp2_with fail
  refine(spec_BinsValid_any a n c H0 L _ Hh.out (by omega)).mono ?_
  rintro e w' ⟨rfl,rfl⟩
  rw[Hb.out];go_wp2_with fail
  refine(spec_l9Chances_any _).mono ?_
  rintro e w1 ⟨vch,rfl,och,E1⟩
  obtain⟨ach,cch,rfl⟩:=owns_form och;go_wp2_with fail
  have hO:w.heap.size≤w1.heap.size:=E1.size;have hC0:CM (w1.alloc (.cells #[.int .i64 0,.int .i64 4294967295,.slice none 0 0,.slice ach 40 cch] 100)) w.heap.size w1.heap.size Ac.init (.slice none 0 0) (.slice ach 40 cch) :=
   ⟨blk_new w1 _,World.ownsRow_nil _ _ _ _,by have:=owns_ext och (Ext.alloc w1 (.cells #[.int .i64 0,.int .i64 4294967295,.slice none 0 0,.slice ach 40 cch] 100));simpa [ch64,Ac.init] using this,hO,by simp;omega⟩
  have E2:=E1.trans (Ext.alloc w1 (.cells #[.int .i64 0,.int .i64 4294967295,.slice none 0 0,.slice ach 40 cch] 100));clear och E1;generalize w1.alloc (.cells #[.int .i64 0,.int .i64 4294967295,.slice none 0 0,.slice ach 40 cch] 100)=w2 at *;obtain⟨O,hOe⟩:∃ O,O=w1.heap.size:=⟨_,rfl⟩;rw[←hOe]at hC0 hO⊢;clear hOe;go_loopw [4] (fun i wr=>∃(k:Nat) (vo:Value),k≤n∧i= .int .i64 (k:Nat)∧Ext w wr∧CM wr w.heap.size O (encC (pairs L k)) vo (.slice ach 40 cch)) (fun i _=>n-(intOf i).toNat)
  case atStart=>exact⟨0,_,by omega,rfl,E2,hC0⟩
  case round =>
   clear hC0 E2;obtain⟨k,vo,hk,rfl,E2,hC⟩:=hrel
   by_cases hlt:k<n
   ·have hr:=owns_ext Hh.out E2;obtain⟨g,rfl,k0,k1⟩:=bin_cells hr hlt;have hok:=(Hat.out.2 k hlt);simp only[binOk,decide_eq_true_eq]at hok;obtain⟨X,hX⟩:=Int.eq_ofNat_of_zero_le hok.1.1;obtain⟨B,hB⟩:=Int.eq_ofNat_of_zero_le hok.2.1;have hps:=pairs_succ L k;rw[hX,hB]at hok hps;rw[hX]at k0;rw[hB]at k1;have hgd:=encC_ok (pairs L k) (pairs_ok (fun j hj=>Hat.out.2 j (by omega)));rw[pairs_len]at hgd;have hput:=spec_put_any wr w.heap.size O X B _ vo _ hC hgd.1 (by omega) (by omega) (by omega);have Hput:=Lib.hid hput;have Hps:=Lib.hid hps;clear hput hgd hps hok hX hB hr hC;go_wp2_with fail
    refine Hput.out.mono ?_
    rintro e w4 ⟨rfl,⟨vo2,hC4⟩,hB4⟩
    have E4:=Below.trans E2 hB4;have HC4:=Lib.hid hC4;clear hC4 hB4 E2;go_wp2;go_roundw
    case rel =>
     refine⟨k+1,vo2,by omega,rfl,E4,?_⟩;rw[Hps.out];exact HC4.out
    case measure=>simp[intOf];omega
   ·obtain rfl:k=n:=by omega
    have hgd:=encC_ok (pairs L k) (pairs_ok Hat.out.2);rw[pairs_len]at hgd;have hsi:=fun j=>Ac.sh_inv hgd.1.1 (show 0<(encC (pairs L k)).span by have:=hgd.1.2.1;omega) j
    have hlen:(encC (pairs L k)).out.length≤60000:=by have:=hgd.2;omega
    obtain⟨cE,hcE⟩:∃ q,q=encC (pairs L k):=⟨_,rfl⟩;rw[←hcE]at hgd hlen hC;simp only[←hcE]at hsi;have HcE:=Lib.hid hcE;clear hcE;have Hsi:=Lib.hid hsi;clear hgd hsi Hat Hb Hh h;go_wp2_with fail
    go_loopw [5] (fun i wr=>∃(j:Nat) (vo:Value),j≤4∧i= .int .i64 (j:Nat)∧Ext w wr∧CM wr w.heap.size O (Ac.sh j cE) vo (.slice ach 40 cch)) (fun i _=>4-(intOf i).toNat)
    case atStart=>exact⟨0,_,by omega,rfl,E2,hC⟩
    case round =>
     clear hC E2;obtain⟨j,vo,hj,rfl,E2,hC⟩:=hrel
     by_cases hlt:j<4
     ·have hsh:=spec_shift_any _ w.heap.size O 1 _ vo _ hC (Hsi.out j).1 (by omega) (by have:=(Hsi.out j).2;omega);have Hsh:=Lib.hid hsh;clear hsh hC;go_wp2_with fail
      refine Hsh.out.mono ?_
      rintro e w4 ⟨rfl,⟨vo2,hC4⟩,hB4⟩
      have E4:=Below.trans E2 hB4;have HC4:=Lib.hid hC4;clear hC4 hB4 E2;go_wp2;go_roundw
      case rel=>exact⟨j+1,vo2,by omega,rfl,E4,HC4.out⟩
      case measure=>simp[intOf];omega
     ·obtain rfl:j=4:=by omega
      have hd:decide (((4:Nat):Int)<4)=false:=by simp
      have hl4:=(Hsi.out 4).2;obtain⟨c6,hc6⟩:∃ q,q=Ac.sh 4 cE:=⟨_,rfl⟩;rw[←hc6]at hC hl4;have Hc6:=Lib.hid hc6;obtain⟨bl,⟨k0,k1,k2,k3⟩,f0,f1,f2,f3⟩:=bx4 hC.bk;obtain⟨m6,hm6⟩:∃ q,q=c6.out.length:=⟨_,rfl⟩;have hro:=hC.ro;rw[←hm6]at hro;obtain⟨a5,c5,rfl⟩:=owns_form hro;have hm60:m6≤60004:=by omega
      have Hm6:=Lib.hid hm6;have Hsl:=Lib.hid (Sl.of_owns (owns_ext hro (Ext.alloc wr (.cells #[] 5))));have hE5:=E2.trans (Ext.alloc wr (.cells #[] 5));have o0:=World.ownsRow_made (base:=w.heap.size) (e:=5) (size:=1) wr #[] 0 E2.size (by simp) rfl;have k2':=cell_ext (Ext.alloc wr (.cells #[] 5)) k2;have hs5:=hE5.size;clear hC hro hl4 hm6 hc6 k0 k1 k3 f0 f1 f2 f3 E2;go_wp2_with (at_builtin;refine wpList_apps _ o0 hs5 rfl _ _ 30 rfl (.int .u8 0) 1 Tryd.underlying30 info_uint8 rfl rfl a5 m6 c5 _ rfl Hsl.out (by intro u hu;unfold u8s at hu;obtain⟨z,-,rfl⟩:=List.mem_map.1 hu;rfl) (by omega) (by omega) ?_;intro v8 w8 own8 gr8;refine Hid.out ?_)
      rw[Nat.zero_add,List.nil_append]at own8;obtain⟨a8,c8,rfl⟩:=owns_form own8;have E8:Ext w w8:=Ext.grown hE5 gr8 (owns_ge o0);clear o0 gr8 hE5 Hsl k2 k2';refine Lib.hid ?_;go_wp2;go_ret
      rw[←HcE.out,←Hc6.out,←Hm6.out];exact⟨a8,c8,rfl,own8,E8⟩
 ·have hs:encS L n = []:=by unfold encS;rw[if_neg hb]
  rw[hs];have Hb:=Lib.hid (show binsOk L n=false by simpa using hb);clear hb hs;go_enter Tryd.func54,Tryd.ntmps54
  go_wp2_with fail
  refine(spec_BinsValid_any a n c H0 L _ h hn).mono ?_
  rintro e w' ⟨rfl,rfl⟩
  rw[Hb.out];have o0:=World.ownsRow_made (base:=w.heap.size) (e:=5) (size:=1) w #[] 0 (Nat.le_refl _) (by simp) rfl;have E0:=Ext.alloc w (.cells #[] 5);go_wp2;go_ret
  exact⟨_,_,rfl,o0,E0⟩
theorem info_Bin : (Tryd.prog.info? 93).map (fun i=>(i.zero,i.size,i.bytes))=some (some (.agg #[.int .i64 0,.int .i64 0]),2,16):=by kernel_rfl
theorem bin_new (w:World) (c b:Int):Sl (w.alloc (.cells #[.int .i64 c,.int .i64 b] 93)) (some ⟨w.heap.size,0,none⟩) 2 [.int .i64 c,.int .i64 b]:=Sl_new w [.int .i64 c,.int .i64 b] 93
theorem ownc {w:World} {b e s n:Nat} {v:Value} {xs ys:List Value} (h:w.ownsRow b e s v n xs) (he:xs=ys):w.ownsRow b e s v n ys:=he▸h
theorem upL_one {b k:Nat} {i:Nat} (h:i<k):upL b k (i+1)=upL b k i ++ [(b:Int)+min (i:Int) 5,1]:=by
 rw[upL,if_neg (by omega)];congr 2;omega
theorem upL_zero (b k:Nat):upL b k (k+1)=upL b k k ++ [(b:Int)+min (k:Int) 5,0]:=by
 rw[upL,if_pos rfl];congr 2;omega
theorem pow_le15 {i:Nat} (h:i≤15):2^(i+1)≤65536:=Nat.pow_le_pow_right (by decide) (show i+1≤16 by omega)
theorem l10Number_any (n b:Nat) (w:World) (hn:n<32768) (hb:b≤100) :
 Calls Tryd.prog 58 #[.int .i64 n,.int .i64 b] w fun e w'=>∃ a c,e= .returned (.slice a (numN n) c)∧w'.ownsRow w.heap.size 93 2 (.slice a (numN n) c) (numN n) ((numL n b).map (Value.int .i64))∧Ext w w':=by
 obtain⟨k,hk⟩:∃ k,k=kOf n:=⟨_,rfl⟩;have hk15:=kOf_le hn;have hlo:=kOf_lo n;have hhi:=kOf_hi n;rw[←hk]at hk15 hlo hhi;have HK:=Lib.hid (show numL n b=upL b k (k+1)++dnL (n+1) b k k by rw[hk];rfl);have HKN:=Lib.hid (show numN n=2*k+1 by rw[hk];rfl);have HLO:=Lib.hid hlo;have HHI:=Lib.hid hhi;obtain⟨W,hW⟩:∃ W,W=w.heap.size:=⟨_,rfl⟩;have F0:FR w.heap.size 93 w (w.alloc (.cells #[] 93)):=FR.of_ext (Ext.alloc w _) (Nat.le_refl _);have o0:=World.ownsRow_made (base:=w.heap.size) (e:=93) (size:=2) w #[] 0 (Nat.le_refl _) (by simp) rfl;rw[←hW]at F0 o0⊢;have hWw:W≤w.heap.size:=by omega
 have HW:=Lib.hid hW;clear hk hlo hhi;go_enter Tryd.func58,Tryd.ntmps58
 go_wp2_with fail
 rw[←hW];clear hW;go_loopw [5,6] (fun v y wr=>∃ i:Nat,i≤k∧y= .int .i64 i∧wr.ownsRow W 93 2 v i ((upL b k i).map (Value.int .i64))∧FR W 93 w wr) (fun _ y _=>k-(intOf y).toNat)
 case atStart=>exact⟨0,by omega,rfl,by simpa [upL] using o0,F0⟩
 case round =>
  obtain⟨i,hi,rfl,o1,F1⟩:=hrel;clear o0 F0;obtain⟨a1,c1,rfl⟩:=owns_form o1;have hB1:=Nat.le_trans hWw F1.size;have hp:=pow_le15 (show i≤15 by omega);have hpi:(2:Int)^(i+1)=((2^(i+1):Nat):Int):=by simp
  have hp0:=Nat.pow_pos (show 0<2 by decide) (n:=i+1);have hsh:wrap64 (2*2^i)=(2:Int)^(i+1):=by
   have e:(2:Int)*2^i=2^(i+1):=by rw[Int.pow_succ,Int.mul_comm]
   rw[e,hpi];unfold wrap64;omega
  have HPI:=Lib.hid hpi;clear hpi
  by_cases hlt:i<k
  ·have hd:decide ((2:Int)^(i+1)≤(n:Int)+1)=true:=by
    have:=Nat.pow_le_pow_right (show 0<2 by decide) (show i+1≤k by omega);have:=HLO.out;rw[HPI.out];simp only[decide_eq_true_eq];omega
   have HNX:=Lib.hid (upL_one (b:=b) hlt);go_wp2_with (at_builtin;go_loud (refine wpList_appk _ rfl (o1.alloc _) (by simp;omega) _ _ 78 rfl (.agg #[.int .i64 0,.int .i64 0]) 16 Tryd.underlying78 info_Bin rfl (by decide) rfl ⟨wr.heap.size,0,none⟩ 1 1 [.int .i64 _,.int .i64 _] rfl rfl ((bin_new wr _ _).cellsOf _ (by simp)) (by intro u hu;simp at hu;rcases hu with rfl|rfl <;> rfl) (by omega) (by omega) ?_;intro v2 w2 own2 gr2 _;refine Hid.out ?_))
   refine Lib.hid ?_;obtain⟨a2,c2,rfl⟩:=owns_form own2;have F2:=(F1.trans (FR.of_ext (Ext.alloc wr (.cells #[_,_] 93)) hB1)).trans (FR.of_row (o1.alloc _) gr2 (by simp;omega));have own3:=ownc own2 (show _=(upL b k (i+1)).map (Value.int .i64) by rw[HNX.out];simp);clear own2 hsh;go_wp2;go_roundw
   case rel=>exact⟨i+1,by omega,by go_num,own3,F2⟩
   case measure=>simp[intOf] <;> omega
  ·have HI:=Lib.hid (show i=k by omega);have hd:decide ((2:Int)^(i+1)≤(n:Int)+1)=false:=by
    have:=HHI.out;rw[HPI.out,HI.out];simp only[decide_eq_false_iff_not];omega
   go_wp2_with (at_builtin;go_loud (refine wpList_appk _ rfl (o1.alloc _) (by simp;omega) _ _ 78 rfl (.agg #[.int .i64 0,.int .i64 0]) 16 Tryd.underlying78 info_Bin rfl (by decide) rfl ⟨wr.heap.size,0,none⟩ 1 1 [.int .i64 _,.int .i64 _] rfl rfl ((bin_new wr _ _).cellsOf _ (by simp)) (by intro u hu;simp at hu;rcases hu with rfl|rfl <;> rfl) (by omega) (by omega) ?_;intro v2 w2 own2 gr2 _;refine Hid.out ?_))
   refine Lib.hid ?_;obtain⟨a2,c2,rfl⟩:=owns_form own2;have F2:=(F1.trans (FR.of_ext (Ext.alloc wr (.cells #[_,_] 93)) hB1)).trans (FR.of_row (o1.alloc _) gr2 (by simp;omega));have own3:=ownc own2 (show _=(upL b k (k+1)).map (Value.int .i64) by rw[upL_zero,HI.out];simp);clear own2 hsh hd o1 F1 hlt hi;go_wp2_with fail
   go_loopw [5,7] (fun v y wr=>∃ J:Nat,J≤k∧y= .int .i64 ((J:Int)-1)∧wr.ownsRow W 93 2 v (k+1+(k-J)) ((upL b k (k+1)++dnL (n+1) b k (k-J)).map (Value.int .i64))∧FR W 93 w wr) (fun _ y _=>((intOf y)+1).toNat)
   case atStart=>exact⟨k,by omega,by rw[HI.out];congr 1;unfold wrap64;omega,by have hI:=HI.out;subst hI;simpa [dnL] using own3,F2⟩
   case round =>
    obtain⟨J,hJ,rfl,o3,F3⟩:=hrel;clear own3 F2;obtain⟨a3,c3,rfl⟩:=owns_form o3;have hB3:=Nat.le_trans hWw F3.size;cases J with
    | zero =>
     have hd3:decide ((0:Int)≤((0:Nat):Int)-1)=false:=by simp
     have hc:k+1+(k-0)=numN n:=by rw[HKN.out];omega
     have ho:=Lib.hid (show(upL b k (k+1)++dnL (n+1) b k (k-0))=numL n b by rw[HK.out];rfl);rw[hc]at o3⊢;rw[ho.out]at o3;clear hc;go_wp2;go_ret
     exact⟨_,_,rfl,o3,by show Below w.heap.size w wr;rw[←HW.out];exact F3.lo⟩
    | succ J' =>
     rw[show(((J'+1:Nat):Int)-1)=(J':Int) by omega];have hd3:decide ((0:Int)≤(J':Int))=true:=by simp
     have hq:((n:Int)+1)/2^J'=(((n+1)/2^J':Nat):Int):=by simp
     have hkJ:k-(J'+1)+1=k-J':=by omega
     have HNX:=Lib.hid (show dnL (n+1) b k (k-J')=dnL (n+1) b k (k-(J'+1)) ++ [(b:Int)+6,((n:Int)+1)/2^J'%2] by rw[←hkJ,dnL,show k-1-(k-(J'+1))=J' by omega];congr 2);have HC:=Lib.hid (show k+1+(k-(J'+1))+1=k+1+(k-J') by omega);have HTM:=Lib.hid (show(((n:Int)+1)/2^J').tmod 2=((n:Int)+1)/2^J'%2 from Int.tmod_eq_emod_of_nonneg (hq▸Int.natCast_nonneg _));clear hkJ hq;go_wp2_with (at_builtin;go_loud (refine wpList_appk _ rfl (o3.alloc _) (by simp;omega) _ _ 78 rfl (.agg #[.int .i64 0,.int .i64 0]) 16 Tryd.underlying78 info_Bin rfl (by decide) rfl ⟨wr.heap.size,0,none⟩ 1 1 [.int .i64 _,.int .i64 _] rfl rfl ((bin_new wr _ _).cellsOf _ (by simp)) (by intro u hu;simp at hu;rcases hu with rfl|rfl <;> rfl) (by omega) (by omega) ?_;intro v2 w2 own2 gr2 _;refine Hid.out ?_))
     refine Lib.hid ?_;obtain⟨a2,c2,rfl⟩:=owns_form own2;have F2:=(F3.trans (FR.of_ext (Ext.alloc wr (.cells #[_,_] 93)) hB3)).trans (FR.of_row (o3.alloc _) gr2 (by simp;omega));rw[HC.out]at own2⊢;have own3:=ownc own2 (show _=(upL b k (k+1)++dnL (n+1) b k (k-J')).map (Value.int .i64) by rw[HNX.out];simp;exact HTM.out);clear own2;go_wp2;go_roundw
     case rel=>exact⟨J',by omega,by go_num,own3,F2⟩
     case measure=>simp[intOf] <;> omega
end Go.Proofs.YtmokncpppmchfaaDoor
