/- Drawing coded pictures: l20Coded. | Drawing lists of coded pictures: l20Stream, DrawDropLayers. | string(bytes). | A new picture of one value; the law's 'alive'. | Coded pictures compared by the laws. | FnDropLayers: the walk of the law. -/
import Derived.Test.YtmokncpppmchfaaDoorQs6
import Derived.Deep.Cut
import Derived.Laws.BytesArg
set_option linter.unusedVariables false
set_option linter.unusedSimpArgs false
set_option maxRecDepth 100000
set_option maxHeartbeats 4000000
namespace Go.Proofs.YtmokncpppmchfaaDoor
open Go.RowKit
theorem RdP.grE {w w':World} {b P:Nat} {row:Option Nat} (h:RdP w b P) (g:w.grownBy w' row) (hr:∀ k,row=some k→b<k):RdP w' b P:=by
 obtain⟨q,hq1,hq2⟩:=h;exact⟨q,hq1,hq2.gr g hr⟩
theorem RdP.blk {w:World} {b P:Nat} (h:RdP w b P):∃ arr,w.heap[b]?=some (.cells arr 68 (0,0)):=by
 obtain⟨q,hq1,a,m,c,zs,h1,-⟩:=h;exact⟨_,h1⟩
theorem CRw.rd {w w':World} {lo k b P:Nat} {v:Value} {f:Nat→List Int} {cs:List Value} (h:CRw w lo v k f cs) (r:RdP w b P) (g:w.grownBy w' (some b)):CRw w' lo v k f cs:=by
 obtain⟨arr,hb⟩:=r.blk;exact h.gr g hb (by decide) (by decide)
theorem SQ.rd {w w':World} {a:Option Addr} {n b P:Nat} {f:Nat→List Int} (h:SQ w a n f) (r:RdP w b P) (g:w.grownBy w' (some b)):SQ w' a n f:=by
 obtain⟨arr,hb⟩:=r.blk;exact h.gr g hb (by decide) (by decide)
/-- What l20Coded answers. -/
def CdR (w:World) (b P:Nat) (e:Ending) (w':World):Prop :=
 ∃(x:Cd) (a:Option Addr) (c:Nat),e= .returned (.agg #[.int .i64 x.w,.int .i64 x.h,.bool x.i,.int .i64 x.q,.slice a x.n c])∧x.n≤3∧okF x.f x.n∧SQ w' a x.n x.f∧(x.n≤c∧c≤maxLen)∧RdP w' b P∧w.grownBy w' (some b)
theorem CdR.mk {w w1:World} {b P X m c:Nat} {x1 x2 x4:Int} {x3:Bool} {a:Option Addr} {f:Nat→List Int} (hn:m≤3) (hf:okF f m) (s:SQ w1 a m f) (hc:m≤c∧c≤maxLen) (r:RdP w1 b P) (g:w.grownBy w1 (some b)) (hX:X=w.heap.size) (hb:b<w.heap.size)
 (p:w1.heap[X]?=some (.cells #[.int .i64 0,.int .i64 0,.bool false,.int .i64 0,.slice none 0 0] 38 (0,0))) :
 CdR w b P (.returned (.agg #[.int .i64 x1,.int .i64 x2,.bool x3,.int .i64 x4,.slice a m c])) (((((w1.setCell ⟨X,0,none⟩ (.int .i64 x1)).setCell ⟨X,1,none⟩ (.int .i64 x2)).setCell ⟨X,2,none⟩ (.bool x3)).setCell ⟨X,3,none⟩ (.int .i64 x4)).setCell ⟨X,4,none⟩ (.slice a m c)):=by
 have G:=gs5 w1 X 0 1 2 3 4 (.int .i64 x1) (.int .i64 x2) (.bool x3) (.int .i64 x4) (.slice a m c);exact⟨⟨x1,x2,x3,x4,m,f⟩,a,c,rfl,hn,hf,s.gr G p (by decide) (by decide),hc,r.grE G (fun k hk=>by cases hk;omega),grown_any g G (fun k hk=>by cases hk;omega)⟩
theorem l20Coded_c (b P W H:Nat) (W8 H8:Int) (intra:Bool) (n:Int) (w:World) (h:RdP w b P) (hp:P<2^35) (hW:1≤W∧W≤3) (hH:1≤H∧H≤3) (hW8:W8=8*(W:Int)) (hH8:H8=8*(H:Int)) (hn0:0≤n) (hn:n≤1000000) :
 Calls Tryd.prog 46 #[.pointer (some ⟨b,0,none⟩),.int .i64 W8,.int .i64 H8,.bool intra,.int .i64 n] w (CdR w b (P+8000)):=by
 have hbw:b<w.heap.size:=h.lt;have hqW:W8/8=(W:Int):=by omega
 have hqH:H8/8=(H:Int):=by omega
 clear hW8 hH8;obtain⟨X,hX⟩:∃ X,X=w.heap.size:=⟨_,rfl⟩;have p0:=blk_new w (.cells #[.int .i64 0,.int .i64 0,.bool false,.int .i64 0,.slice none 0 0] 38);have E0:=Ext.alloc w (.cells #[.int .i64 0,.int .i64 0,.bool false,.int .i64 0,.slice none 0 0] 38);rw[←hX]at p0;go_enter Tryd.func46,Tryd.ntmps46
 go_wp2_with fail
 refine(l20Q_c b _ 0 _ (h.ext E0) (by omega) (by omega) (by omega)).mono ?_
 rintro e w1 ⟨q,rfl,qa,qb,r1,g1⟩
 have p1:=gr_blk g1 p0 (by omega);have G1:=grown_trans (ext_gr E0) g1;have s1:=G1.size;have hs1:X<w1.heap.size:=lt_of_block p1;clear p0 E0 g1;obtain⟨C,hC⟩:∃ C,C=w1.heap.size:=⟨_,rfl⟩;have c2:=blk_new w1 (.cells #[.int .i64 W8,.int .i64 H8,.bool intra,.int .i64 q,.slice none 0 0] 38);have E2:=Ext.alloc w1 (.cells #[.int .i64 W8,.int .i64 H8,.bool intra,.int .i64 q,.slice none 0 0] 38);have hs2:C+1≤(w1.alloc (.cells #[.int .i64 W8,.int .i64 H8,.bool intra,.int .i64 q,.slice none 0 0] 38)).heap.size:=by simp[hC]
 have x2:=E2.blk p1;have r2:=r1.ext E2;have g2:=grown_ext G1 E2;rw[←hC]at c2;have Hst:=Lib.hid (⟨c2,x2,r2,g2,hs2⟩:_∧_∧_∧_∧_);clear c2 x2 r2 g2 hs2 E2 p1 r1 G1;go_wp2_with fail
 rw[←hC,←hX];have hXC:X<C:=by omega
 have hbX:b<X:=by omega
 have hXw:w.heap.size≤X:=by omega
 have HX:=Lib.hid hX;clear hC hX;go_loopw [12] (fun ix wr=>∃(k:Nat) (f:Nat→List Int) (vl:Value) (cs:List Value),k≤H∧ix= .int .i64 (k:Nat)∧w.grownBy wr (some b)∧RdP wr b (P+4+k*1800)∧wr.heap[C]?=some (.cells #[.int .i64 W8,.int .i64 H8,.bool intra,.int .i64 q,vl] 38 (0,0))∧wr.heap[X]?=some (.cells #[.int .i64 0,.int .i64 0,.bool false,.int .i64 0,.slice none 0 0] 38 (0,0))∧CRw wr (C+1) vl k f cs∧okF f k∧C+1≤wr.heap.size) (fun ix _=>H-(intOf ix).toNat)
 case atStart =>
  obtain⟨c2,x2,r2,g2,hs2⟩:=Hst.out;exact⟨0,fun _ => [],_,[],by omega,rfl,g2,r2.mono (by omega),c2,x2,⟨World.ownsRow_nil _ _ _ _,fun i hi=>by omega⟩,fun i hi=>by omega,hs2⟩
 case round =>
  clear Hst;obtain⟨k,f,vl,cs,hk,rfl,g2,r2,c2,x2,S2,ok2,hs2⟩:=hrel;obtain⟨al,cl,rfl⟩:=owns_form S2.1;obtain⟨-,m0,m1,m2,m3,m4⟩:=bx5 c2
  by_cases hlt:k<H
  ·obtain⟨HI,hHI⟩:∃ HI,HI=wr.heap.size:=⟨_,rfl⟩;have hHI2:HI≤wr.heap.size:=by omega
   have hCHI:C+1≤HI:=by omega
   have hvl:∀ q,(Value.slice al k cl).ownBlock=some q→q<HI:=fun q hq=>by rw[hHI];exact(S2.1.lt q hq).2
   obtain⟨P0,hP0⟩:∃ P0,P0=P+4+k*1800:=⟨_,rfl⟩;obtain⟨P1,hP1⟩:∃ P1,P1=P+4+(k+1)*1800:=⟨_,rfl⟩;have hP01:P0+1800≤P1:=by omega
   have hP02:P0<2^36:=by omega
   rw[←hP0]at r2;have HP1:=Lib.hid hP1;have Hok2:=Lib.hid ok2;clear hHI hP0 hP1 ok2;go_upto_region 5 with fail
   try simp only[hqH,hqW]
   have hext:Stab (fun wa wb=>Ext wa wb) (fun i own ys wx=>match i with|0=>own= .pointer (some ⟨C,4,none⟩)|1=>own= .slice al k cl|2=>own= .pointer (some ⟨b,0,none⟩)|3=>own= .int .i64 W8|4=>own= .int .i64 (W:Int)|5=>own= .bool intra|6=>∃(a:Option Addr) (c:Nat) (L:List Int),own= .slice a W c∧wx.ownsRow HI 86 71 (.slice a W c) W (L.map (Value.int .i64))|7=>own= .bool intra|8=>∃(zs:List Int) (a:Option Addr) (c:Nat),own= .slice a zs.length c∧wx.ownsRow HI 5 1 (.slice a zs.length c) zs.length (zs.map (Value.int .u8))∧zs.length≤60004∧bytL zs|9=>∃(p:Nat) (zs:List Int) (a1:Option Addr) (c1:Nat),own= .slice (some ⟨p,0,none⟩) 1 1∧wx.ownsRow HI 30 1 (.slice (some ⟨p,0,none⟩) 1 1) 1 [.slice a1 zs.length c1]∧BA wx a1 c1 zs∧zs.length≤60004∧bytL zs|10=>∃(zs:List Int) (an:Option Addr) (cc:Nat) (cn:List Value),own= .slice an (k+1) cc∧CRw wx (C+1) (.slice an (k+1) cc) (k+1) (fx f k zs) cn∧zs.length≤60004∧bytL zs|11=>own= .pointer (some ⟨C,4,none⟩)|12=>∃(zs:List Int) (an:Option Addr) (cc:Nat) (cn:List Value),wx.heap[C]?=some (.cells #[.int .i64 W8,.int .i64 H8,.bool intra,.int .i64 q,.slice an (k+1) cc] 38 (0,0))∧CRw wx (C+1) (.slice an (k+1) cc) (k+1) (fx f k zs) cn∧zs.length≤60004∧bytL zs|_=>True):=by
    intro i own ys wa wb e h
    match i,h with
    | 0,h|1,h|2,h|3,h|4,h|5,h|7,h|11,h=>exact h
    | 6,h=>obtain⟨a9,c9,L9,h1,h2⟩:=h;exact⟨a9,c9,L9,h1,owns_ext h2 e⟩
    | 8,h=>obtain⟨x9,a9,c9,h1,h2,h3⟩:=h;exact⟨x9,a9,c9,h1,owns_ext h2 e,h3⟩
    | 9,h=>obtain⟨p9,x9,a9,c9,h1,h2,h3,h4⟩:=h;exact⟨p9,x9,a9,c9,h1,owns_ext h2 e,h3.ext e,h4⟩
    | 10,h=>obtain⟨x9,a9,d9,c9,h1,h2,h3⟩:=h;exact⟨x9,a9,d9,c9,h1,h2.ext e,h3⟩
    | 12,h=>obtain⟨x9,a9,d9,c9,h1,h2,h3⟩:=h;exact⟨x9,a9,d9,c9,e.blk h1,h2.ext e,h3⟩
    | _+13,_=>trivial
   have Hext:=Lib.hid hext;clear hext;refine wp_region_invL (by kernel_rfl) [(25,0),(26,1),(27,2),(28,3),(29,4),(30,5),(31,6),(32,7),(33,8),(34,9),(35,10),(36,11)] [[],[0],[],[],[3],[],[2,3,4,5],[],[2,3,4,5,6,7],[2,3,4,5,6,7,8],[0,1,2,3,4,5,6,7,8,9],[0,1,2,3,4,5,6,7,8,9,10],[0,1,2,3,4,5,6,7,8,9,10,11]] (fun i own ys wx=>match i with|0=>own= .pointer (some ⟨C,4,none⟩)|1=>own= .slice al k cl|2=>own= .pointer (some ⟨b,0,none⟩)|3=>own= .int .i64 W8|4=>own= .int .i64 (W:Int)|5=>own= .bool intra|6=>∃(a:Option Addr) (c:Nat) (L:List Int),own= .slice a W c∧wx.ownsRow HI 86 71 (.slice a W c) W (L.map (Value.int .i64))|7=>own= .bool intra|8=>∃(zs:List Int) (a:Option Addr) (c:Nat),own= .slice a zs.length c∧wx.ownsRow HI 5 1 (.slice a zs.length c) zs.length (zs.map (Value.int .u8))∧zs.length≤60004∧bytL zs|9=>∃(p:Nat) (zs:List Int) (a1:Option Addr) (c1:Nat),own= .slice (some ⟨p,0,none⟩) 1 1∧wx.ownsRow HI 30 1 (.slice (some ⟨p,0,none⟩) 1 1) 1 [.slice a1 zs.length c1]∧BA wx a1 c1 zs∧zs.length≤60004∧bytL zs|10=>∃(zs:List Int) (an:Option Addr) (cc:Nat) (cn:List Value),own= .slice an (k+1) cc∧CRw wx (C+1) (.slice an (k+1) cc) (k+1) (fx f k zs) cn∧zs.length≤60004∧bytL zs|11=>own= .pointer (some ⟨C,4,none⟩)|12=>∃(zs:List Int) (an:Option Addr) (cc:Nat) (cn:List Value),wx.heap[C]?=some (.cells #[.int .i64 W8,.int .i64 H8,.bool intra,.int .i64 q,.slice an (k+1) cc] 38 (0,0))∧CRw wx (C+1) (.slice an (k+1) cc) (k+1) (fx f k zs) cn∧zs.length≤60004∧bytL zs|_=>True) (fun Lx wx=>(w.grownBy wx (some b)∧HI≤wx.heap.size)∧(RdP wx b P1∧(Lx 6=false→RdP wx b P0))∧(∃ z,wx.heap[C]?=some (.cells #[.int .i64 W8,.int .i64 H8,.bool intra,.int .i64 q,z] 38 (0,0))∧(Lx 12=false→z= .slice al k cl))∧wx.heap[X]?=some (.cells #[.int .i64 0,.int .i64 0,.bool false,.int .i64 0,.slice none 0 0] 38 (0,0))∧CRw wx (C+1) (.slice al k cl) k f cs) (by kernel_rfl) (by kernel_rfl) (by kernel_rfl) ?g0_r1 ?gop_r1 ?gend_r1
   case g0_r1=>exact⟨⟨grown_drew g2,hHI2⟩,⟨(r2.mono (by omega)).drew,fun _=>r2.drew⟩,⟨_,c2,fun _=>rfl⟩,x2,S2.ext (Ext.drewN _ 1)⟩
   case gop_r1 =>
    refine⟨?_,?o1,?_,?_,?o4,?_,?o6,?_,?o8,?o9,?o10,?_,?o12,trivial⟩ <;> (intro Lx xs wx hG hl ha hb hD hI Qo Kx hK hQo;simp only[patchS,Nat.reduceAdd,Nat.reduceEqDiff,↓reduceIte]at hQo⊢)
    case o1 =>
     have l12:Lx 12=false:=hb 12 rfl;clear hl ha hb;rw[ddq (hD 0 rfl)]at hQo⊢;clear hD hI;obtain⟨z,g1,g2⟩:=hG.2.2.1;obtain rfl:=g2 l12;obtain⟨-,k0,k1,k2,k3,k4⟩:=bx5 g1;go_wp2;exact hK.out _ _ ⟨rfl,hG,kkp⟩
    case o4 =>
     clear hl ha hb;rw[ddq (hD 3 rfl)]at hQo⊢;clear hD hI;go_wp2;exact hK.out _ _ ⟨rfl,hG,kkp⟩
    case o6 =>
     have l6:Lx 6=false:=hl;clear hl ha hb;rw[ddq (hD 2 rfl),ddq (hD 4 rfl),ddq (hD 5 rfl)]at hQo⊢;clear hD hI;go_wp2_with fail
     refine(l20Macros_c b _ W intra _ (hG.2.1.2 l6) hP02 (by omega)).mono ?_
     rintro e wz ⟨az,cz,Lz,rfl,oz,rz,gz⟩
     go_wp2;have hst:∀(wy:World),True→Stbn 13 6 [[],[0],[],[],[3],[],[2,3,4,5],[],[2,3,4,5,6,7],[2,3,4,5,6,7,8],[0,1,2,3,4,5,6,7,8,9],[0,1,2,3,4,5,6,7,8,9,10],[0,1,2,3,4,5,6,7,8,9,10,11]] (fun i own ys wx=>match i with|0=>own= .pointer (some ⟨C,4,none⟩)|1=>own= .slice al k cl|2=>own= .pointer (some ⟨b,0,none⟩)|3=>own= .int .i64 W8|4=>own= .int .i64 (W:Int)|5=>own= .bool intra|6=>∃(a:Option Addr) (c:Nat) (L:List Int),own= .slice a W c∧wx.ownsRow HI 86 71 (.slice a W c) W (L.map (Value.int .i64))|7=>own= .bool intra|8=>∃(zs:List Int) (a:Option Addr) (c:Nat),own= .slice a zs.length c∧wx.ownsRow HI 5 1 (.slice a zs.length c) zs.length (zs.map (Value.int .u8))∧zs.length≤60004∧bytL zs|9=>∃(p:Nat) (zs:List Int) (a1:Option Addr) (c1:Nat),own= .slice (some ⟨p,0,none⟩) 1 1∧wx.ownsRow HI 30 1 (.slice (some ⟨p,0,none⟩) 1 1) 1 [.slice a1 zs.length c1]∧BA wx a1 c1 zs∧zs.length≤60004∧bytL zs|10=>∃(zs:List Int) (an:Option Addr) (cc:Nat) (cn:List Value),own= .slice an (k+1) cc∧CRw wx (C+1) (.slice an (k+1) cc) (k+1) (fx f k zs) cn∧zs.length≤60004∧bytL zs|11=>own= .pointer (some ⟨C,4,none⟩)|12=>∃(zs:List Int) (an:Option Addr) (cc:Nat) (cn:List Value),wx.heap[C]?=some (.cells #[.int .i64 W8,.int .i64 H8,.bool intra,.int .i64 q,.slice an (k+1) cc] 38 (0,0))∧CRw wx (C+1) (.slice an (k+1) cc) (k+1) (fx f k zs) cn∧zs.length≤60004∧bytL zs|_=>True) wx wy:=by
      intro wy hy ii hii hne hc own ys h
      match ii,h with
      | 0,h|1,h|2,h|3,h|4,h|5,h|7,h=>exact h
      | 6,h=>exact absurd rfl hne
      | 8,h|9,h|10,h|11,h|12,h=>exact absurd hc (by decide)
      | _+13,_=>trivial
     obtain⟨⟨g1,g2⟩,⟨g3,g4⟩,⟨z,g5,g6⟩,g7,g8⟩:=hG;exact hK.out _ _ ⟨⟨az,cz,Lz,rfl,owns_mono oz g2⟩,⟨⟨grown_trans g1 gz,Nat.le_trans g2 gz.size⟩,⟨rz.mono (by omega),fun x=>Bool.noConfusion x⟩,⟨z,gr_blk gz g5 (by omega),g6⟩,gr_blk gz g7 (by omega),g8.rd g3 gz⟩,hst _ trivial⟩
    case o8 =>
     clear hl ha hb;rw[ddq (hD 7 rfl)]at hQo⊢;have d6:∃(a:Option Addr) (c:Nat) (L:List Int),(xs 6) = .slice a W c∧wx.ownsRow HI 86 71 (.slice a W c) W (L.map (Value.int .i64)):=hD 6 rfl;clear hD hI;generalize xs 6=y6 at *;obtain⟨a6,c6,L6,rfl,o6⟩:=d6;go_wp2_with fail
     refine(spec_EncodeSlice_any a6 W c6 _ intra _ (MR.of_own o6) (by omega)).mono ?_
     rintro e wz ⟨az,cz,rfl,oz,ez⟩
     go_wp2;obtain⟨⟨g1,g2⟩,⟨g3,g4⟩,⟨z,g5,g6⟩,g7,g8⟩:=hG;exact hK.out _ _ ⟨⟨_,az,cz,rfl,owns_mono oz g2,slcL_len _ _ _,slcL_byt _ _ _⟩,⟨⟨grown_ext g1 ez,Nat.le_trans g2 ez.size⟩,⟨g3.ext ez,fun x=>(g4 x).ext ez⟩,⟨z,ez.blk g5,g6⟩,ez.blk g7,g8.ext ez⟩,fun i _ _ _ own ys h=>Hext.out i own ys _ _ ez h⟩
    case o9 =>
     clear hl ha hb;have d8:∃(zs:List Int) (a:Option Addr) (c:Nat),(xs 8) = .slice a zs.length c∧wx.ownsRow HI 5 1 (.slice a zs.length c) zs.length (zs.map (Value.int .u8))∧zs.length≤60004∧bytL zs:=hD 8 rfl;clear hD hI;generalize xs 8=y8 at *;obtain⟨x8,a8,c8,rfl,o8,l8,b8⟩:=d8;have e8:=Ext.alloc wx (.cells #[.slice a8 x8.length c8] 30);have o9:=World.ownsRow_lit (base:=HI) (e:=30) (size:=1) wx #[.slice a8 x8.length c8] 1 hG.1.2 (by unfold maxLen;omega) rfl;go_wp2;obtain⟨⟨g1,g2⟩,⟨g3,g4⟩,⟨z,g5,g6⟩,g7,g8⟩:=hG;exact hK.out _ _ ⟨⟨_,x8,a8,c8,rfl,o9,(BA.of_own o8).ext e8,l8,b8⟩,⟨⟨grown_ext g1 e8,Nat.le_trans g2 e8.size⟩,⟨g3.ext e8,fun x=>(g4 x).ext e8⟩,⟨z,e8.blk g5,g6⟩,e8.blk g7,g8.ext e8⟩,fun i _ _ _ own ys h=>Hext.out i own ys _ _ e8 h⟩
    case o10 =>
     clear hl ha hb;rw[ddq (hD 1 rfl)]at hQo⊢;have d9:∃(p:Nat) (zs:List Int) (a1:Option Addr) (c1:Nat),(xs 9) = .slice (some ⟨p,0,none⟩) 1 1∧wx.ownsRow HI 30 1 (.slice (some ⟨p,0,none⟩) 1 1) 1 [.slice a1 zs.length c1]∧BA wx a1 c1 zs∧zs.length≤60004∧bytL zs:=hD 9 rfl;clear hD hI;generalize xs 9=y9 at *;obtain⟨p9,x9,a9,c9,rfl,q9,d9,l9,b9⟩:=d9;have o9:=hG.2.2.2.2.1;refine wpList_appk _ rfl o9 (Nat.le_trans hCHI hG.1.2) _ _ _ rfl (.slice none 0 0) 24 Tryd.underlying36 info_ByteS rfl (by decide) rfl ⟨p9,0,none⟩ 1 1 _ rfl rfl (q9.cells rfl) (by intro u hu;simp at hu;subst hu;rfl) (by omega) (by omega) ?_;intro v14 w14 own14 gr14 keep14;obtain⟨a14,c14,rfl⟩:=owns_form own14;have hst:∀(wy:World),(∀ e' s' own n' zs',wx.ownsRow HI e' s' own n' zs'→wy.ownsRow HI e' s' own n' zs')∧(∀ a c zs,BA wx a c zs→BA wy a c zs)→Stbn 13 10 [[],[0],[],[],[3],[],[2,3,4,5],[],[2,3,4,5,6,7],[2,3,4,5,6,7,8],[0,1,2,3,4,5,6,7,8,9],[0,1,2,3,4,5,6,7,8,9,10],[0,1,2,3,4,5,6,7,8,9,10,11]] (fun i own ys wx=>match i with|0=>own= .pointer (some ⟨C,4,none⟩)|1=>own= .slice al k cl|2=>own= .pointer (some ⟨b,0,none⟩)|3=>own= .int .i64 W8|4=>own= .int .i64 (W:Int)|5=>own= .bool intra|6=>∃(a:Option Addr) (c:Nat) (L:List Int),own= .slice a W c∧wx.ownsRow HI 86 71 (.slice a W c) W (L.map (Value.int .i64))|7=>own= .bool intra|8=>∃(zs:List Int) (a:Option Addr) (c:Nat),own= .slice a zs.length c∧wx.ownsRow HI 5 1 (.slice a zs.length c) zs.length (zs.map (Value.int .u8))∧zs.length≤60004∧bytL zs|9=>∃(p:Nat) (zs:List Int) (a1:Option Addr) (c1:Nat),own= .slice (some ⟨p,0,none⟩) 1 1∧wx.ownsRow HI 30 1 (.slice (some ⟨p,0,none⟩) 1 1) 1 [.slice a1 zs.length c1]∧BA wx a1 c1 zs∧zs.length≤60004∧bytL zs|10=>∃(zs:List Int) (an:Option Addr) (cc:Nat) (cn:List Value),own= .slice an (k+1) cc∧CRw wx (C+1) (.slice an (k+1) cc) (k+1) (fx f k zs) cn∧zs.length≤60004∧bytL zs|11=>own= .pointer (some ⟨C,4,none⟩)|12=>∃(zs:List Int) (an:Option Addr) (cc:Nat) (cn:List Value),wx.heap[C]?=some (.cells #[.int .i64 W8,.int .i64 H8,.bool intra,.int .i64 q,.slice an (k+1) cc] 38 (0,0))∧CRw wx (C+1) (.slice an (k+1) cc) (k+1) (fx f k zs) cn∧zs.length≤60004∧bytL zs|_=>True) wx wy:=by
      intro wy hy ii hii hne hc own ys h
      match ii,h with
      | 0,h|1,h|2,h|3,h|4,h|5,h|7,h=>exact h
      | 6,h=>obtain⟨a9,c9,L9,h1,h2⟩:=h;exact⟨a9,c9,L9,h1,hy.1 _ _ _ _ _ h2⟩
      | 8,h=>obtain⟨x9,a9,c9,h1,h2,h3⟩:=h;exact⟨x9,a9,c9,h1,hy.1 _ _ _ _ _ h2,h3⟩
      | 9,h=>obtain⟨p9,x9,a9,c9,h1,h2,h3,h4⟩:=h;exact⟨p9,x9,a9,c9,h1,hy.1 _ _ _ _ _ h2,hy.2 _ _ _ h3,h4⟩
      | 10,h=>exact absurd rfl hne
      | 11,h|12,h=>exact absurd hc (by decide)
      | _+13,_=>trivial
     obtain⟨⟨g1,g2⟩,⟨g3,g4⟩,⟨z,g5,g6⟩,g7,g8⟩:=hG;have hge:=owns_ge o9;have hba:∀ a c zs,BA wx a c zs→BA w14 a c zs:=fun _ _ _ h=>h.own o9 (by decide) gr14
     have hcr:CRw w14 (C+1) (.slice al k cl) k f cs:=⟨keep14 _ _ _ _ (Nat.le_refl _) o9,fun i hi=>by obtain⟨a,c,h1,h2⟩:=g8.2 i hi;exact⟨a,c,h1,hba _ _ _ h2⟩⟩;have hr:∀ P,RdP wx b P→RdP w14 b P:=fun _ h=>h.grE gr14 (fun q hq=>by have:=hge q hq;omega)
     exact hQo _ _ (hK.out _ _ ⟨⟨x9,_,_,_,rfl,g8.app own14 gr14 d9,l9,b9⟩,⟨⟨grown_any g1 gr14 (fun q hq=>by have:=hge q hq;omega),Nat.le_trans g2 gr14.size⟩,⟨hr _ g3,fun x=>hr _ (g4 x)⟩,⟨z,blk_gr g5 gr14 (own_ne_blk' o9 g5 (by decide)),g6⟩,blk_gr g7 gr14 (own_ne_blk' o9 g7 (by decide)),hcr⟩,hst _ ⟨fun _ _ _ _ _ h=>own_hi h gr14 hvl,hba⟩⟩)
    case o12 =>
     clear hl ha hb;rw[ddq (hD 11 rfl)]at hQo⊢;have d10:∃(zs:List Int) (an:Option Addr) (cc:Nat) (cn:List Value),(xs 10) = .slice an (k+1) cc∧CRw wx (C+1) (.slice an (k+1) cc) (k+1) (fx f k zs) cn∧zs.length≤60004∧bytL zs:=hD 10 rfl;clear hD hI;generalize xs 10=y10 at *;obtain⟨x10,a10,d10,c10,rfl,s10,l10,b10⟩:=d10;obtain⟨⟨g1,g2⟩,⟨g3,g4⟩,⟨z,g5,g6⟩,g7,g8⟩:=hG;obtain⟨-,k0,k1,k2,k3,k4⟩:=bx5 g5;obtain⟨f0,f1,f2,f3,f4⟩:=fz5 g5;go_wp2;have hst:∀(wy:World),(∀ e' s' own n' zs',wx.ownsRow HI e' s' own n' zs'→wy.ownsRow HI e' s' own n' zs')∧(∀ a c zs,BA wx a c zs→BA wy a c zs)∧(∀ v n f cs,CRw wx (C+1) v n f cs→CRw wy (C+1) v n f cs)→Stbn 13 12 [[],[0],[],[],[3],[],[2,3,4,5],[],[2,3,4,5,6,7],[2,3,4,5,6,7,8],[0,1,2,3,4,5,6,7,8,9],[0,1,2,3,4,5,6,7,8,9,10],[0,1,2,3,4,5,6,7,8,9,10,11]] (fun i own ys wx=>match i with|0=>own= .pointer (some ⟨C,4,none⟩)|1=>own= .slice al k cl|2=>own= .pointer (some ⟨b,0,none⟩)|3=>own= .int .i64 W8|4=>own= .int .i64 (W:Int)|5=>own= .bool intra|6=>∃(a:Option Addr) (c:Nat) (L:List Int),own= .slice a W c∧wx.ownsRow HI 86 71 (.slice a W c) W (L.map (Value.int .i64))|7=>own= .bool intra|8=>∃(zs:List Int) (a:Option Addr) (c:Nat),own= .slice a zs.length c∧wx.ownsRow HI 5 1 (.slice a zs.length c) zs.length (zs.map (Value.int .u8))∧zs.length≤60004∧bytL zs|9=>∃(p:Nat) (zs:List Int) (a1:Option Addr) (c1:Nat),own= .slice (some ⟨p,0,none⟩) 1 1∧wx.ownsRow HI 30 1 (.slice (some ⟨p,0,none⟩) 1 1) 1 [.slice a1 zs.length c1]∧BA wx a1 c1 zs∧zs.length≤60004∧bytL zs|10=>∃(zs:List Int) (an:Option Addr) (cc:Nat) (cn:List Value),own= .slice an (k+1) cc∧CRw wx (C+1) (.slice an (k+1) cc) (k+1) (fx f k zs) cn∧zs.length≤60004∧bytL zs|11=>own= .pointer (some ⟨C,4,none⟩)|12=>∃(zs:List Int) (an:Option Addr) (cc:Nat) (cn:List Value),wx.heap[C]?=some (.cells #[.int .i64 W8,.int .i64 H8,.bool intra,.int .i64 q,.slice an (k+1) cc] 38 (0,0))∧CRw wx (C+1) (.slice an (k+1) cc) (k+1) (fx f k zs) cn∧zs.length≤60004∧bytL zs|_=>True) wx wy:=by
      intro wy hy ii hii hne hc own ys h
      match ii,h with
      | 0,h|1,h|2,h|3,h|4,h|5,h|7,h|11,h=>exact h
      | 6,h=>obtain⟨a9,c9,L9,h1,h2⟩:=h;exact⟨a9,c9,L9,h1,hy.1 _ _ _ _ _ h2⟩
      | 8,h=>obtain⟨x9,a9,c9,h1,h2,h3⟩:=h;exact⟨x9,a9,c9,h1,hy.1 _ _ _ _ _ h2,h3⟩
      | 9,h=>obtain⟨p9,x9,a9,c9,h1,h2,h3,h4⟩:=h;exact⟨p9,x9,a9,c9,h1,hy.1 _ _ _ _ _ h2,hy.2.1 _ _ _ h3,h4⟩
      | 10,h=>obtain⟨x9,a9,d9,c9,h1,h2,h3⟩:=h;exact⟨x9,a9,d9,c9,h1,hy.2.2 _ _ _ _ h2,h3⟩
      | 12,h=>exact absurd rfl hne
      | _+13,_=>trivial
     have hb:=heap_setCell_same wx C 4 _ _ (.slice a10 (k+1) d10) g5;have gB:=gs1 wx C 4 (.slice a10 (k+1) d10);have hcr:∀ v n f cs,CRw wx (C+1) v n f cs→CRw (wx.setCell ⟨C,4,none⟩ (.slice a10 (k+1) d10)) (C+1) v n f cs:=fun _ _ _ _ h=>h.gr gB g5 (by decide) (by decide)
     have hb2:(wx.setCell ⟨C,4,none⟩ (.slice a10 (k+1) d10)).heap[C]?=some (.cells #[.int .i64 W8,.int .i64 H8,.bool intra,.int .i64 q,.slice a10 (k+1) d10] 38 (0,0)):=by simpa using hb
     have hr:∀ P,RdP wx b P→RdP (wx.setCell ⟨C,4,none⟩ (.slice a10 (k+1) d10)) b P:=fun _ h=>h.grE gB (fun q hq=>by cases hq;omega)
     exact hQo undef _ (hK.out _ _ ⟨⟨x10,a10,d10,c10,hb2,hcr _ _ _ _ s10,l10,b10⟩,⟨⟨grown_any g1 gB (fun q hq=>by cases hq;omega),Nat.le_trans g2 gB.size⟩,⟨hr _ g3,fun x=>hr _ (g4 x)⟩,⟨_,hb2,fun h=>by cases h⟩,blk_gr g7 gB (by simp;omega),hcr _ _ _ _ g8⟩,hst _ ⟨fun _ _ _ _ _ h=>own_gr h gB (by omega),fun _ _ _ h=>h.gr gB g5 (by decide),hcr⟩⟩)
    all_goals
     clear hl ha hb hD hI;go_wp2;exact hK.out _ _ ⟨rfl,hG,kkp⟩
   clear Hext;intro xs wx hV hG0;obtain⟨Lx,hL,hG⟩:=hG0;have l6:Lx 6=true:=hL 6 (by decide);have l12:Lx 12=true:=hL 12 (by decide);clear hL;have d12:∃(zs:List Int) (an:Option Addr) (cc:Nat) (cn:List Value),wx.heap[C]?=some (.cells #[.int .i64 W8,.int .i64 H8,.bool intra,.int .i64 q,.slice an (k+1) cc] 38 (0,0))∧CRw wx (C+1) (.slice an (k+1) cc) (k+1) (fx f k zs) cn∧zs.length≤60004∧bytL zs:=hV 12 (by decide);clear hV;simp only[patchS,Nat.reduceAdd,Nat.reduceEqDiff,↓reduceIte];generalize xs 0=y0,xs 1=y1,xs 2=y2,xs 3=y3,xs 4=y4,xs 5=y5,xs 6=y6,xs 7=y7,xs 8=y8,xs 9=y9,xs 10=y10,xs 11=y11,xs 12=y12 at *
   replace hG:(w.grownBy wx (some b)∧HI≤wx.heap.size)∧(RdP wx b P1∧(Lx 6=false→RdP wx b P0))∧(∃ z,wx.heap[C]?=some (.cells #[.int .i64 W8,.int .i64 H8,.bool intra,.int .i64 q,z] 38 (0,0))∧(Lx 12=false→z= .slice al k cl))∧wx.heap[X]?=some (.cells #[.int .i64 0,.int .i64 0,.bool false,.int .i64 0,.slice none 0 0] 38 (0,0))∧CRw wx (C+1) (.slice al k cl) k f cs:=hG
   obtain⟨x12,a12,d12,c12,p12,s12,l12x,b12⟩:=d12;have HG:=Lib.hid hG;have HS:=Lib.hid s12;have HB:=Lib.hid p12;have HO:=Lib.hid (Hok2.out.fx l12x b12);clear hG s12 p12 S2 g2 r2 c2 x2 hvl;go_wp2;go_roundw
   case rel =>
    obtain⟨⟨g1,g2⟩,⟨g3,g4⟩,-,g7,g8⟩:=HG.out;exact⟨k+1,_,_,c12,by omega,by go_num,g1,by rw[←HP1.out];exact g3,HB.out,g7,HS.out,HO.out,by omega⟩
   case measure=>simp[intOf];omega
  ·obtain rfl:k=H:=by omega
   clear m0 m1 m2 m3 m4;have hP0:P+4+k*1800≤P+6000:=by omega
   have r3:=r2.mono hP0;clear r2 hP0;go_wp2_with fail
   refine(odd_any b _ n _ r3 (by omega) hn0 (by omega)).mono ?_
   rintro e w3 ⟨od,rfl,r4,g4⟩
   have c3:=gr_blk g4 c2 (by omega);have x3:=gr_blk g4 x2 (by omega);have S3:=S2.rd r3 g4;have G3:=grown_trans g2 g4;have hs3:=Nat.le_trans hs2 g4.size;clear r3 c2 x2 S2 g2 g4 hs2;cases od
   ·have HQ:=Lib.hid (S3.sq.1);have HR:=Lib.hid (r4);have HGr:=Lib.hid (G3);have HPx:=Lib.hid (x3);have HF:=Lib.hid (ok2);have HCc:=Lib.hid (S3.sq.2);obtain⟨-,k0,k1,k2,k3,k4⟩:=bx5 c3;obtain⟨-,j0,j1,j2,j3,j4⟩:=bx5 HPx.out;obtain⟨f0,f1,f2,f3,f4⟩:=fz5 HPx.out;clear x3 S3 r4 G3;go_wp2;exact bodyPost_ret (v := .agg #[.int .i64 W8,.int .i64 H8,.bool intra,.int .i64 q,.slice al k cl]) (results_cell_row rfl _ _ X 38 #[.int .i64 W8,.int .i64 H8,.bool intra,.int .i64 q,.slice al k cl] (0,0) _ rfl (blk_set5 HPx.out) Tryd.underlying38 rfl size_Coded) rfl (CdR.mk (P:=P+8000) (by omega) HF.out HQ.out HCc.out (HR.out.mono (by omega)) HGr.out HX.out (by omega) HPx.out)
   ·go_wp2_with fail
    refine(pick_c b _ 5 _ r4 (by omega) (by omega) (by omega)).mono ?_
    rintro e w4 ⟨y,rfl,ya,yb,r5,g5⟩
    have c4:=gr_blk g5 c3 (by omega);have x4:=gr_blk g5 x3 (by omega);have S4:=S3.rd r4 g5;have G4:=grown_trans G3 g5;have hs4:=Nat.le_trans hs3 g5.size;clear r4 c3 x3 S3 G3 g5 hs3;obtain rfl|rfl|rfl|rfl|rfl:y=0∨y=1∨y=2∨y=3∨y=4:=by omega
    ·have e5:=Ext.alloc w4 (.cells #[.int .i64 0,.int .i64 12,.int .i64 40] 3);have S5:=blk_new w4 (.cells #[.int .i64 0,.int .i64 12,.int .i64 40] 3);obtain⟨D,hD⟩:∃ D,D=w4.heap.size:=⟨_,rfl⟩;have hCD:C<D:=by omega
     rw[←hD]at S5;have HD:=Lib.hid hD;have c5:=e5.blk c4;have x5:=e5.blk x4;have T5:=S4.ext e5;have r6:=r5.ext e5;have G5:=grown_ext G4 e5;clear c4 x4 S4 r5 G4 e5 hD;go_wp2_with fail
     refine(pick_c b _ 3 _ r6 (by omega) (by omega) (by omega)).mono ?_
     rintro e w6 ⟨u,rfl,ua,ub,r7,g7⟩
     have S6:=gr_blk g7 S5 (by omega);have c6:=gr_blk g7 c5 (by omega);have x6:=gr_blk g7 x5 (by omega);have T6:=T5.rd r6 g7;have G6:=grown_trans G5 g7;try rw[←HD.out]
     clear S5 c5 x5 T5 r6 G5 g7;have hc:∀(i:Nat) (v:Value),(#[Value.int .i64 0,Value.int .i64 12,Value.int .i64 40])[i]?=some v→w6.cell? ⟨D,i,none⟩=some v:=fun i v hv=>by simp only[World.cell?,S6];exact hv
     have i0:=hc 0 _ rfl;have i1:=hc 1 _ rfl;have i2:=hc 2 _ rfl;clear hc S6;obtain⟨-,k0,k1,k2,k3,k4⟩:=bx5 c6;obtain⟨f0,f1,f2,f3,f4⟩:=fz5 c6;obtain rfl|rfl|rfl:u=0∨u=1∨u=2:=by omega
     ·have gB:=gs1 w6 C 0 (.int .i64 0);have hb:(w6.setCell ⟨C,0,none⟩ (.int .i64 0)).heap[C]?=some (.cells #[.int .i64 0,.int .i64 H8,.bool intra,.int .i64 q,.slice al k cl] 38 (0,0)):=by
       have h:=heap_setCell_same w6 C 0 _ _ (.int .i64 0) c6
       simpa using h
      have T7:=T6.gr gB c6 (by decide) (by decide);have x7:=blk_gr x6 gB (by simp;omega);have r8:=r7.grE gB (fun q hq=>by cases hq;omega);have G7:=grown_any G6 gB (fun q hq=>by cases hq;omega);have HS7:=Lib.hid (⟨hb,T7,x7,r8,G7⟩:_∧_∧_∧_∧_);clear hb T7 x7 r8 G7 gB T6 x6 r7 G6;go_upto_region 17 with fail
      obtain⟨hb,T7,x7,r8,G7⟩:=HS7.out;clear HS7 k0 k1 k2 k3 k4 f0 f1 f2 f3 f4 c6 i0 i1 i2;generalize World.setCell _ _ _=w7 at *;have HQ:=Lib.hid (T7.sq.1);have HR:=Lib.hid (r8);have HGr:=Lib.hid (G7);have HPx:=Lib.hid (x7);have HF:=Lib.hid (ok2);have HCc:=Lib.hid (T7.sq.2);obtain⟨-,k0,k1,k2,k3,k4⟩:=bx5 hb;obtain⟨-,j0,j1,j2,j3,j4⟩:=bx5 HPx.out;obtain⟨f0,f1,f2,f3,f4⟩:=fz5 HPx.out;clear x7 T7 r8 G7;go_wp2;exact bodyPost_ret (v := .agg #[.int .i64 0,.int .i64 H8,.bool intra,.int .i64 q,.slice al k cl]) (results_cell_row rfl _ _ X 38 #[.int .i64 0,.int .i64 H8,.bool intra,.int .i64 q,.slice al k cl] (0,0) _ rfl (blk_set5 HPx.out) Tryd.underlying38 rfl size_Coded) rfl (CdR.mk (P:=P+8000) (by omega) HF.out HQ.out HCc.out (HR.out.mono (by omega)) HGr.out HX.out (by omega) HPx.out)
     ·have gB:=gs1 w6 C 0 (.int .i64 12);have hb:(w6.setCell ⟨C,0,none⟩ (.int .i64 12)).heap[C]?=some (.cells #[.int .i64 12,.int .i64 H8,.bool intra,.int .i64 q,.slice al k cl] 38 (0,0)):=by
       have h:=heap_setCell_same w6 C 0 _ _ (.int .i64 12) c6
       simpa using h
      have T7:=T6.gr gB c6 (by decide) (by decide);have x7:=blk_gr x6 gB (by simp;omega);have r8:=r7.grE gB (fun q hq=>by cases hq;omega);have G7:=grown_any G6 gB (fun q hq=>by cases hq;omega);have HS7:=Lib.hid (⟨hb,T7,x7,r8,G7⟩:_∧_∧_∧_∧_);clear hb T7 x7 r8 G7 gB T6 x6 r7 G6;go_upto_region 17 with fail
      obtain⟨hb,T7,x7,r8,G7⟩:=HS7.out;clear HS7 k0 k1 k2 k3 k4 f0 f1 f2 f3 f4 c6 i0 i1 i2;generalize World.setCell _ _ _=w7 at *;have HQ:=Lib.hid (T7.sq.1);have HR:=Lib.hid (r8);have HGr:=Lib.hid (G7);have HPx:=Lib.hid (x7);have HF:=Lib.hid (ok2);have HCc:=Lib.hid (T7.sq.2);obtain⟨-,k0,k1,k2,k3,k4⟩:=bx5 hb;obtain⟨-,j0,j1,j2,j3,j4⟩:=bx5 HPx.out;obtain⟨f0,f1,f2,f3,f4⟩:=fz5 HPx.out;clear x7 T7 r8 G7;go_wp2;exact bodyPost_ret (v := .agg #[.int .i64 12,.int .i64 H8,.bool intra,.int .i64 q,.slice al k cl]) (results_cell_row rfl _ _ X 38 #[.int .i64 12,.int .i64 H8,.bool intra,.int .i64 q,.slice al k cl] (0,0) _ rfl (blk_set5 HPx.out) Tryd.underlying38 rfl size_Coded) rfl (CdR.mk (P:=P+8000) (by omega) HF.out HQ.out HCc.out (HR.out.mono (by omega)) HGr.out HX.out (by omega) HPx.out)
     ·have gB:=gs1 w6 C 0 (.int .i64 40);have hb:(w6.setCell ⟨C,0,none⟩ (.int .i64 40)).heap[C]?=some (.cells #[.int .i64 40,.int .i64 H8,.bool intra,.int .i64 q,.slice al k cl] 38 (0,0)):=by
       have h:=heap_setCell_same w6 C 0 _ _ (.int .i64 40) c6
       simpa using h
      have T7:=T6.gr gB c6 (by decide) (by decide);have x7:=blk_gr x6 gB (by simp;omega);have r8:=r7.grE gB (fun q hq=>by cases hq;omega);have G7:=grown_any G6 gB (fun q hq=>by cases hq;omega);have HS7:=Lib.hid (⟨hb,T7,x7,r8,G7⟩:_∧_∧_∧_∧_);clear hb T7 x7 r8 G7 gB T6 x6 r7 G6;go_upto_region 17 with fail
      obtain⟨hb,T7,x7,r8,G7⟩:=HS7.out;clear HS7 k0 k1 k2 k3 k4 f0 f1 f2 f3 f4 c6 i0 i1 i2;generalize World.setCell _ _ _=w7 at *;have HQ:=Lib.hid (T7.sq.1);have HR:=Lib.hid (r8);have HGr:=Lib.hid (G7);have HPx:=Lib.hid (x7);have HF:=Lib.hid (ok2);have HCc:=Lib.hid (T7.sq.2);obtain⟨-,k0,k1,k2,k3,k4⟩:=bx5 hb;obtain⟨-,j0,j1,j2,j3,j4⟩:=bx5 HPx.out;obtain⟨f0,f1,f2,f3,f4⟩:=fz5 HPx.out;clear x7 T7 r8 G7;go_wp2;exact bodyPost_ret (v := .agg #[.int .i64 40,.int .i64 H8,.bool intra,.int .i64 q,.slice al k cl]) (results_cell_row rfl _ _ X 38 #[.int .i64 40,.int .i64 H8,.bool intra,.int .i64 q,.slice al k cl] (0,0) _ rfl (blk_set5 HPx.out) Tryd.underlying38 rfl size_Coded) rfl (CdR.mk (P:=P+8000) (by omega) HF.out HQ.out HCc.out (HR.out.mono (by omega)) HGr.out HX.out (by omega) HPx.out)
    ·have e5:=Ext.alloc w4 (.cells #[.int .i64 (-1),.int .i64 16] 3);have S5:=blk_new w4 (.cells #[.int .i64 (-1),.int .i64 16] 3);obtain⟨D,hD⟩:∃ D,D=w4.heap.size:=⟨_,rfl⟩;have hCD:C<D:=by omega
     rw[←hD]at S5;have HD:=Lib.hid hD;have c5:=e5.blk c4;have x5:=e5.blk x4;have T5:=S4.ext e5;have r6:=r5.ext e5;have G5:=grown_ext G4 e5;clear c4 x4 S4 r5 G4 e5 hD;go_wp2_with fail
     refine(pick_c b _ 2 _ r6 (by omega) (by omega) (by omega)).mono ?_
     rintro e w6 ⟨u,rfl,ua,ub,r7,g7⟩
     have S6:=gr_blk g7 S5 (by omega);have c6:=gr_blk g7 c5 (by omega);have x6:=gr_blk g7 x5 (by omega);have T6:=T5.rd r6 g7;have G6:=grown_trans G5 g7;try rw[←HD.out]
     clear S5 c5 x5 T5 r6 G5 g7;have hc:∀(i:Nat) (v:Value),(#[Value.int .i64 (-1),Value.int .i64 16])[i]?=some v→w6.cell? ⟨D,i,none⟩=some v:=fun i v hv=>by simp only[World.cell?,S6];exact hv
     have i0:=hc 0 _ rfl;have i1:=hc 1 _ rfl;clear hc S6;obtain⟨-,k0,k1,k2,k3,k4⟩:=bx5 c6;obtain⟨f0,f1,f2,f3,f4⟩:=fz5 c6;obtain rfl|rfl:u=0∨u=1:=by omega
     ·have gB:=gs1 w6 C 3 (.int .i64 (-1));have hb:(w6.setCell ⟨C,3,none⟩ (.int .i64 (-1))).heap[C]?=some (.cells #[.int .i64 W8,.int .i64 H8,.bool intra,.int .i64 (-1),.slice al k cl] 38 (0,0)):=by
       have h:=heap_setCell_same w6 C 3 _ _ (.int .i64 (-1)) c6
       simpa using h
      have T7:=T6.gr gB c6 (by decide) (by decide);have x7:=blk_gr x6 gB (by simp;omega);have r8:=r7.grE gB (fun q hq=>by cases hq;omega);have G7:=grown_any G6 gB (fun q hq=>by cases hq;omega);have HS7:=Lib.hid (⟨hb,T7,x7,r8,G7⟩:_∧_∧_∧_∧_);clear hb T7 x7 r8 G7 gB T6 x6 r7 G6;go_upto_region 17 with fail
      obtain⟨hb,T7,x7,r8,G7⟩:=HS7.out;clear HS7 k0 k1 k2 k3 k4 f0 f1 f2 f3 f4 c6 i0 i1;generalize World.setCell _ _ _=w7 at *;have HQ:=Lib.hid (T7.sq.1);have HR:=Lib.hid (r8);have HGr:=Lib.hid (G7);have HPx:=Lib.hid (x7);have HF:=Lib.hid (ok2);have HCc:=Lib.hid (T7.sq.2);obtain⟨-,k0,k1,k2,k3,k4⟩:=bx5 hb;obtain⟨-,j0,j1,j2,j3,j4⟩:=bx5 HPx.out;obtain⟨f0,f1,f2,f3,f4⟩:=fz5 HPx.out;clear x7 T7 r8 G7;go_wp2;exact bodyPost_ret (v := .agg #[.int .i64 W8,.int .i64 H8,.bool intra,.int .i64 (-1),.slice al k cl]) (results_cell_row rfl _ _ X 38 #[.int .i64 W8,.int .i64 H8,.bool intra,.int .i64 (-1),.slice al k cl] (0,0) _ rfl (blk_set5 HPx.out) Tryd.underlying38 rfl size_Coded) rfl (CdR.mk (P:=P+8000) (by omega) HF.out HQ.out HCc.out (HR.out.mono (by omega)) HGr.out HX.out (by omega) HPx.out)
     ·have gB:=gs1 w6 C 3 (.int .i64 16);have hb:(w6.setCell ⟨C,3,none⟩ (.int .i64 16)).heap[C]?=some (.cells #[.int .i64 W8,.int .i64 H8,.bool intra,.int .i64 16,.slice al k cl] 38 (0,0)):=by
       have h:=heap_setCell_same w6 C 3 _ _ (.int .i64 16) c6
       simpa using h
      have T7:=T6.gr gB c6 (by decide) (by decide);have x7:=blk_gr x6 gB (by simp;omega);have r8:=r7.grE gB (fun q hq=>by cases hq;omega);have G7:=grown_any G6 gB (fun q hq=>by cases hq;omega);have HS7:=Lib.hid (⟨hb,T7,x7,r8,G7⟩:_∧_∧_∧_∧_);clear hb T7 x7 r8 G7 gB T6 x6 r7 G6;go_upto_region 17 with fail
      obtain⟨hb,T7,x7,r8,G7⟩:=HS7.out;clear HS7 k0 k1 k2 k3 k4 f0 f1 f2 f3 f4 c6 i0 i1;generalize World.setCell _ _ _=w7 at *;have HQ:=Lib.hid (T7.sq.1);have HR:=Lib.hid (r8);have HGr:=Lib.hid (G7);have HPx:=Lib.hid (x7);have HF:=Lib.hid (ok2);have HCc:=Lib.hid (T7.sq.2);obtain⟨-,k0,k1,k2,k3,k4⟩:=bx5 hb;obtain⟨-,j0,j1,j2,j3,j4⟩:=bx5 HPx.out;obtain⟨f0,f1,f2,f3,f4⟩:=fz5 HPx.out;clear x7 T7 r8 G7;go_wp2;exact bodyPost_ret (v := .agg #[.int .i64 W8,.int .i64 H8,.bool intra,.int .i64 16,.slice al k cl]) (results_cell_row rfl _ _ X 38 #[.int .i64 W8,.int .i64 H8,.bool intra,.int .i64 16,.slice al k cl] (0,0) _ rfl (blk_set5 HPx.out) Tryd.underlying38 rfl size_Coded) rfl (CdR.mk (P:=P+8000) (by omega) HF.out HQ.out HCc.out (HR.out.mono (by omega)) HGr.out HX.out (by omega) HPx.out)
    ·obtain⟨g,cap2,cur2,hv2,hgl,p1g,-⟩:∃ g cap cur,(Value.slice al k cl) = .slice (some ⟨g,0,none⟩) k cap∧C+1≤g∧w4.heap[g]?=some (.cells cur 30 (0,0))∧True:=by
      rcases S4.1.2 with⟨hv,h0⟩|⟨g,cap,cur,hv,q1,q2,-⟩
      ·omega
      ·exact⟨g,cap,cur,hv,q1,q2,trivial⟩
     simp only[Value.slice.injEq]at hv2;obtain⟨rfl,-,-⟩:=hv2;clear p1g;obtain⟨HI,hHI⟩:∃ HI,HI=w4.heap.size:=⟨_,rfl⟩;have hHI2:HI≤w4.heap.size:=by omega
     obtain⟨P0,hP0⟩:∃ P0,P0=P+6000+1+1:=⟨_,rfl⟩;rw[←hP0]at r5;have hP02:P0<2^36:=by omega
     have HP0:=Lib.hid hP0;have hk1:1≤k:=by omega
     clear hHI hP0;obtain⟨-,k0,k1,k2,k3,k4⟩:=bx5 c4;go_upto_region 14 with fail
     clear k0 k1 k2 k3 k4;refine wp_region_invL (by kernel_rfl) [(64,0),(65,1),(66,2),(67,3),(68,4)] [[],[0],[],[2],[0,1,2,3],[0,1,2,3,4]] (fun i own ys wx=>match i with|0=>own= .pointer (some ⟨C,4,none⟩)|1=>own= .slice (some ⟨g,0,none⟩) k cl|2=>own= .pointer (some ⟨b,0,none⟩)|3=>∃(zs:List Int) (a:Option Addr) (c:Nat),own= .slice a zs.length c∧BA wx a c zs∧zs.length≤60004∧bytL zs|4=>own= .pointer (some ⟨g,0,none⟩)|5=>∃(zs:List Int) (cs':List Value),CRw wx (C+1) (.slice (some ⟨g,0,none⟩) k cl) k (fun i=>if i=0 then zs else f i) cs'∧zs.length≤60004∧bytL zs|_=>True) (fun Lx wx=>(w.grownBy wx (some b)∧HI≤wx.heap.size)∧(RdP wx b (P0+400)∧(Lx 3=false→RdP wx b P0))∧wx.heap[C]?=some (.cells #[.int .i64 W8,.int .i64 H8,.bool intra,.int .i64 q,.slice (some ⟨g,0,none⟩) k cl] 38 (0,0))∧wx.heap[X]?=some (.cells #[.int .i64 0,.int .i64 0,.bool false,.int .i64 0,.slice none 0 0] 38 (0,0))∧(Lx 5=false→CRw wx (C+1) (.slice (some ⟨g,0,none⟩) k cl) k f cs)) (by kernel_rfl) (by kernel_rfl) (by kernel_rfl) ?g0_r2 ?gop_r2 ?gend_r2
     case g0_r2=>exact⟨⟨grown_drew G4,hHI2⟩,⟨(r5.mono (by omega)).drew,fun _=>r5.drew⟩,c4,x4,fun _=>S4.ext (Ext.drewN _ 1)⟩
     case gop_r2 =>
      refine⟨?_,?o1,?_,?o3,?o4,?o5,trivial⟩ <;> (intro Lx xs wx hG hl ha hb hD hI Qo Kx hK hQo;simp only[patchS,Nat.reduceAdd,Nat.reduceEqDiff,↓reduceIte]at hQo⊢)
      case o1 =>
       clear hl ha hb;rw[ddq (hD 0 rfl)]at hQo⊢;clear hD hI;obtain⟨-,k0,k1,k2,k3,k4⟩:=bx5 hG.2.2.1;go_wp2;exact hK.out _ _ ⟨rfl,hG,kkp⟩
      case o3 =>
       have l3:Lx 3=false:=hl;clear hl ha hb;rw[ddq (hD 2 rfl)]at hQo⊢;clear hD hI;go_wp2_with fail
       refine(l20Bytes_c b _ 9 _ (hG.2.1.2 l3) (by omega) (by omega)).mono ?_
       rintro e wz ⟨vz,zz,rfl,oz,nz,bz,rz,gz⟩
       obtain⟨az,cz,rfl⟩:=owns_form oz;go_wp2;have hst:∀(wy:World),True→Stbn 6 3 [[],[0],[],[2],[0,1,2,3],[0,1,2,3,4]] (fun i own ys wx=>match i with|0=>own= .pointer (some ⟨C,4,none⟩)|1=>own= .slice (some ⟨g,0,none⟩) k cl|2=>own= .pointer (some ⟨b,0,none⟩)|3=>∃(zs:List Int) (a:Option Addr) (c:Nat),own= .slice a zs.length c∧BA wx a c zs∧zs.length≤60004∧bytL zs|4=>own= .pointer (some ⟨g,0,none⟩)|5=>∃(zs:List Int) (cs':List Value),CRw wx (C+1) (.slice (some ⟨g,0,none⟩) k cl) k (fun i=>if i=0 then zs else f i) cs'∧zs.length≤60004∧bytL zs|_=>True) wx wy:=by
        intro wy hy ii hii hne hc own ys h
        match ii,h with
        | 0,h|1,h|2,h=>exact h
        | 3,h=>exact absurd rfl hne
        | 4,h|5,h=>exact absurd hc (by decide)
        | _+6,_=>trivial
       obtain⟨⟨g1,g2⟩,⟨g3,g4⟩,g5,g7,g8⟩:=hG;exact hK.out _ _ ⟨⟨zz,az,cz,rfl,BA.of_own oz,by omega,fun x hx=>bz x hx⟩,⟨⟨grown_trans g1 gz,Nat.le_trans g2 gz.size⟩,⟨rz,fun x=>Bool.noConfusion x⟩,gr_blk gz g5 (by omega),gr_blk gz g7 (by omega),fun x=>(g8 x).rd g3 gz⟩,hst _ trivial⟩
      case o4 =>
       clear hl ha hb;rw[ddq (hD 1 rfl)]at hQo⊢;clear hD hI;go_wp2;exact hK.out _ _ ⟨rfl,hG,kkp⟩
      case o5 =>
       have l5:Lx 5=false:=hl;clear hl ha hb;rw[ddq (hD 4 rfl)]at hQo⊢;have d3:∃(zs:List Int) (a:Option Addr) (c:Nat),(xs 3) = .slice a zs.length c∧BA wx a c zs∧zs.length≤60004∧bytL zs:=hD 3 rfl;clear hD hI;generalize xs 3=y3 at *;obtain⟨z3,a3,c3,rfl,d3,n3,t3⟩:=d3;obtain⟨⟨g1,g2⟩,⟨g3,g4⟩,g5,g7,g8⟩:=hG;have hcr:=g8 l5;obtain⟨a0,c0,h0,-⟩:=hcr.2 0 (by omega);have k0:wx.cell? ⟨g,0,none⟩=some (.slice a0 (f 0).length c0):=by
        have:=hcr.1.cells (g:=g) rfl 0 _ h0
        simpa [Addr.add] using this
       have f0:=hcr.1.frozenAt 0;go_wp2;have hst:∀(wy:World),(∀ a c xs,BA wx a c xs→BA wy a c xs)→Stbn 6 5 [[],[0],[],[2],[0,1,2,3],[0,1,2,3,4]] (fun i own ys wx=>match i with|0=>own= .pointer (some ⟨C,4,none⟩)|1=>own= .slice (some ⟨g,0,none⟩) k cl|2=>own= .pointer (some ⟨b,0,none⟩)|3=>∃(zs:List Int) (a:Option Addr) (c:Nat),own= .slice a zs.length c∧BA wx a c zs∧zs.length≤60004∧bytL zs|4=>own= .pointer (some ⟨g,0,none⟩)|5=>∃(zs:List Int) (cs':List Value),CRw wx (C+1) (.slice (some ⟨g,0,none⟩) k cl) k (fun i=>if i=0 then zs else f i) cs'∧zs.length≤60004∧bytL zs|_=>True) wx wy:=by
        intro wy hy ii hii hne hc own ys h
        match ii,h with
        | 0,h|1,h|2,h|4,h=>exact h
        | 3,h=>obtain⟨z9,a9,c9,h1,h2,h3⟩:=h;exact⟨z9,a9,c9,h1,hy _ _ _ h2,h3⟩
        | 5,h=>exact absurd rfl hne
        | _+6,_=>trivial
       obtain⟨cur,p1⟩:∃ cur,wx.heap[g]?=some (.cells cur 30 (0,0)):=by
        rcases hcr.1.2 with⟨hv,h0⟩|⟨g9,cap,cur,hv,q1,q2,-⟩
        ·omega
        ·cases hv;exact⟨cur,q2⟩
       have gB:=gs1 wx g 0 (.slice a3 z3.length c3);have hba:∀ a c xs,BA wx a c xs→BA (wx.setCell ⟨g,0,none⟩ (.slice a3 z3.length c3)) a c xs:=fun _ _ _ h=>h.gr gB p1 (by decide)
       have hnew:CRw (wx.setCell ⟨g,0,none⟩ (.slice a3 z3.length c3)) (C+1) (.slice (some ⟨g,0,none⟩) k cl) k (fun i=>if i=0 then z3 else f i) (cs.set 0 (.slice a3 z3.length c3)):=⟨(hcr.1.stored 0 _).1,fun i hi=>by
        by_cases e:i=0
        ·subst e;exact⟨a3,c3,by simp only[if_pos];rw[List.getElem?_set_self (by have:=hcr.1.1;omega)],by simp only[if_pos];exact hba _ _ _ d3⟩
        ·obtain⟨a,c,h1,h2⟩:=hcr.2 i hi;exact⟨a,c,by simp only[if_neg e];rw[List.getElem?_set_ne (by omega)];exact h1,by simp only[if_neg e];exact hba _ _ _ h2⟩⟩
       have hr:∀ P,RdP wx b P→RdP (wx.setCell ⟨g,0,none⟩ (.slice a3 z3.length c3)) b P:=fun _ h=>h.grE gB (fun q hq=>by cases hq;omega)
       exact hQo undef _ (hK.out _ _ ⟨⟨z3,_,hnew,n3,t3⟩,⟨⟨grown_any g1 gB (fun q hq=>by cases hq;omega),Nat.le_trans g2 gB.size⟩,⟨hr _ g3,fun x=>hr _ (g4 x)⟩,blk_gr g5 gB (by simp;omega),blk_gr g7 gB (by simp;omega),fun x=>Bool.noConfusion x⟩,hst _ hba⟩)
      all_goals
       clear hl ha hb hD hI;go_wp2;exact hK.out _ _ ⟨rfl,hG,kkp⟩
     intro xs wx hV hG0;obtain⟨Lx,hL,hG⟩:=hG0;have l3:Lx 3=true:=hL 3 (by decide);have l5:Lx 5=true:=hL 5 (by decide);clear hL;have d5:∃(zs:List Int) (cs':List Value),CRw wx (C+1) (.slice (some ⟨g,0,none⟩) k cl) k (fun i=>if i=0 then zs else f i) cs'∧zs.length≤60004∧bytL zs:=hV 5 (by decide);clear hV;simp only[patchS,Nat.reduceAdd,Nat.reduceEqDiff,↓reduceIte];generalize xs 0=y0,xs 1=y1,xs 2=y2,xs 3=y3,xs 4=y4,xs 5=y5 at *
     replace hG:(w.grownBy wx (some b)∧HI≤wx.heap.size)∧(RdP wx b (P0+400)∧(Lx 3=false→RdP wx b P0))∧wx.heap[C]?=some (.cells #[.int .i64 W8,.int .i64 H8,.bool intra,.int .i64 q,.slice (some ⟨g,0,none⟩) k cl] 38 (0,0))∧wx.heap[X]?=some (.cells #[.int .i64 0,.int .i64 0,.bool false,.int .i64 0,.slice none 0 0] 38 (0,0))∧(Lx 5=false→CRw wx (C+1) (.slice (some ⟨g,0,none⟩) k cl) k f cs):=hG
     obtain⟨z5,u5,S5,n5,t5⟩:=d5;obtain⟨⟨g1,-⟩,⟨g3,-⟩,g5,g7,-⟩:=hG;rw[HP0.out]at g3;have ok5:okF (fun i=>if i=0 then z5 else f i) k:=fun i hi=>by
      by_cases e:i=0
      ·simp only[if_pos e];exact⟨n5,t5⟩
      ·simp only[if_neg e];exact ok2 i hi
     have HQ:=Lib.hid (S5.sq.1);have HR:=Lib.hid (g3);have HGr:=Lib.hid (g1);have HPx:=Lib.hid (g7);have HF:=Lib.hid (ok5);have HCc:=Lib.hid (S5.sq.2);obtain⟨-,k0,k1,k2,k3,k4⟩:=bx5 g5;obtain⟨-,j0,j1,j2,j3,j4⟩:=bx5 HPx.out;obtain⟨f0,f1,f2,f3,f4⟩:=fz5 HPx.out;clear g7 S5 g3 g1;go_wp2;exact bodyPost_ret (v := .agg #[.int .i64 W8,.int .i64 H8,.bool intra,.int .i64 q,.slice (some ⟨g,0,none⟩) k cl]) (results_cell_row rfl _ _ X 38 #[.int .i64 W8,.int .i64 H8,.bool intra,.int .i64 q,.slice (some ⟨g,0,none⟩) k cl] (0,0) _ rfl (blk_set5 HPx.out) Tryd.underlying38 rfl size_Coded) rfl (CdR.mk (P:=P+8000) (by omega) HF.out HQ.out HCc.out (HR.out.mono (by omega)) HGr.out HX.out (by omega) HPx.out)
    ·obtain⟨m,rfl⟩:∃ m,k=m+1:=⟨k-1,by omega⟩;obtain⟨g,cap2,cur2,hv2,-⟩:∃ g cap cur,(Value.slice al (m+1) cl) = .slice (some ⟨g,0,none⟩) (m+1) cap∧w4.heap[g]?=some (.cells cur 30 (0,0)):=by
      rcases S4.1.2 with⟨hv,h0⟩|⟨g,cap,cur,hv,q1,q2,-⟩
      ·omega
      ·exact⟨g,cap,cur,hv,q2⟩
     simp only[Value.slice.injEq]at hv2;obtain⟨rfl,-,-⟩:=hv2;have hcp:=owns_cap S4.1;obtain⟨cm,rfl⟩:∃ cm,cl=cm+1:=⟨cl-1,by omega⟩;have T0:SQ w4 (if cm=0 then(some ⟨g,0,none⟩:Option Addr)else some ⟨g,1,none⟩) m (fun i=>f (i+1)):=by
      split
      ·intro i hi;omega
      ·exact SQ.tail S4.sq.1
     obtain⟨A,hA⟩:∃ A,A=(if cm=0 then(some ⟨g,0,none⟩:Option Addr)else some ⟨g,1,none⟩):=⟨_,rfl⟩;rw[←hA]at T0;have HA:=Lib.hid hA;clear hA;have gB:=gs1 w4 C 4 (.slice A m cm);have hb:(w4.setCell ⟨C,4,none⟩ (.slice A m cm)).heap[C]?=some (.cells #[.int .i64 W8,.int .i64 H8,.bool intra,.int .i64 q,.slice A m cm] 38 (0,0)):=by
      have h:=heap_setCell_same w4 C 4 _ _ (.slice A m cm) c4
      simpa using h
     have T7:=T0.gr gB c4 (by decide) (by decide);have x7:=blk_gr x4 gB (by simp;omega);have r8:=r5.grE gB (fun q hq=>by cases hq;omega);have G7:=grown_any G4 gB (fun q hq=>by cases hq;omega);have ok5:okF (fun i=>f (i+1)) m:=fun i hi=>ok2 (i+1) (by omega)
     have HS7:=Lib.hid (⟨hb,T7,x7,r8,G7⟩:_∧_∧_∧_∧_);have Hcp:=Lib.hid hcp;have hcm:m≤cm:=by omega
     obtain⟨-,k0,k1,k2,k3,k4⟩:=bx5 c4;obtain⟨f0,f1,f2,f3,f4⟩:=fz5 c4;clear hb T7 x7 r8 G7 gB S4 x4 r5 G4 hcp T0;go_upto_region 17 with fail
     rw[←HA.out];obtain⟨hb,T7,x7,r8,G7⟩:=HS7.out;clear HS7 k0 k1 k2 k3 k4 f0 f1 f2 f3 f4 c4;have hcp:=Hcp.out;generalize World.setCell _ _ _=w7 at *;have HQ:=Lib.hid (T7);have HR:=Lib.hid (r8);have HGr:=Lib.hid (G7);have HPx:=Lib.hid (x7);have HF:=Lib.hid (ok5);have HCc:=Lib.hid ((show m≤cm∧cm≤maxLen from ⟨by omega,by omega⟩));obtain⟨-,k0,k1,k2,k3,k4⟩:=bx5 hb;obtain⟨-,j0,j1,j2,j3,j4⟩:=bx5 HPx.out;obtain⟨f0,f1,f2,f3,f4⟩:=fz5 HPx.out;clear x7 T7 r8 G7 hcp;go_wp2;exact bodyPost_ret (v := .agg #[.int .i64 W8,.int .i64 H8,.bool intra,.int .i64 q,.slice A m cm]) (results_cell_row rfl _ _ X 38 #[.int .i64 W8,.int .i64 H8,.bool intra,.int .i64 q,.slice A m cm] (0,0) _ rfl (blk_set5 HPx.out) Tryd.underlying38 rfl size_Coded) rfl (CdR.mk (P:=P+8000) (by omega) HF.out HQ.out HCc.out (HR.out.mono (by omega)) HGr.out HX.out (by omega) HPx.out)
    ·have gB:=gs1 w4 C 2 (.bool (!intra));have hb:(w4.setCell ⟨C,2,none⟩ (.bool (!intra))).heap[C]?=some (.cells #[.int .i64 W8,.int .i64 H8,.bool (!intra),.int .i64 q,.slice al k cl] 38 (0,0)):=by
      have h:=heap_setCell_same w4 C 2 _ _ (.bool (!intra)) c4
      simpa using h
     have T7:=S4.gr gB c4 (by decide) (by decide);have x7:=blk_gr x4 gB (by simp;omega);have r8:=r5.grE gB (fun q hq=>by cases hq;omega);have G7:=grown_any G4 gB (fun q hq=>by cases hq;omega);have HS7:=Lib.hid (⟨hb,T7,x7,r8,G7⟩:_∧_∧_∧_∧_);obtain⟨-,k0,k1,k2,k3,k4⟩:=bx5 c4;obtain⟨f0,f1,f2,f3,f4⟩:=fz5 c4;clear hb T7 x7 r8 G7 gB S4 x4 r5 G4;go_upto_region 17 with fail
     obtain⟨hb,T7,x7,r8,G7⟩:=HS7.out;clear HS7 k0 k1 k2 k3 k4 f0 f1 f2 f3 f4 c4;generalize World.setCell _ _ _=w7 at *;have HQ:=Lib.hid (T7.sq.1);have HR:=Lib.hid (r8);have HGr:=Lib.hid (G7);have HPx:=Lib.hid (x7);have HF:=Lib.hid (ok2);have HCc:=Lib.hid (T7.sq.2);obtain⟨-,k0,k1,k2,k3,k4⟩:=bx5 hb;obtain⟨-,j0,j1,j2,j3,j4⟩:=bx5 HPx.out;obtain⟨f0,f1,f2,f3,f4⟩:=fz5 HPx.out;clear x7 T7 r8 G7;go_wp2;exact bodyPost_ret (v := .agg #[.int .i64 W8,.int .i64 H8,.bool (!intra),.int .i64 q,.slice al k cl]) (results_cell_row rfl _ _ X 38 #[.int .i64 W8,.int .i64 H8,.bool (!intra),.int .i64 q,.slice al k cl] (0,0) _ rfl (blk_set5 HPx.out) Tryd.underlying38 rfl size_Coded) rfl (CdR.mk (P:=P+8000) (by omega) HF.out HQ.out HCc.out (HR.out.mono (by omega)) HGr.out HX.out (by omega) HPx.out)
/-- A list of k coded pictures of the call's own, which reads as x. -/
def CQ (w:World) (H:Nat) (v:Value) (k:Nat) (x:Nat→Cd) (cs:List Value):Prop :=
 w.ownsRow H 38 5 v k cs∧∀ i,i<k→(∃ a c,RC cs (i*5) (x i) a c∧SQ w a (x i).n (x i).f∧(x i).n≤c∧c≤maxLen)∧(x i).n≤3∧okF (x i).f (x i).n
theorem CQ.rd {w w':World} {H k b P:Nat} {v:Value} {x:Nat→Cd} {cs:List Value} (h:CQ w H v k x cs) (r:RdP w b P) (g:w.grownBy w' (some b)) (hb:b<H):CQ w' H v k x cs:=⟨own_gr h.1 g hb,fun i hi=>by
 obtain⟨⟨a,c,h1,h2,h3⟩,h4⟩:=h.2 i hi;exact⟨⟨a,c,h1,h2.rd r g,h3⟩,h4⟩⟩
def fc (x:Nat→Cd) (k:Nat) (y:Cd) (i:Nat):Cd:=if i<k then x i else y
theorem fc_lt {x:Nat→Cd} {k i:Nat} {y:Cd} (h:i<k):fc x k y i=x i:=if_pos h
theorem fc_eq {x:Nat→Cd} {k:Nat} {y:Cd} : fc x k y k=y:=if_neg (Nat.lt_irrefl k)
theorem CQ.app {w w':World} {H k c1:Nat} {v v':Value} {x:Nat→Cd} {cs:List Value} {y:Cd} {a1:Option Addr} (h:CQ w H v k x cs) (o:w'.ownsRow H 38 5 v' (k+1) (cs ++ [.int .i64 y.w,.int .i64 y.h,.bool y.i,.int .i64 y.q,.slice a1 y.n c1])) (g:w.grownBy w' v.ownBlock)
 (hs:SQ w a1 y.n y.f) (hc:y.n≤c1∧c1≤maxLen) (hn:y.n≤3) (hf:okF y.f y.n):CQ w' H v' (k+1) (fc x k y) (cs ++ [.int .i64 y.w,.int .i64 y.h,.bool y.i,.int .i64 y.q,.slice a1 y.n c1]):=by
 have hl:cs.length=k*5:=h.1.1;refine⟨o,fun i hi => ?_⟩
 by_cases e:i=k
 ·subst e;rw[fc_eq];refine⟨⟨a1,c1,⟨?_,?_,?_,?_,?_⟩,hs.own h.1 (by decide) (by decide) g,hc⟩,hn,hf⟩ <;> (rw[←hl,List.getElem?_append_right (by omega)];simp)
 ·rw[fc_lt (by omega)];obtain⟨⟨a,c,⟨k1,k2,k3,k4,k5⟩,h2,h3⟩,h4⟩:=h.2 i (by omega);refine⟨⟨a,c,⟨?_,?_,?_,?_,?_⟩,h2.own h.1 (by decide) (by decide) g,h3⟩,h4⟩ <;> (rw[List.getElem?_append_left (by omega)];assumption)
theorem CQ.cp {w:World} {H n c:Nat} {a:Option Addr} {x:Nat→Cd} {cs:List Value} (h:CQ w H (.slice a n c) n x cs):CP w a n x:=by
 intro i hi;obtain⟨⟨a2,c2,⟨k1,k2,k3,k4,k5⟩,h2,h3⟩,-⟩:=h.2 i hi;have h1:=h.1;rcases id h1.2 with⟨hv,hn⟩|⟨g,cap,cur,hv,-⟩
 ·omega
 ·simp only[Value.slice.injEq]at hv;obtain⟨rfl,-,rfl⟩:=hv;refine⟨g,0,rfl,a2,c2,⟨?_,?_,?_,?_,?_⟩,h2.ss,h3⟩;all_goals (rw[Nat.zero_add,h1.cellAt _ (by omega)];assumption)
theorem sumN_le3 {g:Nat→Nat} {B:Nat} : ∀ n,(∀ i,i<n→g i≤B)→sumN g n≤n*B
 | 0,_=>by simp[sumN]
 | n+1,h=>by
  have h1:=sumN_le3 n (fun i hi=>h i (by omega));have h2:=h n (by omega);have h3:(n+1)*B=n*B+B:=Nat.succ_mul n B;show sumN g n+g n≤_;omega
theorem CQ.ok {w:World} {H n:Nat} {v:Value} {x:Nat→Cd} {cs:List Value} (h:CQ w H v n x cs) (hn:n≤5):okC x n:=by
 refine⟨by omega,?_⟩;have h1:sumN (fun i=>szC (x i)) n≤n*180015:=sumN_le3 n (fun i hi=>by
  obtain⟨-,h3,h4⟩:=h.2 i hi;have h5:sumN (ln (x i).f) (x i).n≤(x i).n*60004:=sumN_le3 _ (fun j hj=>(h4 j hj).1);show(x i).n+sumN (ln (x i).f) (x i).n≤_;omega)
 show sumN (fun i=>szC (x i)) n≤_;omega
theorem l20Stream_c (b P:Nat) (n:Int) (w:World) (h:RdP w b P) (hp:P<2^34) (hn0:0≤n) (hn:n≤1000000) :
 Calls Tryd.prog 36 #[.pointer (some ⟨b,0,none⟩),.int .i64 n] w fun e w'=>∃(k:Nat) (x:Nat→Cd) (a:Option Addr) (c:Nat) (cs:List Value),e= .returned (.slice a k c)∧k≤5∧CQ w' w.heap.size (.slice a k c) k x cs∧RdP w' b (P+50000)∧w.grownBy w' (some b):=by
 have hbH:b<w.heap.size:=h.lt;have EA:=Ext.alloc w (.cells #[] 38);have oA:=World.ownsRow_made (base:=w.heap.size) (e:=38) (size:=5) w #[] 0 (Nat.le_refl _) (by simp) rfl;have QA:CQ _ w.heap.size _ 0 (fun _=>cd0) []:=⟨oA,fun i hi=>by omega⟩;have rA:=h.ext EA;have gA:w.grownBy _ (some b):=ext_gr EA;have hsA:=EA.size;clear oA EA;go_enter Tryd.func36,Tryd.ntmps36
 go_wp2_with fail
 refine(l20Small_c b _ _ rA (by omega)).mono ?_
 rintro e w1 ⟨X1,rfl,x1a,x1b,r1,g1⟩
 have Q1:=QA.rd rA g1 hbH;have G1:=grown_trans gA g1;have hs1:=Nat.le_trans hsA g1.size;clear QA rA gA g1 hsA;obtain⟨W8,hW8⟩:∃ q:Int,q=((8*X1:Nat):Int):=⟨_,rfl⟩;rw[←hW8];have HW:=Lib.hid (show W8=8*(X1:Int) by omega);clear hW8;go_wp2_with fail
 refine(l20Small_c b _ _ r1 (by omega)).mono ?_
 rintro e w2 ⟨X2,rfl,x2a,x2b,r2,g2⟩
 have Q2:=Q1.rd r1 g2 hbH;have G2:=grown_trans G1 g2;have hs2:=Nat.le_trans hs1 g2.size;clear Q1 r1 G1 g2 hs1;obtain⟨H8,hH8⟩:∃ q:Int,q=((8*X2:Nat):Int):=⟨_,rfl⟩;rw[←hH8];have HH:=Lib.hid (show H8=8*(X2:Int) by omega);clear hH8;go_wp2_with fail
 go_loopw [5,8] (fun v ix wr=>∃(k:Nat) (x:Nat→Cd) (cs:List Value),k≤4∧ix= .int .i64 (k:Nat)∧w.grownBy wr (some b)∧RdP wr b (P+2+k*8002)∧CQ wr w.heap.size v k x cs∧w.heap.size≤wr.heap.size) (fun _ ix _=>4-(intOf ix).toNat)
 case atStart=>exact⟨0,_,_,by omega,rfl,G2,r2.mono (by omega),Q2,hs2⟩
 case round =>
  clear Q2 r2 G2 hs2;obtain⟨k,x,cs,hk,rfl,G2,r2,Q2,hs2⟩:=hrel;obtain⟨al,cl,rfl⟩:=owns_form Q2.1;go_wp2_with fail
  refine(pick_c b _ 4 _ r2 (by omega) (by omega) (by omega)).mono ?_
  rintro e w3 ⟨y0,rfl,ya,yb,r3,g3⟩
  have Q3:=Q2.rd r2 g3 hbH;have G3:=grown_trans G2 g3;have hs3:=Nat.le_trans hs2 g3.size;clear Q2 r2 G2 g3 hs2
  by_cases hlt:(k:Int)≤y0
  ·have hk3:k≤3:=by omega
   by_cases hk0:k=0
   ·subst hk0;go_wp2_with fail
    refine(l20Coded_c b _ X1 X2 _ _ _ n _ r3 (by omega) ⟨x1a,x1b⟩ ⟨x2a,x2b⟩ HW.out HH.out hn0 hn).mono ?_
    rintro e w5 ⟨y,a5,c5,rfl,y1,y2,y3,y4,r5,g5⟩
    have Q5:=Q3.rd r3 g5 hbH;have G5:=grown_trans G3 g5;have hs5:=Nat.le_trans hs3 g5.size;have o5:=Q5.1;have HQ:=Lib.hid Q5;have Hy:=Lib.hid (⟨y1,y2,y3,y4⟩:_∧_∧_∧_);clear y1 y2 y3 y4 Q5 g5 Q3 r3 G3;obtain⟨yw,yh,yi,yq,ym,yf⟩:=y;go_wp2_with (at_builtin;refine wpList_app5 _ o5 hs5 _ _ _ _ _ rfl _ _ 24 rfl (.agg #[.int .i64 0,.int .i64 0,.bool false,.int .i64 0,.slice none 0 0]) 56 Tryd.underlying24 info_Coded rfl rfl rfl (by intro u hu;simp at hu;rcases hu with rfl|rfl|rfl|rfl|rfl <;> rfl) (by omega) (by omega) ?_;intro v6 w6 own6 gr6;refine Hid.out ?_)
    obtain⟨y1,y2,y3,y4⟩:=Hy.out;have Q6:=HQ.out.app (y:=⟨yw,yh,yi,yq,ym,yf⟩) own6 gr6 y3 y4 y1 y2;have hge:=owns_ge o5;have G6:=grown_any G5 gr6 (fun q hq=>hge q hq);have r6:=r5.grE gr6 (fun q hq=>by have:=hge q hq;omega);have hs6:=Nat.le_trans hs5 gr6.size;clear own6 gr6 o5 HQ Hy y1 y2 y3 y4 hge G5 r5 hs5;refine Lib.hid ?_;go_wp2;go_roundw
    case rel=>exact⟨0+1,_,_,by omega,by go_num,G6,r6.mono (by omega),Q6,hs6⟩
    case measure=>simp[intOf] <;> omega
   ·have hkd:((k:Int) == 0)=false:=by simp;omega
    go_wp2_with fail
    refine(pick_c b _ 3 _ r3 (by omega) (by omega) (by omega)).mono ?_
    rintro e w4 ⟨z0,rfl,za,zb,r4,g4⟩
    have Q4:=Q3.rd r3 g4 hbH;have G4:=grown_trans G3 g4;have hs4:=Nat.le_trans hs3 g4.size;clear Q3 r3 G3 g4 hs3;go_wp2_with fail
    refine(l20Coded_c b _ X1 X2 _ _ _ n _ r4 (by omega) ⟨x1a,x1b⟩ ⟨x2a,x2b⟩ HW.out HH.out hn0 hn).mono ?_
    rintro e w5 ⟨y,a5,c5,rfl,y1,y2,y3,y4,r5,g5⟩
    have Q5:=Q4.rd r4 g5 hbH;have G5:=grown_trans G4 g5;have hs5:=Nat.le_trans hs4 g5.size;have o5:=Q5.1;have HQ:=Lib.hid Q5;have Hy:=Lib.hid (⟨y1,y2,y3,y4⟩:_∧_∧_∧_);clear y1 y2 y3 y4 Q5 g5 Q4 r4 G4;obtain⟨yw,yh,yi,yq,ym,yf⟩:=y;go_wp2_with (at_builtin;refine wpList_app5 _ o5 hs5 _ _ _ _ _ rfl _ _ 24 rfl (.agg #[.int .i64 0,.int .i64 0,.bool false,.int .i64 0,.slice none 0 0]) 56 Tryd.underlying24 info_Coded rfl rfl rfl (by intro u hu;simp at hu;rcases hu with rfl|rfl|rfl|rfl|rfl <;> rfl) (by omega) (by omega) ?_;intro v6 w6 own6 gr6;refine Hid.out ?_)
    obtain⟨y1,y2,y3,y4⟩:=Hy.out;have Q6:=HQ.out.app (y:=⟨yw,yh,yi,yq,ym,yf⟩) own6 gr6 y3 y4 y1 y2;have hge:=owns_ge o5;have G6:=grown_any G5 gr6 (fun q hq=>hge q hq);have r6:=r5.grE gr6 (fun q hq=>by have:=hge q hq;omega);have hs6:=Nat.le_trans hs5 gr6.size;clear own6 gr6 o5 HQ Hy y1 y2 y3 y4 hge G5 r5 hs5;refine Lib.hid ?_;go_wp2;go_roundw
    case rel=>exact⟨k+1,_,_,by omega,by go_num,G6,r6.mono (by omega),Q6,hs6⟩
    case measure=>simp[intOf] <;> omega
  ·have hlt2 : ¬ ((k:Int)≤y0):=hlt;have r3':=r3.mono (P':=P+35000) (by omega);clear r3;go_wp2_with fail
   refine(odd_any b _ n _ r3' (by omega) hn0 (by omega)).mono ?_
   rintro e w4 ⟨od,rfl,r4,g4⟩
   have Q4:=Q3.rd r3' g4 hbH;have G4:=grown_trans G3 g4;have hs4:=Nat.le_trans hs3 g4.size;clear Q3 r3' G3 g4 hs3;cases od
   ·go_wp2;go_ret
    exact⟨k,x,_,_,cs,rfl,by omega,Q4,r4.mono (by omega),G4⟩
   ·go_wp2_with fail
    refine(l20Coded_c b _ X1 1 _ _ _ 3 _ r4 (by omega) ⟨x1a,x1b⟩ ⟨by omega,by omega⟩ HW.out (by decide) (by omega) (by omega)).mono ?_
    rintro e w5 ⟨y,a5,c5,rfl,y1,y2,y3,y4,r5,g5⟩
    have Q5:=Q4.rd r4 g5 hbH;have G5:=grown_trans G4 g5;have hs5:=Nat.le_trans hs4 g5.size;have o5:=Q5.1;have HQ:=Lib.hid Q5;have Hy:=Lib.hid (⟨y1,y2,y3,y4⟩:_∧_∧_∧_);clear y1 y2 y3 y4 Q5 g5 Q4 r4 G4;obtain⟨yw,yh,yi,yq,ym,yf⟩:=y;go_wp2_with (at_builtin;refine wpList_app5 _ o5 hs5 _ _ _ _ _ rfl _ _ 24 rfl (.agg #[.int .i64 0,.int .i64 0,.bool false,.int .i64 0,.slice none 0 0]) 56 Tryd.underlying24 info_Coded rfl rfl rfl (by intro u hu;simp at hu;rcases hu with rfl|rfl|rfl|rfl|rfl <;> rfl) (by omega) (by omega) ?_;intro v6 w6 own6 gr6;refine Hid.out ?_)
    obtain⟨y1,y2,y3,y4⟩:=Hy.out;have Q6:=HQ.out.app (y:=⟨yw,yh,yi,yq,ym,yf⟩) own6 gr6 y3 y4 y1 y2;have hge:=owns_ge o5;have G6:=grown_any G5 gr6 (fun q hq=>hge q hq);have r6:=r5.grE gr6 (fun q hq=>by have:=hge q hq;omega);have hs6:=Nat.le_trans hs5 gr6.size;clear own6 gr6 o5 HQ Hy y1 y2 y3 y4 hge G5 r5 hs5;refine Lib.hid ?_;go_wp2;obtain⟨a6,c6,rfl⟩:=owns_form Q6.1;go_ret
    first|exact⟨k+1,_,a6,c6,_,rfl,by omega,Q6,r6.mono (by omega),G6⟩|exact⟨k+1,_,a6,c6,rfl,by omega,⟨_,Q6⟩,r6.mono (by omega),G6⟩
/-- Slices are bytes. -/
def okX (x:Nat→Cd) (n:Nat):Prop:=∀ i,i<n→(x i).n≤3∧okF (x i).f (x i).n
theorem CQ.okX {w:World} {H n:Nat} {v:Value} {x:Nat→Cd} {cs:List Value} (h:CQ w H v n x cs):okX x n:=fun i hi=>(h.2 i hi).2
theorem DrawDecodeLayered_any (s:Option Addr) (cc m:Nat) (bs:List Int) (w:World) (hc:m≤cc) (hc2:cc≤9223372036854775807) (r:Sl w s m (bs.map (Value.int .u8))) (hz:∀ z∈bs,0≤z∧z≤255) :
 Calls Tryd.prog 27 #[.slice s m cc] w fun e w'=>∃(k:Nat) (x:Nat→Cd) (a:Option Addr) (c:Nat) (l y:Int),e= .returned (.tuple #[.slice a k c,.int .i64 l,.int .i64 y])∧k≤5∧okC x k∧CP w' a k x∧okX x k∧(0≤l∧l≤4)∧(-9≤y∧y≤9)∧Ext w w':=by
 go_enter Tryd.func27,Tryd.ntmps27
 go_wp2_with fail
 refine(open_any s cc m bs _ hc hc2 r hz).mono ?_
 rintro e w1 ⟨b,rfl,rd,e1,hb⟩
 have r1:RdP w1 b 0:=⟨0,by omega,rd⟩;clear rd;go_wp2_with fail
 refine(l20Stream_c b 0 14 _ r1 (by omega) (by omega) (by omega)).mono ?_
 rintro e w2 ⟨k,x,a,c,cs,rfl,hk,Q2,r2,g2⟩
 have hbw:=r1.lt;clear r1;go_wp2_with fail
 refine(pick_c b _ 5 _ r2 (by omega) (by omega) (by omega)).mono ?_
 rintro e w3 ⟨l,rfl,la,lb,r3,g3⟩
 have Q3:=Q2.rd r2 g3 hbw;have G3:=grown_trans g2 g3;clear Q2 r2 g2 g3;go_wp2_with fail
 refine(pick_c b _ 4 _ r3 (by omega) (by omega) (by omega)).mono ?_
 rintro e w4 ⟨y1,rfl,y1a,y1b,r4,g4⟩
 have Q4:=Q3.rd r3 g4 hbw;have G4:=grown_trans G3 g4;clear Q3 r3 G3 g4;go_wp2_with fail
 refine(pick_c b _ 9 _ r4 (by omega) (by omega) (by omega)).mono ?_
 rintro e w5 ⟨y2,rfl,y2a,y2b,r5,g5⟩
 have Q5:=Q4.rd r4 g5 hbw;have G5:=grown_trans G4 g5;clear Q4 r4 G4 g5;have E5:Ext w w5:=Ext.grown e1 G5 (fun q hq=>by cases hq;exact hb);have hy : -9≤y1-y2/8∧y1-y2/8≤9:=by omega
 go_wp2;go_ret3
 exact⟨k,x,a,c,l,y1-y2/8,rfl,hk,Q5.ok hk,Q5.cp,Q5.okX,⟨by omega,by omega⟩,hy,E5⟩
theorem DrawDropLayers_any (s:Option Addr) (cc m:Nat) (bs:List Int) (w:World) (hc:m≤cc) (hc2:cc≤9223372036854775807) (r:Sl w s m (bs.map (Value.int .u8))) (hz:∀ z∈bs,0≤z∧z≤255) :
 Calls Tryd.prog 12 #[.slice s m cc] w fun e w'=>∃(k:Nat) (x:Nat→Cd) (a:Option Addr) (c:Nat) (l y:Int),e= .returned (.tuple #[.slice a k c,.int .i64 l,.int .i64 y])∧k≤5∧okC x k∧CP w' a k x∧okX x k∧(0≤l∧l≤4)∧(-9≤y∧y≤9)∧Ext w w':=by
 go_enter Tryd.func12,Tryd.ntmps12
 go_wp2_with fail
 refine(DrawDecodeLayered_any s cc m bs _ hc hc2 r hz).mono ?_
 rintro e w1 ⟨k,x,a,c,l,y,rfl,h1,h2,h3,h4,h5,h6,h7⟩
 go_wp2;go_ret3
 exact⟨k,x,a,c,l,y,rfl,h1,h2,h3,h4,h5,h6,h7⟩
end Go.Proofs.YtmokncpppmchfaaDoor
namespace Go.Proofs.YtmokncpppmchfaaDoor

open Go.RowKit
end Go.Proofs.YtmokncpppmchfaaDoor
namespace Go.Proofs.YtmokncpppmchfaaDoor
open Go.RowKit
theorem sideValid_yes (x:Int) (w:World) (h1:8≤x) (h2:x≤32) (h3:x%8=0) :
 Calls Tryd.prog 38 #[.int .i64 x] w fun e w'=>e= .returned (.bool true)∧w=w':=by
 have hm:=Lib.hid h3;clear h3;go_enter Tryd.func38,Tryd.ntmps38
 go_wp2;go_ret
 exact⟨by simp[hm.out],rfl⟩
theorem sampleValid_yes (x:Int) (w:World) (h1:0≤x) (h2:x≤255) :
 Calls Tryd.prog 39 #[.int .i64 x] w fun e w'=>e= .returned (.bool true)∧w=w':=by
 go_enter Tryd.func39,Tryd.ntmps39
 go_wp2;go_ret
 exact⟨by simp,rfl⟩
theorem NewPicture_any (x y v:Int) (n:Nat) (w:World) (hx:8≤x∧x≤32∧x%8=0) (hy:8≤y∧y≤32∧y%8=0) (hv:0≤v∧v≤255) (hn:x*y=n) (hn2:n≤1024) :
 Calls Tryd.prog 28 #[.int .i64 x,.int .i64 y,.int .i64 v] w fun e w'=>∃ a c,e= .returned (.agg #[.int .i64 x,.int .i64 y,.slice a n c])∧w'.ownsRow w.heap.size 3 1 (.slice a n c) n (List.replicate n (.int .i64 v))∧Ext w w':=by
 have Hx:=Lib.hid hx;have Hy:=Lib.hid hy;have Hv:=Lib.hid hv;have Hn:=Lib.hid hn;clear hx hy hv hn;go_enter Tryd.func28,Tryd.ntmps28
 go_wp2_with fail
 refine(sideValid_yes x _ Hx.out.1 Hx.out.2.1 Hx.out.2.2).mono ?_
 rintro e w1 ⟨rfl,rfl⟩
 go_wp2_with fail
 refine(sideValid_yes y _ Hy.out.1 Hy.out.2.1 Hy.out.2.2).mono ?_
 rintro e w1 ⟨rfl,rfl⟩
 go_wp2_with fail
 refine(sampleValid_yes v _ Hv.out.1 Hv.out.2).mono ?_
 rintro e w1 ⟨rfl,rfl⟩
 have hb:x*y≤1024:=by rw[Hn.out];omega
 have hb0:0≤x*y:=by rw[Hn.out];omega
 have p0:=blk_new w (.cells #[.int .i64 0,.int .i64 0,.slice none 0 0] 50);go_wp2_with (at_make;refine wpList_mk _ rfl _ _ 48 rfl 3 (.int .i64 0) 8 Tryd.underlying48 info_int rfl _ n rfl rfl Hn.out (by omega) (by omega) ?_;intro w1 hown hgrow)
 have e1:Ext (w.alloc (.cells #[.int .i64 0,.int .i64 0,.slice none 0 0] 50)) w1:=Ext.grown (Below.refl _ _) hgrow (by simp);simp only[World.size_alloc]at hown;have E1:Ext w w1:=Ext.trans (Ext.alloc _ _) e1;have hB:w.heap.size+1<w1.heap.size:=(hown.lt _ rfl).2;have p1:=e1.blk p0;clear p0 e1 hgrow;have p2:=blk_alloc p1 (.cells #[.int .i64 x,.int .i64 y,.slice (some ⟨w.heap.size+1,0,none⟩) n n] 50);have q2:=blk_new w1 (.cells #[.int .i64 x,.int .i64 y,.slice (some ⟨w.heap.size+1,0,none⟩) n n] 50);have E2:Ext w (w1.alloc (.cells #[.int .i64 x,.int .i64 y,.slice (some ⟨w.heap.size+1,0,none⟩) n n] 50)):=E1.trans (Ext.alloc _ _);have hsz:w.heap.size+1≤w1.heap.size:=by have:=lt_of_block p1;omega
 have own2:=owns_ext hown (Ext.alloc w1 (.cells #[.int .i64 x,.int .i64 y,.slice (some ⟨w.heap.size+1,0,none⟩) n n] 50));have H0:=mix_zero (List.replicate n (.int .i64 v)) (List.replicate n (.int .i64 0));rw[←H0]at own2;clear H0 p1 hown E1;generalize w1.alloc (.cells #[.int .i64 x,.int .i64 y,.slice (some ⟨w.heap.size+1,0,none⟩) n n] 50)=w2 at *;generalize w1.heap.size=B at *;go_loopw [8,33] (fun _ i wr=>∃ k:Nat,k≤n∧i= .int .i64 k∧Ext w wr∧wr.heap[w.heap.size]?=some (.cells #[.int .i64 0,.int .i64 0,.slice none 0 0] 50 (0,0))∧wr.heap[B]?=some (.cells #[.int .i64 x,.int .i64 y,.slice (some ⟨w.heap.size+1,0,none⟩) n n] 50 (0,0))∧wr.ownsRow (w.heap.size+1) 3 1 (.slice (some ⟨w.heap.size+1,0,none⟩) n n) n (mix (List.replicate n (.int .i64 v)) (List.replicate n (.int .i64 0)) k)) (fun _ i _=>n-(intOf i).toNat)
 case atStart=>exact⟨0,by omega,rfl,E2,p2,q2,own2⟩
 case round =>
  obtain⟨k,hk,rfl,E3,p3,q3,own3⟩:=hrel;clear p2 q2 own2 E2;obtain⟨z0,z1,z2,z3,z4,z5,z6⟩:=bx3 q3
  by_cases hlt:k<n
  ·obtain⟨u,g2,-⟩:=owns_get own3 hlt;have g3:=own3.frozenAt k;go_wp2;go_roundw
   case rel =>
    obtain⟨o2,gr⟩:=own3.stored k (.int .i64 v);rw[mix_set _ _ k (by simp) (by simp[hlt]) _ (by simp[hlt])]at o2;exact⟨k+1,by omega,rfl,Ext.grown E3 gr (by simp),by rw[gr.block _ (lt_of_block p3) (by simp)];exact p3,by rw[gr.block _ (lt_of_block q3) (by simp;omega)];exact q3,o2⟩
   case measure=>simp[intOf];omega
  ·obtain rfl:k=n:=by omega
   rw[mix_all _ _ k (by simp) (by simp)]at own3;obtain⟨y0,y1,y2,y3,y4,y5,y6⟩:=bx3 p3;have hne:B≠w.heap.size:=by omega
   go_wp2;have p4:=blk_set3 (x' := .int .i64 x) (y' := .int .i64 y) (z' := .slice (some ⟨w.heap.size+1,0,none⟩) k k) p3;obtain⟨x0,x1,x2,x3,-⟩:=bx3 p4;refine bodyPost_ret (v := .agg #[.int .i64 x,.int .i64 y,.slice (some ⟨w.heap.size+1,0,none⟩) k k]) (by simp[results,Tryd.results28,go_sem,x1,x2,x3]) rfl ⟨_,_,rfl,?_,?_⟩
   ·have hlt:∀ i:Nat,(⟨w.heap.size,i,none⟩:Addr).block<w.heap.size+1:=fun i=>Nat.lt_succ_self _
    exact owns_mono (ownsRow_setCell_below (ownsRow_setCell_below (ownsRow_setCell_below own3 (hlt 0) _) (hlt 1) _) (hlt 2) _) (by omega)
   ·exact(((E3.setCell (Nat.le_refl _) _).setCell (Nat.le_refl _) _).setCell (Nat.le_refl _) _)
theorem alive_any (w:World):Calls Tryd.prog 14 #[] w fun e w'=>e= .returned (.bool true)∧Ext w w':=by
 go_enter Tryd.func14,Tryd.ntmps14
 go_wp2_with fail
 refine(NewPicture_any 8 8 7 64 _ (by decide) (by decide) (by decide) (by decide) (by decide)).mono ?_
 rintro e w1 ⟨a,c,rfl,-,e1⟩
 have hfd:∀ w:World,(Instr.field 50 (.agg #[.int .i64 8,.int .i64 8,.slice a 64 c]) 2).run Tryd.prog w= .ok (.slice a 64 c) w:=fun _=>by kernel_rfl
 go_wp2;go_ret
 exact⟨rfl,e1⟩
theorem conv_any (w:World) (a:Option Addr) (n c:Nat) (xs:List Int) (h:Sl w a n (xs.map (Value.int .u8))):(convert 30 9 (.slice a n c)).run Tryd.prog w= .ok (.string (strOfNums xs)) w:=by
 have hl:=h.int_len
 by_cases hn:0<n
 ·obtain⟨b2,o2,h2,h3⟩:=h.int hn;subst h2;exact run_convert_bytes_arg (P:=Tryd.prog) w 30 5 Tryd.underlying30 Tryd.underlying5 b2 o2 n c xs hl (fun i hi=>by
   obtain⟨b3,o3,h2,h3⟩:=h.int hi;simp only[Option.some.injEq,Addr.mk.injEq,and_true]at h2;obtain⟨rfl,rfl⟩:=h2;exact h3) 9 Tryd.underlying9
 ·obtain rfl:n=0:=by omega
  obtain rfl:xs = []:=List.eq_nil_of_length_eq_zero hl;cases a with
  | none=>exact run_convert_bytes_nil (P:=Tryd.prog) w 30 5 Tryd.underlying30 Tryd.underlying5 0 c 9 Tryd.underlying9
  | some ad =>
   have hq:(loadCells ad 0).run Tryd.prog w= .ok #[] w:=run_loadCells_list (P:=Tryd.prog) w ad [] (fun j v hj=>by simp at hj);rw[run_convert_bytes_string w 30 9 5 _ 0 c Tryd.underlying30 Tryd.underlying5 Tryd.underlying9];simp[Conv.bytesToString,Sem.run_bind,hq,strOfNums];rfl
theorem sameCoded_same (x:Cd) (a1 a2:Option Addr) (c1 c2:Nat) (w:World) (hn:x.n≤1000) (r1:SS w a1 x.n (lst x.n x.f)) (r2:SS w a2 x.n (lst x.n x.f)) :
 Calls Tryd.prog 16 #[.agg #[.int .i64 x.w,.int .i64 x.h,.bool x.i,.int .i64 x.q,.slice a1 x.n c1],.agg #[.int .i64 x.w,.int .i64 x.h,.bool x.i,.int .i64 x.q,.slice a2 x.n c2]] w fun e w'=>e= .returned (.bool true)∧Ext w w':=by
 obtain⟨xw,xh,xi,xq,n,f⟩:=x;simp only at hn r1 r2⊢;have p1:=blk_alloc (blk_new w (.cells #[.int .i64 xw,.int .i64 xh,.bool xi,.int .i64 xq,.slice a1 n c1] 38)) (.cells #[.int .i64 xw,.int .i64 xh,.bool xi,.int .i64 xq,.slice a2 n c2] 38);have p2:=blk_new (w.alloc (.cells #[.int .i64 xw,.int .i64 xh,.bool xi,.int .i64 xq,.slice a1 n c1] 38)) (.cells #[.int .i64 xw,.int .i64 xh,.bool xi,.int .i64 xq,.slice a2 n c2] 38);have E0:=(Ext.alloc w (.cells #[.int .i64 xw,.int .i64 xh,.bool xi,.int .i64 xq,.slice a1 n c1] 38)).trans (Ext.alloc _ (.cells #[.int .i64 xw,.int .i64 xh,.bool xi,.int .i64 xq,.slice a2 n c2] 38));simp only[World.size_alloc]at p2;obtain⟨B,hB⟩:∃ B,B=w.heap.size:=⟨_,rfl⟩;rw[←hB]at p1 p2;have Hst:=Lib.hid (⟨p1,p2,E0⟩:_∧_∧_);clear p1 p2 E0;go_enter Tryd.func16,Tryd.ntmps16
 go_upto_region 1 with fail
 try simp only[World.size_alloc]
 rw[←hB];obtain⟨p1,p2,E0⟩:=Hst.out;clear Hst;generalize (w.alloc (.cells #[.int .i64 xw,.int .i64 xh,.bool xi,.int .i64 xq,.slice a1 n c1] 38)).alloc (.cells #[.int .i64 xw,.int .i64 xh,.bool xi,.int .i64 xq,.slice a2 n c2] 38)=w1 at *;have HB:=Lib.hid hB;clear hB;obtain⟨-,k0,k1,k2,k3,k4⟩:=bx5 p1;obtain⟨-,j0,j1,j2,j3,j4⟩:=bx5 p2;go_wp2_with fail
 go_loopw [5] (fun ix wr=>∃ k:Nat,k≤n∧ix= .int .i64 (k:Nat)∧Ext w1 wr) (fun ix _=>n-(intOf ix).toNat)
 case atStart=>exact⟨0,by omega,rfl,Below.refl _ _⟩
 case round =>
  obtain⟨k,hk,rfl,E2⟩:=hrel;clear k0 k1 k2 k3 k4 j0 j1 j2 j3 j4;have q1:=E2.blk p1;have q2:=E2.blk p2;obtain⟨-,k0,k1,k2,k3,k4⟩:=bx5 q1;obtain⟨-,j0,j1,j2,j3,j4⟩:=bx5 q2
  by_cases hlt:k<n
  ·obtain⟨b1,o1,rfl,s1,d1,u1,v1,t1⟩:=(r1.ext (E0.trans E2)).at hlt;obtain⟨b2,o2,rfl,s2,d2,u2,v2,t2⟩:=(r2.ext (E0.trans E2)).at hlt;have hkn:(k:Int)<n:=by omega
   obtain⟨zs,hz⟩:∃ zs,zs=f k:=⟨_,rfl⟩;rw[←hz]at u1 u2 v1 v2;clear t1 t2 hz;go_upto_region 6 with fail
   clear k0 k1 k2 k3 k4 j0 j1 j2 j3 j4;refine wp_region_inv2 (by kernel_rfl) [(48,0),(49,1),(50,2),(51,3),(52,4),(53,5),(54,6),(55,7),(56,8),(57,9),(58,10),(59,11),(60,12)] [[],[0],[],[0,1,2],[0,1,2,3],[0,1,2,3,4],[],[6],[],[6,7,8],[6,7,8,9],[6,7,8,9,10],[0,1,2,3,4,5,6,7,8,9,10,11]] (fun i own ys wx=>match i with|0=>own= .pointer (some ⟨B,4,none⟩)|1=>own= .slice (some ⟨b1,o1,none⟩) n c1|2=>own= .int .i64 (k:Int)|3=>own= .pointer (some ⟨b1,o1+k,none⟩)|4=>own= .slice s1 zs.length d1|5=>own= .string (strOfNums zs)|6=>own= .pointer (some ⟨B+1,4,none⟩)|7=>own= .slice (some ⟨b2,o2,none⟩) n c2|8=>own= .int .i64 (k:Int)|9=>own= .pointer (some ⟨b2,o2+k,none⟩)|10=>own= .slice s2 zs.length d2|11=>own= .string (strOfNums zs)|12=>own= .bool false|_=>True) (fun kx wx=>Ext wr wx) (by kernel_rfl) (by kernel_rfl) (by kernel_rfl) ?g0_r1 ?gop_r1 ?gend_r1
   case g0_r1=>exact Ext.drewN _ 1
   case gop_r1 =>
    refine⟨?_,?o1,?_,?o3,?o4,?o5,?_,?o7,?_,?o9,?o10,?o11,?o12,trivial⟩ <;> (intro kx xs wx hk hG hD hI Qo Kx hK hQo;simp only[patchS,Nat.reduceAdd,Nat.reduceEqDiff,↓reduceIte]at hQo⊢)
    case o1 =>
     rw[ddq (hD 0 rfl)]at hQo⊢;clear hD hI;obtain⟨-,k0,k1,k2,k3,k4⟩:=bx5 (hG.blk q1);go_wp2;exact hK.out _ _ ⟨rfl,hG,kkp⟩
    case o3 =>
     rw[ddq (hD 1 rfl),ddq (hD 2 rfl)]at hQo⊢;clear hD hI;go_wp2;exact hK.out _ _ ⟨rfl,hG,kkp⟩
    case o4 =>
     rw[ddq (hD 3 rfl)]at hQo⊢;clear hD hI;have k0:=cell_ext hG u1;go_wp2;exact hK.out _ _ ⟨rfl,hG,kkp⟩
    case o5 =>
     rw[ddq (hD 4 rfl)]at hQo⊢;clear hD hI;have hcv:=conv_any wx _ _ d1 _ (v1.ext hG);go_wp2;exact hK.out _ _ ⟨rfl,hG,kkp⟩
    case o7 =>
     rw[ddq (hD 6 rfl)]at hQo⊢;clear hD hI;obtain⟨-,k0,k1,k2,k3,k4⟩:=bx5 (hG.blk q2);go_wp2;exact hK.out _ _ ⟨rfl,hG,kkp⟩
    case o9 =>
     rw[ddq (hD 7 rfl),ddq (hD 8 rfl)]at hQo⊢;clear hD hI;go_wp2;exact hK.out _ _ ⟨rfl,hG,kkp⟩
    case o10 =>
     rw[ddq (hD 9 rfl)]at hQo⊢;clear hD hI;have k0:=cell_ext hG u2;go_wp2;exact hK.out _ _ ⟨rfl,hG,kkp⟩
    case o11 =>
     rw[ddq (hD 10 rfl)]at hQo⊢;clear hD hI;have hcv:=conv_any wx _ _ d2 _ (v2.ext hG);go_wp2;exact hK.out _ _ ⟨rfl,hG,kkp⟩
    case o12 =>
     rw[ddq (hD 5 rfl),ddq (hD 11 rfl)]at hQo⊢;clear hD hI;go_wp2;exact hK.out _ _ ⟨rfl,hG,kkp⟩
    all_goals
     clear hD hI;go_wp2;exact hK.out _ _ ⟨rfl,hG,kkp⟩
   intro xs wx hV hG;have d12:_=_:=hV 12 (by decide);clear hV;simp only[patchS,Nat.reduceAdd,Nat.reduceEqDiff,↓reduceIte];generalize xs 0=y0,xs 1=y1,xs 2=y2,xs 3=y3,xs 4=y4,xs 5=y5,xs 6=y6,xs 7=y7,xs 8=y8,xs 9=y9,xs 10=y10,xs 11=y11,xs 12=y12 at *
   replace hG:Ext wr wx:=hG
   subst d12;have HE:=Lib.hid (E2.trans hG);clear hG u1 u2 v1 v2 q1 q2;go_wp2;go_roundw
   case rel=>exact⟨k+1,by omega,by go_num,HE.out⟩
   case measure=>simp[intOf];omega
  ·obtain rfl:k=n:=by omega
   go_wp2;go_ret
   exact⟨rfl,E0.trans E2⟩
theorem sameCodedList_same (a1 a2:Option Addr) (c1 c2 n:Nat) (x:Nat→Cd) (w:World) (hn:n≤1000) (hx:okX x n) (r1:CP w a1 n x) (r2:CP w a2 n x) :
 Calls Tryd.prog 13 #[.slice a1 n c1,.slice a2 n c2] w fun e w'=>e= .returned (.bool true)∧Ext w w':=by
 have Hx:=Lib.hid hx;clear hx;go_enter Tryd.func13,Tryd.ntmps13
 go_wp2_with fail
 go_loopw [5] (fun ix wr=>∃ k:Nat,k≤n∧ix= .int .i64 (k:Nat)∧Ext w wr) (fun ix _=>n-(intOf ix).toNat)
 case atStart=>exact⟨0,by omega,rfl,Below.refl _ _⟩
 case round =>
  obtain⟨k,hk,rfl,E2⟩:=hrel
  by_cases hlt:k<n
  ·obtain⟨b1,o1,rfl,s1,d1,⟨u0,u1,u2,u3,u4⟩,u5,u6⟩:=(r1.ext E2) k hlt;obtain⟨b2,o2,rfl,s2,d2,⟨v0,v1,v2,v3,v4⟩,v5,v6⟩:=(r2.ext E2) k hlt;have hkn:(k:Int)<n:=by omega
   have hx3:=(Hx.out k hlt).1;obtain⟨y,hy⟩:∃ y,y=x k:=⟨_,rfl⟩;rw[←hy]at u0 u1 u2 u3 u4 u5 v0 v1 v2 v3 v4 v5 hx3;clear u6 v6 hy;go_upto_region 6 with fail
   refine wp_region_inv2 (by kernel_rfl) [(17,0),(18,1),(19,2),(20,3),(21,4),(22,5),(23,6),(24,7),(25,8),(26,9)] [[],[],[0,1],[0,1,2],[],[],[4,5],[4,5,6],[0,1,2,3,4,5,6,7],[0,1,2,3,4,5,6,7,8]] (fun i own ys wx=>match i with|0=>own= .slice (some ⟨b1,o1,none⟩) n c1|1=>own= .int .i64 (k:Int)|2=>own= .pointer (some ⟨b1,o1+k*5,none⟩)|3=>own= .agg #[.int .i64 y.w,.int .i64 y.h,.bool y.i,.int .i64 y.q,.slice s1 y.n d1]|4=>own= .slice (some ⟨b2,o2,none⟩) n c2|5=>own= .int .i64 (k:Int)|6=>own= .pointer (some ⟨b2,o2+k*5,none⟩)|7=>own= .agg #[.int .i64 y.w,.int .i64 y.h,.bool y.i,.int .i64 y.q,.slice s2 y.n d2]|8=>own= .bool true|9=>own= .bool false|_=>True) (fun kx wx=>Ext wr wx) (by kernel_rfl) (by kernel_rfl) (by kernel_rfl) ?g0_r2 ?gop_r2 ?gend_r2
   case g0_r2=>exact Ext.drewN _ 1
   case gop_r2 =>
    refine⟨?_,?_,?o2,?o3,?_,?_,?o6,?o7,?o8,?o9,trivial⟩ <;> (intro kx xs wx hk hG hD hI Qo Kx hK hQo;simp only[patchS,Nat.reduceAdd,Nat.reduceEqDiff,↓reduceIte]at hQo⊢)
    case o2 =>
     rw[ddq (hD 0 rfl),ddq (hD 1 rfl)]at hQo⊢;clear hD hI;go_wp2;exact hK.out _ _ ⟨rfl,hG,kkp⟩
    case o3 =>
     rw[ddq (hD 2 rfl)]at hQo⊢;clear hD hI;have k0:=cell_ext hG u0;have k1:=cell_ext hG u1;have k2:=cell_ext hG u2;have k3:=cell_ext hG u3;have k4:=cell_ext hG u4;go_wp2;exact hK.out _ _ ⟨rfl,hG,kkp⟩
    case o6 =>
     rw[ddq (hD 4 rfl),ddq (hD 5 rfl)]at hQo⊢;clear hD hI;go_wp2;exact hK.out _ _ ⟨rfl,hG,kkp⟩
    case o7 =>
     rw[ddq (hD 6 rfl)]at hQo⊢;clear hD hI;have k0:=cell_ext hG v0;have k1:=cell_ext hG v1;have k2:=cell_ext hG v2;have k3:=cell_ext hG v3;have k4:=cell_ext hG v4;go_wp2;exact hK.out _ _ ⟨rfl,hG,kkp⟩
    case o8 =>
     rw[ddq (hD 3 rfl),ddq (hD 7 rfl)]at hQo⊢;clear hD hI;go_wp2_with fail
     refine(sameCoded_same y s1 s2 d1 d2 _ (by omega) (u5.ext hG) (v5.ext hG)).mono ?_
     rintro e wz ⟨rfl,ez⟩
     go_wp2;exact hK.out _ _ ⟨rfl,hG.trans ez,kkp⟩
    case o9 =>
     rw[ddq (hD 8 rfl)]at hQo⊢;clear hD hI;go_wp2;exact hK.out _ _ ⟨rfl,hG,kkp⟩
    all_goals
     clear hD hI;go_wp2;exact hK.out _ _ ⟨rfl,hG,kkp⟩
   intro xs wx hV hG;have d9:_=_:=hV 9 (by decide);clear hV;simp only[patchS,Nat.reduceAdd,Nat.reduceEqDiff,↓reduceIte];generalize xs 0=y0,xs 1=y1,xs 2=y2,xs 3=y3,xs 4=y4,xs 5=y5,xs 6=y6,xs 7=y7,xs 8=y8,xs 9=y9 at *
   replace hG:Ext wr wx:=hG
   subst d9;have HE:=Lib.hid (E2.trans hG);clear hG u0 u1 u2 u3 u4 u5 v0 v1 v2 v3 v4 v5;go_wp2;go_roundw
   case rel=>exact⟨k+1,by omega,by go_num,HE.out⟩
   case measure=>simp[intOf];omega
  ·obtain rfl:k=n:=by omega
   go_wp2;go_ret
   exact⟨rfl,E2⟩
theorem dropR_idem (r:Nat→Cd) (l:Nat) (K:Int) (i:Nat):dropR (dropR r l K) l K i=dropR r l K i:=by
 unfold dropR
 split
 ·rfl
 ·rfl
theorem dropR_all (r:Nat→Cd) (l:Nat) (i:Nat):dropR r l (l:Int) i=r i:=by
 apply dropR_y;unfold layerN;omega
theorem okX.drop {r:Nat→Cd} {n:Nat} (h:okX r n) (l:Nat) (K:Int):okX (dropR r l K) n:=fun i hi=>by
 unfold dropR
 split
 ·exact h i hi
 ·exact⟨by decide,fun j hj=>by simp[cd0]at hj⟩
theorem byte_rg {zs:List Int} (wf:∀ z∈zs,(Lit.int .u8 z).wf=true):∀ z∈zs,0≤z∧z≤255:=fun z hz=>by
 have:=wf z hz;simp[Lit.wf,IntKind.min,IntKind.max,IntKind.signed,IntKind.bits]at this;omega
theorem law_FnDropLayers (a:Option Addr) (c n:Nat) (zs:List Int) (w:World) (hT:Tab w) (hn0:n≤c∧c≤maxLen) (sl:Sl w a n (zs.map (Value.int .u8))) (wf:∀ z∈zs,(Lit.int .u8 z).wf=true) :
 Calls Tryd.prog 4 #[.slice a n c] w fun e w'=>e= .returned (.bool true)∧Ext w w':=by
 have hn:n≤c∧c≤9223372036854775807:=⟨hn0.1,hn0.2⟩;clear hn0;have hz:=Lib.hid (byte_rg wf);clear wf
 by_cases hbig:1048576<n
 ·go_enter Tryd.func4,Tryd.ntmps4
  go_wp2;go_ret
  exact⟨rfl,Below.refl _ _⟩
 go_enter Tryd.func4,Tryd.ntmps4
 go_wp2_with fail
 refine(DrawDropLayers_any a c n zs _ hn.1 hn.2 sl hz.out).mono ?_
 rintro e w1 ⟨k,x,a1,c1,L,y,rfl,hk5,ok1,R1,X1,hL,hy,E1⟩
 have T1:=hT.ext E1;have hk8:k≤8:=by omega
 have Hok:=Lib.hid ok1;have HX:=Lib.hid X1;clear sl hz hn hbig hT ok1 X1
 by_cases hl1:1≤L
 ·obtain⟨l,rfl⟩:=Int.eq_ofNat_of_zero_le hL.1;have l1:1≤l:=by omega
  have l2:l≤4:=by omega
  clear hl1 hL;go_wp2_with fail
  refine(impl_DropLayers_yes a1 k c1 l y x _ T1 Hok.out R1 hk8 l1 l2).mono ?_
  rintro e w2 ⟨a2,c2,cs2,rfl,C2,e2⟩
  have R2:=C2.toCP;have E2:=E1.trans e2;have F2:=R1.ext e2;have T2:=T1.ext e2;clear C2 e2 E1 R1 T1;go_wp2_with fail
  refine(spec_DropLayers_yes a1 k c1 l y x _ Hok.out F2 hk8 l1 l2).mono ?_
  rintro e w3 ⟨a3,c3,cs3,rfl,C3,e3⟩
  have R3:=C3.toCP;have E3:=E2.trans e3;have F3:=F2.ext e3;have O3:=R2.ext e3;have T3:=T2.ext e3;clear C3 e3 E2 R2 F2 T2;go_wp2_with fail
  refine(sameCodedList_same a2 a3 c2 c3 k _ _ (by omega) (HX.out.drop l y) O3 R3).mono ?_
  rintro e w4 ⟨rfl,e4⟩
  have E4:=E3.trans e4;have F4:=F3.ext e4;have O4:=O3.ext e4;have T4:=T3.ext e4;clear e4 E3 R3 F3 O3 T3;go_wp2_with fail
  go_loopw [7] (fun ix wr=>∃ i:Nat,i≤k∧ix= .int .i64 (i:Nat)∧Ext w4 wr) (fun ix _=>k-(intOf ix).toNat)
  case atStart=>exact⟨0,by omega,rfl,Below.refl _ _⟩
  case round =>
   obtain⟨q5,hi,rfl,e5⟩:=hrel;have F5:=F4.ext e5;have O5:=O4.ext e5;have T5:=T4.ext e5
   by_cases hlt:q5<k
   ·have hkn:(q5:Int)<k:=by omega
    obtain⟨b1,o1,rfl,s1,d1,⟨u0,u1,u2,u3,u4⟩,u5,u6⟩:=F5 q5 hlt;obtain⟨b2,o2,rfl,s2,d2,⟨v0,v1,v2,v3,v4⟩,v5,v6⟩:=O5 q5 hlt;have hx3:=(HX.out q5 hlt).1
    by_cases hc:((layerN q5 l:Nat):Int)≤y
    ·rw[dropR_y hc]at v0 v1 v2 v3 v4 v5;obtain⟨z,hz⟩:∃ z,z=x q5:=⟨_,rfl⟩;rw[←hz]at u0 u1 u2 u3 u4 u5 v0 v1 v2 v3 v4 v5 hx3;have hdc:decide (((layerN q5 l:Nat):Int)≤y)=true:=by simpa using hc
     clear u6 v6 hz hc;go_upto_region 12 with fail
     have hext:Stab (fun wa wb=>Ext wa wb) (fun i own ys wx=>match i with|0=>own= .int .i64 (q5:Int)|1=>own= .int .i64 (l:Int)|2=>own= .int .i64 (layerN q5 l:Nat)|3=>own= .int .i64 y|4=>own= .bool true|5=>own= .bool true|6=>own= .slice (some ⟨b2,o2,none⟩) k c2|7=>own= .int .i64 (q5:Int)|8=>own= .pointer (some ⟨b2,o2+q5*5,none⟩)|9=>own= .agg #[.int .i64 z.w,.int .i64 z.h,.bool z.i,.int .i64 z.q,.slice s2 z.n d2]|10=>own= .slice (some ⟨b1,o1,none⟩) k c1|11=>own= .int .i64 (q5:Int)|12=>own= .pointer (some ⟨b1,o1+q5*5,none⟩)|13=>own= .agg #[.int .i64 z.w,.int .i64 z.h,.bool z.i,.int .i64 z.q,.slice s1 z.n d1]|14=>own= .bool true|15=>own= .bool false|16=>own= .bool false|_=>True):=by
      intro i own ys wa wb e h
      match i,h with
      | 0,h|1,h|2,h|3,h|4,h|5,h|6,h|7,h|8,h|9,h|10,h|11,h|12,h|13,h|14,h|15,h|16,h=>exact h
      | _+17,_=>trivial
     have Hext:=Lib.hid hext;clear hext;refine wp_region_inv2 (by kernel_rfl) [(46,0),(47,1),(48,2),(49,3),(50,4),(51,5),(52,6),(53,7),(54,8),(55,9),(56,10),(57,11),(58,12),(59,13),(60,14),(61,15),(62,16)] [[],[],[0,1],[],[0,1,2,3],[0,1,2,3,4],[0,1,2,3,4,5],[0,1,2,3,4,5],[0,1,2,3,4,5,6,7],[0,1,2,3,4,5,6,7,8],[0,1,2,3,4,5],[0,1,2,3,4,5],[0,1,2,3,4,5,10,11],[0,1,2,3,4,5,10,11,12],[0,1,2,3,4,5,6,7,8,9,10,11,12,13],[0,1,2,3,4,5,6,7,8,9,10,11,12,13,14],[0,1,2,3,4,5,6,7,8,9,10,11,12,13,14,15]] (fun i own ys wx=>match i with|0=>own= .int .i64 (q5:Int)|1=>own= .int .i64 (l:Int)|2=>own= .int .i64 (layerN q5 l:Nat)|3=>own= .int .i64 y|4=>own= .bool true|5=>own= .bool true|6=>own= .slice (some ⟨b2,o2,none⟩) k c2|7=>own= .int .i64 (q5:Int)|8=>own= .pointer (some ⟨b2,o2+q5*5,none⟩)|9=>own= .agg #[.int .i64 z.w,.int .i64 z.h,.bool z.i,.int .i64 z.q,.slice s2 z.n d2]|10=>own= .slice (some ⟨b1,o1,none⟩) k c1|11=>own= .int .i64 (q5:Int)|12=>own= .pointer (some ⟨b1,o1+q5*5,none⟩)|13=>own= .agg #[.int .i64 z.w,.int .i64 z.h,.bool z.i,.int .i64 z.q,.slice s1 z.n d1]|14=>own= .bool true|15=>own= .bool false|16=>own= .bool false|_=>True) (fun kx wx=>Ext wr wx) (by kernel_rfl) (by kernel_rfl) (by kernel_rfl) ?g0_r1 ?gop_r1 ?gend_r1
     case g0_r1=>exact Ext.drewN _ 1
     case gop_r1 =>
      refine⟨?o0,?o1,?o2,?o3,?o4,?o5,?_,?_,?o8,?o9,?_,?_,?o12,?o13,?o14,?o15,?o16,trivial⟩ <;> (intro kx xs wx hk hG hD hI Qo Kx hK hQo;simp only[patchS,Nat.reduceAdd,Nat.reduceEqDiff,↓reduceIte]at hQo⊢)
      case o0 =>
       clear hD hI;go_wp2;exact hK.out _ _ ⟨rfl,hG,kkp⟩
      case o1 =>
       clear hD hI;go_wp2;exact hK.out _ _ ⟨rfl,hG,kkp⟩
      case o2 =>
       rw[ddq (hD 0 rfl),ddq (hD 1 rfl)]at hQo⊢;clear hD hI;go_wp2_with fail
       refine(impl_LayerOf_yes q5 l _ (T5.ext hG) (by omega) l1 l2).mono ?_
       rintro e wz ⟨rfl,rfl⟩
       go_wp2;exact hK.out _ _ ⟨rfl,hG,kkp⟩
      case o3 =>
       clear hD hI;go_wp2;exact hK.out _ _ ⟨rfl,hG,kkp⟩
      case o4 =>
       rw[ddq (hD 2 rfl),ddq (hD 3 rfl)]at hQo⊢;clear hD hI;go_wp2;exact hK.out _ _ ⟨rfl,hG,kkp⟩
      case o5 =>
       rw[ddq (hD 4 rfl)]at hQo⊢;clear hD hI;go_wp2;exact hK.out _ _ ⟨rfl,hG,kkp⟩
      case o8 =>
       rw[ddq (hD 6 rfl),ddq (hD 7 rfl),ddq (hD 5 rfl)]at hQo⊢;clear hD hI;go_wp2;exact hK.out _ _ ⟨rfl,hG,kkp⟩
      case o9 =>
       rw[ddq (hD 8 rfl),ddq (hD 5 rfl)]at hQo⊢;clear hD hI;have k0:=cell_ext hG v0;have k1:=cell_ext hG v1;have k2:=cell_ext hG v2;have k3:=cell_ext hG v3;have k4:=cell_ext hG v4;go_wp2;exact hK.out _ _ ⟨rfl,hG,kkp⟩
      case o12 =>
       rw[ddq (hD 10 rfl),ddq (hD 11 rfl),ddq (hD 5 rfl)]at hQo⊢;clear hD hI;go_wp2;exact hK.out _ _ ⟨rfl,hG,kkp⟩
      case o13 =>
       rw[ddq (hD 12 rfl),ddq (hD 5 rfl)]at hQo⊢;clear hD hI;have k0:=cell_ext hG u0;have k1:=cell_ext hG u1;have k2:=cell_ext hG u2;have k3:=cell_ext hG u3;have k4:=cell_ext hG u4;go_wp2;exact hK.out _ _ ⟨rfl,hG,kkp⟩
      case o14 =>
       rw[ddq (hD 9 rfl),ddq (hD 13 rfl),ddq (hD 5 rfl)]at hQo⊢;clear hD hI;go_wp2_with fail
       refine(sameCoded_same z s2 s1 d2 d1 _ (by omega) (v5.ext hG) (u5.ext hG)).mono ?_
       rintro e wz ⟨rfl,ez⟩
       go_wp2;exact hK.out _ _ ⟨rfl,hG.trans ez,fun q5 _ _ _ own ys h=>Hext.out q5 own ys _ _ ez h⟩
      case o15 =>
       rw[ddq (hD 14 rfl),ddq (hD 5 rfl)]at hQo⊢;clear hD hI;go_wp2;exact hK.out _ _ ⟨rfl,hG,kkp⟩
      case o16 =>
       rw[ddq (hD 5 rfl),ddq (hD 15 rfl)]at hQo⊢;clear hD hI;go_wp2;exact hK.out _ _ ⟨rfl,hG,kkp⟩
      all_goals
       rw[ddq (hD 5 rfl)]at hQo⊢;clear hD hI;go_wp2;exact hK.out _ _ ⟨rfl,hG,kkp⟩
     clear Hext;intro xs wx hV hG;have d16:_=_:=hV 16 (by decide);clear hV;simp only[patchS,Nat.reduceAdd,Nat.reduceEqDiff,↓reduceIte];generalize xs 0=y0,xs 1=y1,xs 2=y2,xs 3=y3,xs 4=y4,xs 5=y5,xs 6=y6,xs 7=y7,xs 8=y8,xs 9=y9,xs 10=y10,xs 11=y11,xs 12=y12,xs 13=y13,xs 14=y14,xs 15=y15,xs 16=y16 at *
     replace hG:Ext wr wx:=hG
     subst d16;have HE:=Lib.hid (e5.trans hG);clear hG u0 u1 u2 u3 u4 u5 v0 v1 v2 v3 v4 v5;go_wp2;go_roundw
     case rel=>exact⟨q5+1,by omega,by go_num,HE.out⟩
     case measure=>simp[intOf];omega
    ·have hdc:decide (((layerN q5 l:Nat):Int)≤y)=false:=by simpa using hc
     clear u0 u1 u2 u3 u4 u5 u6 v0 v1 v2 v3 v4 v5 v6 hc;go_upto_region 12 with fail
     refine wp_region_inv2 (by kernel_rfl) [(46,0),(47,1),(48,2),(49,3),(50,4),(51,5),(52,6),(53,7),(54,8),(55,9),(56,10),(57,11),(58,12),(59,13),(60,14),(61,15),(62,16)] [[],[],[0,1],[],[0,1,2,3],[0,1,2,3,4],[0,1,2,3,4,5],[0,1,2,3,4,5],[0,1,2,3,4,5,6,7],[0,1,2,3,4,5,6,7,8],[0,1,2,3,4,5],[0,1,2,3,4,5],[0,1,2,3,4,5,10,11],[0,1,2,3,4,5,10,11,12],[0,1,2,3,4,5,6,7,8,9,10,11,12,13],[0,1,2,3,4,5,6,7,8,9,10,11,12,13,14],[0,1,2,3,4,5,6,7,8,9,10,11,12,13,14,15]] (fun i own ys wx=>match i with|0=>own= .int .i64 (q5:Int)|1=>own= .int .i64 (l:Int)|2=>own= .int .i64 (layerN q5 l:Nat)|3=>own= .int .i64 y|4=>own= .bool false|5=>own= .bool false|6=>own=undef|7=>own=undef|8=>own=undef|9=>own=undef|10=>own=undef|11=>own=undef|12=>own=undef|13=>own=undef|14=>own=undef|15=>own=undef|16=>own= .bool false|_=>True) (fun kx wx=>Ext wr wx) (by kernel_rfl) (by kernel_rfl) (by kernel_rfl) ?g0_r2 ?gop_r2 ?gend_r2
     case g0_r2=>exact Ext.drewN _ 1
     case gop_r2 =>
      refine⟨?o0,?o1,?o2,?o3,?o4,?o5,?_,?_,?o8,?o9,?_,?_,?o12,?o13,?o14,?o15,?o16,trivial⟩ <;> (intro kx xs wx hk hG hD hI Qo Kx hK hQo;simp only[patchS,Nat.reduceAdd,Nat.reduceEqDiff,↓reduceIte]at hQo⊢)
      case o0 =>
       clear hD hI;go_wp2;exact hK.out _ _ ⟨rfl,hG,kkp⟩
      case o1 =>
       clear hD hI;go_wp2;exact hK.out _ _ ⟨rfl,hG,kkp⟩
      case o2 =>
       rw[ddq (hD 0 rfl),ddq (hD 1 rfl)]at hQo⊢;clear hD hI;go_wp2_with fail
       refine(impl_LayerOf_yes q5 l _ (T5.ext hG) (by omega) l1 l2).mono ?_
       rintro e wz ⟨rfl,rfl⟩
       go_wp2;exact hK.out _ _ ⟨rfl,hG,kkp⟩
      case o3 =>
       clear hD hI;go_wp2;exact hK.out _ _ ⟨rfl,hG,kkp⟩
      case o4 =>
       rw[ddq (hD 2 rfl),ddq (hD 3 rfl)]at hQo⊢;clear hD hI;go_wp2;exact hK.out _ _ ⟨rfl,hG,kkp⟩
      case o5 =>
       rw[ddq (hD 4 rfl)]at hQo⊢;clear hD hI;go_wp2;exact hK.out _ _ ⟨rfl,hG,kkp⟩
      case o8 =>
       rw[ddq (hD 6 rfl),ddq (hD 7 rfl),ddq (hD 5 rfl)]at hQo⊢;clear hD hI;go_wp2;exact hK.out _ _ ⟨rfl,hG,kkp⟩
      case o9 =>
       rw[ddq (hD 8 rfl),ddq (hD 5 rfl)]at hQo⊢;clear hD hI;go_wp2;exact hK.out _ _ ⟨rfl,hG,kkp⟩
      case o12 =>
       rw[ddq (hD 10 rfl),ddq (hD 11 rfl),ddq (hD 5 rfl)]at hQo⊢;clear hD hI;go_wp2;exact hK.out _ _ ⟨rfl,hG,kkp⟩
      case o13 =>
       rw[ddq (hD 12 rfl),ddq (hD 5 rfl)]at hQo⊢;clear hD hI;go_wp2;exact hK.out _ _ ⟨rfl,hG,kkp⟩
      case o14 =>
       rw[ddq (hD 9 rfl),ddq (hD 13 rfl),ddq (hD 5 rfl)]at hQo⊢;clear hD hI;go_wp2;exact hK.out _ _ ⟨rfl,hG,kkp⟩
      case o15 =>
       rw[ddq (hD 14 rfl),ddq (hD 5 rfl)]at hQo⊢;clear hD hI;go_wp2;exact hK.out _ _ ⟨rfl,hG,kkp⟩
      case o16 =>
       rw[ddq (hD 5 rfl),ddq (hD 15 rfl)]at hQo⊢;clear hD hI;go_wp2;exact hK.out _ _ ⟨rfl,hG,kkp⟩
      all_goals
       rw[ddq (hD 5 rfl)]at hQo⊢;clear hD hI;go_wp2;exact hK.out _ _ ⟨rfl,hG,kkp⟩
     intro xs wx hV hG;have d16:_=_:=hV 16 (by decide);clear hV;simp only[patchS,Nat.reduceAdd,Nat.reduceEqDiff,↓reduceIte];generalize xs 0=y0,xs 1=y1,xs 2=y2,xs 3=y3,xs 4=y4,xs 5=y5,xs 6=y6,xs 7=y7,xs 8=y8,xs 9=y9,xs 10=y10,xs 11=y11,xs 12=y12,xs 13=y13,xs 14=y14,xs 15=y15,xs 16=y16 at *
     replace hG:Ext wr wx:=hG
     subst d16;have HE:=Lib.hid (e5.trans hG);clear hG;go_wp2;go_roundw
     case rel=>exact⟨q5+1,by omega,by go_num,HE.out⟩
     case measure=>simp[intOf];omega
   ·obtain rfl:q5=k:=by omega
    have E5:=E4.trans e5;clear F4 O4 T4 E4 e5;go_wp2_with fail
    refine(impl_DropLayers_yes a2 q5 c2 l y _ _ T5 (Hok.out.drop l y) O5 hk8 l1 l2).mono ?_
    rintro e w6 ⟨a6,c6,cs6,rfl,C6,e6⟩
    have R6:=C6.toCP.congr (fun j _=>dropR_idem x l y j);have E6:=E5.trans e6;have F6:=F5.ext e6;have O6:=O5.ext e6;have T6:=T5.ext e6;clear C6 e6 E5 F5 O5 T5;go_wp2_with fail
    refine(sameCodedList_same a6 a2 c6 c2 q5 _ _ (by omega) (HX.out.drop l y) R6 O6).mono ?_
    rintro e w7 ⟨rfl,e7⟩
    have E7:=E6.trans e7;have F7:=F6.ext e7;have T7:=T6.ext e7;clear e7 E6 F6 O6 T6 R6;go_wp2_with fail
    refine(impl_DropLayers_yes a1 q5 c1 l (l:Int) x _ T7 Hok.out F7 hk8 l1 l2).mono ?_
    rintro e w8 ⟨a8,c8,cs8,rfl,C8,e8⟩
    have R8:=C8.toCP.congr (fun j _=>dropR_all x l j);have E8:=E7.trans e8;have F8:=F7.ext e8;clear C8 e8 E7 F7 T7;go_wp2_with fail
    refine(sameCodedList_same a8 a1 c8 c1 q5 _ _ (by omega) HX.out R8 F8).mono ?_
    rintro e w9 ⟨rfl,e9⟩
    have E9:=E8.trans e9;clear e9 E8 F8 R8;go_wp2;go_ret
    first|exact⟨rfl,E9⟩|exact⟨by simp,E9⟩
 ·obtain rfl:L=0:=by omega
  clear hl1 hL;go_wp2_with fail
  refine(impl_DropLayers_no a1 k c1 0 y _ (by omega)).mono ?_
  rintro e w2 ⟨rfl,rfl⟩
  go_wp2_with fail
  refine(spec_DropLayers_no a1 k c1 0 y _ (by omega)).mono ?_
  rintro e w3 ⟨rfl,e3⟩
  have E3:=E1.trans e3;go_wp2_with fail
  refine(sameCodedList_same none _ 0 0 0 x _ (by omega) (fun i hi=>by omega) (fun i hi=>by omega) (fun i hi=>by omega)).mono ?_
  rintro e w4 ⟨rfl,e4⟩
  have E4:=E3.trans e4;go_wp2_with fail
  refine(alive_any _).mono ?_
  rintro e w5 ⟨rfl,e5⟩
  have E5:=E4.trans e5;go_wp2;go_ret
  first|exact⟨rfl,E5⟩|exact⟨by simp,E5⟩
end Go.Proofs.YtmokncpppmchfaaDoor
