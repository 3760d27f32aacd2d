/- Drawing coded pictures: l20Coded. | Drawing lists of coded pictures: l20Stream, DrawDropLayers. | A new picture of one value; the law's 'alive'. | Coded pictures compared by the laws. | A slice, read: the reference's DecodeSlice answers. | Is a coded picture valid: the reference answers. -/
import Derived.Test.YtphfacfjhjcllaaQb6
import Derived.Deep.Cut
set_option linter.unusedVariables false
set_option linter.unusedSimpArgs false
set_option maxRecDepth 100000
set_option maxHeartbeats 16000000
namespace Go.Proofs.Ytphfacfjhjcllaa
open Go.RowKit
theorem RdP.grE {w w':World} {b P:Nat} {row:Option Nat} (h:RdP w b P) (g:w.grownBy w' row) (hr:∀ k,row=some k→b<k):RdP w' b P:=by
 obtain⟨q,hq1,hq2⟩:=h;exact⟨q,hq1,hq2.gr g hr⟩
theorem RdP.blk {w:World} {b P:Nat} (h:RdP w b P):∃ arr,w.heap[b]?=some (.cells arr 54 (0,0)):=by
 obtain⟨q,hq1,a,m,c,zs,h1,-⟩:=h;exact⟨_,h1⟩
theorem CRw.rd {w w':World} {lo k b P:Nat} {v:Value} {f:Nat→List Int} {cs:List Value} (h:CRw w lo v k f cs) (r:RdP w b P) (g:w.grownBy w' (some b)):CRw w' lo v k f cs:=by
 obtain⟨arr,hb⟩:=r.blk;exact h.gr g hb (by decide) (by decide)
theorem SQ.rd {w w':World} {a:Option Addr} {n b P:Nat} {f:Nat→List Int} (h:SQ w a n f) (r:RdP w b P) (g:w.grownBy w' (some b)):SQ w' a n f:=by
 obtain⟨arr,hb⟩:=r.blk;exact h.gr g hb (by decide) (by decide)
/-- What l20Coded answers. -/
def CdR (w:World) (b P:Nat) (e:Ending) (w':World):Prop :=
 ∃(x:Cd) (a:Option Addr) (c:Nat),e= .returned (.agg #[.int .i64 x.w,.int .i64 x.h,.bool x.i,.int .i64 x.q,.slice a x.n c])∧x.n≤3∧okF x.f x.n∧SQ w' a x.n x.f∧(x.n≤c∧c≤maxLen)∧RdP w' b P∧w.grownBy w' (some b)
theorem CdR.mk {w w1:World} {b P X m c:Nat} {x1 x2 x4:Int} {x3:Bool} {a:Option Addr} {f:Nat→List Int} (hn:m≤3) (hf:okF f m) (s:SQ w1 a m f) (hc:m≤c∧c≤maxLen) (r:RdP w1 b P) (g:w.grownBy w1 (some b)) (hX:X=w.heap.size) (hb:b<w.heap.size)
 (p:w1.heap[X]?=some (.cells #[.int .i64 0,.int .i64 0,.bool false,.int .i64 0,.slice none 0 0] 41 (0,0))) :
 CdR w b P (.returned (.agg #[.int .i64 x1,.int .i64 x2,.bool x3,.int .i64 x4,.slice a m c])) (((((w1.setCell ⟨X,0,none⟩ (.int .i64 x1)).setCell ⟨X,1,none⟩ (.int .i64 x2)).setCell ⟨X,2,none⟩ (.bool x3)).setCell ⟨X,3,none⟩ (.int .i64 x4)).setCell ⟨X,4,none⟩ (.slice a m c)):=by
 have G:=gs5 w1 X 0 1 2 3 4 (.int .i64 x1) (.int .i64 x2) (.bool x3) (.int .i64 x4) (.slice a m c);exact⟨⟨x1,x2,x3,x4,m,f⟩,a,c,rfl,hn,hf,s.gr G p (by decide) (by decide),hc,r.grE G (fun k hk=>by cases hk;omega),grown_any g G (fun k hk=>by cases hk;omega)⟩
theorem l20Coded_c (b P W H:Nat) (W8 H8:Int) (intra:Bool) (n:Int) (w:World) (h:RdP w b P) (hp:P<2^35) (hW:1≤W∧W≤3) (hH:1≤H∧H≤3) (hW8:W8=8*(W:Int)) (hH8:H8=8*(H:Int)) (hn0:0≤n) (hn:n≤1000000) :
 Calls Try.prog 31 #[.pointer (some ⟨b,0,none⟩),.int .i64 W8,.int .i64 H8,.bool intra,.int .i64 n] w (CdR w b (P+8000)):=by
 have hbw:b<w.heap.size:=h.lt;have hqW:W8/8=(W:Int):=by omega
 have hqH:H8/8=(H:Int):=by omega
 clear hW8 hH8;obtain⟨X,hX⟩:∃ X,X=w.heap.size:=⟨_,rfl⟩;have p0:=blk_new w (.cells #[.int .i64 0,.int .i64 0,.bool false,.int .i64 0,.slice none 0 0] 41);have E0:=Ext.alloc w (.cells #[.int .i64 0,.int .i64 0,.bool false,.int .i64 0,.slice none 0 0] 41);rw[←hX]at p0;go_enter Try.func31,Try.ntmps31
 go_wp2_with fail
 refine(l20Q_c b _ 0 _ (h.ext E0) (by omega) (by omega) (by omega)).mono ?_
 rintro e w1 ⟨q,rfl,qa,qb,r1,g1⟩
 have p1:=gr_blk g1 p0 (by omega);have G1:=grown_trans (ext_gr E0) g1;have s1:=G1.size;have hs1:X<w1.heap.size:=lt_of_block p1;clear p0 E0 g1;obtain⟨C,hC⟩:∃ C,C=w1.heap.size:=⟨_,rfl⟩;have c2:=blk_new w1 (.cells #[.int .i64 W8,.int .i64 H8,.bool intra,.int .i64 q,.slice none 0 0] 41);have E2:=Ext.alloc w1 (.cells #[.int .i64 W8,.int .i64 H8,.bool intra,.int .i64 q,.slice none 0 0] 41);have hs2:C+1≤(w1.alloc (.cells #[.int .i64 W8,.int .i64 H8,.bool intra,.int .i64 q,.slice none 0 0] 41)).heap.size:=by simp[hC]
 have x2:=E2.blk p1;have r2:=r1.ext E2;have g2:=grown_ext G1 E2;rw[←hC]at c2;have Hst:=Lib.hid (⟨c2,x2,r2,g2,hs2⟩:_∧_∧_∧_∧_);clear c2 x2 r2 g2 hs2 E2 p1 r1 G1;go_wp2_with fail
 rw[←hC,←hX];have hXC:X<C:=by omega
 have hbX:b<X:=by omega
 have hXw:w.heap.size≤X:=by omega
 have HX:=Lib.hid hX;clear hC hX;go_loopw [12] (fun ix wr=>∃(k:Nat) (f:Nat→List Int) (vl:Value) (cs:List Value),k≤H∧ix= .int .i64 (k:Nat)∧w.grownBy wr (some b)∧RdP wr b (P+4+k*1800)∧wr.heap[C]?=some (.cells #[.int .i64 W8,.int .i64 H8,.bool intra,.int .i64 q,vl] 41 (0,0))∧wr.heap[X]?=some (.cells #[.int .i64 0,.int .i64 0,.bool false,.int .i64 0,.slice none 0 0] 41 (0,0))∧CRw wr (C+1) vl k f cs∧okF f k∧C+1≤wr.heap.size) (fun ix _=>H-(intOf ix).toNat)
 case atStart =>
  obtain⟨c2,x2,r2,g2,hs2⟩:=Hst.out;exact⟨0,fun _ => [],_,[],by omega,rfl,g2,r2.mono (by omega),c2,x2,⟨World.ownsRow_nil _ _ _ _,fun i hi=>by omega⟩,fun i hi=>by omega,hs2⟩
 case round =>
  clear Hst;obtain⟨k,f,vl,cs,hk,rfl,g2,r2,c2,x2,S2,ok2,hs2⟩:=hrel;obtain⟨al,cl,rfl⟩:=owns_form S2.1;obtain⟨-,m0,m1,m2,m3,m4⟩:=bx5 c2
  by_cases hlt:k<H
  ·obtain⟨HI,hHI⟩:∃ HI,HI=wr.heap.size:=⟨_,rfl⟩;have hHI2:HI≤wr.heap.size:=by omega
   have hCHI:C+1≤HI:=by omega
   have hvl:∀ q,(Value.slice al k cl).ownBlock=some q→q<HI:=fun q hq=>by rw[hHI];exact(S2.1.lt q hq).2
   obtain⟨P0,hP0⟩:∃ P0,P0=P+4+k*1800:=⟨_,rfl⟩;obtain⟨P1,hP1⟩:∃ P1,P1=P+4+(k+1)*1800:=⟨_,rfl⟩;have hP01:P0+1800≤P1:=by omega
   have hP02:P0<2^36:=by omega
   rw[←hP0]at r2;have HP1:=Lib.hid hP1;have Hok2:=Lib.hid ok2;clear hHI hP0 hP1 ok2;go_upto_region 5 with fail
   try simp only[hqH,hqW]
   have hext:Stab (fun wa wb=>Ext wa wb) (fun i own ys wx=>match i with|0=>own= .pointer (some ⟨C,4,none⟩)|1=>own= .slice al k cl|2=>own= .pointer (some ⟨b,0,none⟩)|3=>own= .int .i64 W8|4=>own= .int .i64 (W:Int)|5=>own= .bool intra|6=>∃(a:Option Addr) (c:Nat) (L:List Int),own= .slice a W c∧wx.ownsRow HI 84 71 (.slice a W c) W (L.map (Value.int .i64))|7=>own= .bool intra|8=>∃(zs:List Int) (a:Option Addr) (c:Nat),own= .slice a zs.length c∧wx.ownsRow HI 5 1 (.slice a zs.length c) zs.length (zs.map (Value.int .u8))∧zs.length≤60004∧bytL zs|9=>∃(p:Nat) (zs:List Int) (a1:Option Addr) (c1:Nat),own= .slice (some ⟨p,0,none⟩) 1 1∧wx.ownsRow HI 22 1 (.slice (some ⟨p,0,none⟩) 1 1) 1 [.slice a1 zs.length c1]∧BA wx a1 c1 zs∧zs.length≤60004∧bytL zs|10=>∃(zs:List Int) (an:Option Addr) (cc:Nat) (cn:List Value),own= .slice an (k+1) cc∧CRw wx (C+1) (.slice an (k+1) cc) (k+1) (fx f k zs) cn∧zs.length≤60004∧bytL zs|11=>own= .pointer (some ⟨C,4,none⟩)|12=>∃(zs:List Int) (an:Option Addr) (cc:Nat) (cn:List Value),wx.heap[C]?=some (.cells #[.int .i64 W8,.int .i64 H8,.bool intra,.int .i64 q,.slice an (k+1) cc] 41 (0,0))∧CRw wx (C+1) (.slice an (k+1) cc) (k+1) (fx f k zs) cn∧zs.length≤60004∧bytL zs|_=>True):=by
    intro i own ys wa wb e h
    match i,h with
    | 0,h|1,h|2,h|3,h|4,h|5,h|7,h|11,h=>exact h
    | 6,h=>obtain⟨a9,c9,L9,h1,h2⟩:=h;exact⟨a9,c9,L9,h1,owns_ext h2 e⟩
    | 8,h=>obtain⟨x9,a9,c9,h1,h2,h3⟩:=h;exact⟨x9,a9,c9,h1,owns_ext h2 e,h3⟩
    | 9,h=>obtain⟨p9,x9,a9,c9,h1,h2,h3,h4⟩:=h;exact⟨p9,x9,a9,c9,h1,owns_ext h2 e,h3.ext e,h4⟩
    | 10,h=>obtain⟨x9,a9,d9,c9,h1,h2,h3⟩:=h;exact⟨x9,a9,d9,c9,h1,h2.ext e,h3⟩
    | 12,h=>obtain⟨x9,a9,d9,c9,h1,h2,h3⟩:=h;exact⟨x9,a9,d9,c9,e.blk h1,h2.ext e,h3⟩
    | _+13,_=>trivial
   have Hext:=Lib.hid hext;clear hext;refine wp_region_invL (by kernel_rfl) [(25,0),(26,1),(27,2),(28,3),(29,4),(30,5),(31,6),(32,7),(33,8),(34,9),(35,10),(36,11)] [[],[0],[],[],[3],[],[2,3,4,5],[],[2,3,4,5,6,7],[2,3,4,5,6,7,8],[0,1,2,3,4,5,6,7,8,9],[0,1,2,3,4,5,6,7,8,9,10],[0,1,2,3,4,5,6,7,8,9,10,11]] (fun i own ys wx=>match i with|0=>own= .pointer (some ⟨C,4,none⟩)|1=>own= .slice al k cl|2=>own= .pointer (some ⟨b,0,none⟩)|3=>own= .int .i64 W8|4=>own= .int .i64 (W:Int)|5=>own= .bool intra|6=>∃(a:Option Addr) (c:Nat) (L:List Int),own= .slice a W c∧wx.ownsRow HI 84 71 (.slice a W c) W (L.map (Value.int .i64))|7=>own= .bool intra|8=>∃(zs:List Int) (a:Option Addr) (c:Nat),own= .slice a zs.length c∧wx.ownsRow HI 5 1 (.slice a zs.length c) zs.length (zs.map (Value.int .u8))∧zs.length≤60004∧bytL zs|9=>∃(p:Nat) (zs:List Int) (a1:Option Addr) (c1:Nat),own= .slice (some ⟨p,0,none⟩) 1 1∧wx.ownsRow HI 22 1 (.slice (some ⟨p,0,none⟩) 1 1) 1 [.slice a1 zs.length c1]∧BA wx a1 c1 zs∧zs.length≤60004∧bytL zs|10=>∃(zs:List Int) (an:Option Addr) (cc:Nat) (cn:List Value),own= .slice an (k+1) cc∧CRw wx (C+1) (.slice an (k+1) cc) (k+1) (fx f k zs) cn∧zs.length≤60004∧bytL zs|11=>own= .pointer (some ⟨C,4,none⟩)|12=>∃(zs:List Int) (an:Option Addr) (cc:Nat) (cn:List Value),wx.heap[C]?=some (.cells #[.int .i64 W8,.int .i64 H8,.bool intra,.int .i64 q,.slice an (k+1) cc] 41 (0,0))∧CRw wx (C+1) (.slice an (k+1) cc) (k+1) (fx f k zs) cn∧zs.length≤60004∧bytL zs|_=>True) (fun Lx wx=>(w.grownBy wx (some b)∧HI≤wx.heap.size)∧(RdP wx b P1∧(Lx 6=false→RdP wx b P0))∧(∃ z,wx.heap[C]?=some (.cells #[.int .i64 W8,.int .i64 H8,.bool intra,.int .i64 q,z] 41 (0,0))∧(Lx 12=false→z= .slice al k cl))∧wx.heap[X]?=some (.cells #[.int .i64 0,.int .i64 0,.bool false,.int .i64 0,.slice none 0 0] 41 (0,0))∧CRw wx (C+1) (.slice al k cl) k f cs) (by kernel_rfl) (by kernel_rfl) (by kernel_rfl) ?g0_r1 ?gop_r1 ?gend_r1
   case g0_r1=>exact⟨⟨grown_drew g2,hHI2⟩,⟨(r2.mono (by omega)).drew,fun _=>r2.drew⟩,⟨_,c2,fun _=>rfl⟩,x2,S2.ext (Ext.drewN _ 1)⟩
   case gop_r1 =>
    refine⟨?_,?o1,?_,?_,?o4,?_,?o6,?_,?o8,?o9,?o10,?_,?o12,trivial⟩ <;> (intro Lx xs wx hG hl ha hb hD hI Qo Kx hK hQo;simp only[patchS,Nat.reduceAdd,Nat.reduceEqDiff,↓reduceIte]at hQo⊢)
    case o1 =>
     have l12:Lx 12=false:=hb 12 rfl;clear hl ha hb;rw[ddq (hD 0 rfl)]at hQo⊢;clear hD hI;obtain⟨z,g1,g2⟩:=hG.2.2.1;obtain rfl:=g2 l12;obtain⟨-,k0,k1,k2,k3,k4⟩:=bx5 g1;go_wp2;exact hK.out _ _ ⟨rfl,hG,kkp⟩
    case o4 =>
     clear hl ha hb;rw[ddq (hD 3 rfl)]at hQo⊢;clear hD hI;go_wp2;exact hK.out _ _ ⟨rfl,hG,kkp⟩
    case o6 =>
     have l6:Lx 6=false:=hl;clear hl ha hb;rw[ddq (hD 2 rfl),ddq (hD 4 rfl),ddq (hD 5 rfl)]at hQo⊢;clear hD hI;go_wp2_with fail
     refine(l20Macros_c b _ W intra _ (hG.2.1.2 l6) hP02 (by omega)).mono ?_
     rintro e wz ⟨az,cz,Lz,rfl,oz,rz,gz⟩
     go_wp2;have hst:∀(wy:World),True→Stbn 13 6 [[],[0],[],[],[3],[],[2,3,4,5],[],[2,3,4,5,6,7],[2,3,4,5,6,7,8],[0,1,2,3,4,5,6,7,8,9],[0,1,2,3,4,5,6,7,8,9,10],[0,1,2,3,4,5,6,7,8,9,10,11]] (fun i own ys wx=>match i with|0=>own= .pointer (some ⟨C,4,none⟩)|1=>own= .slice al k cl|2=>own= .pointer (some ⟨b,0,none⟩)|3=>own= .int .i64 W8|4=>own= .int .i64 (W:Int)|5=>own= .bool intra|6=>∃(a:Option Addr) (c:Nat) (L:List Int),own= .slice a W c∧wx.ownsRow HI 84 71 (.slice a W c) W (L.map (Value.int .i64))|7=>own= .bool intra|8=>∃(zs:List Int) (a:Option Addr) (c:Nat),own= .slice a zs.length c∧wx.ownsRow HI 5 1 (.slice a zs.length c) zs.length (zs.map (Value.int .u8))∧zs.length≤60004∧bytL zs|9=>∃(p:Nat) (zs:List Int) (a1:Option Addr) (c1:Nat),own= .slice (some ⟨p,0,none⟩) 1 1∧wx.ownsRow HI 22 1 (.slice (some ⟨p,0,none⟩) 1 1) 1 [.slice a1 zs.length c1]∧BA wx a1 c1 zs∧zs.length≤60004∧bytL zs|10=>∃(zs:List Int) (an:Option Addr) (cc:Nat) (cn:List Value),own= .slice an (k+1) cc∧CRw wx (C+1) (.slice an (k+1) cc) (k+1) (fx f k zs) cn∧zs.length≤60004∧bytL zs|11=>own= .pointer (some ⟨C,4,none⟩)|12=>∃(zs:List Int) (an:Option Addr) (cc:Nat) (cn:List Value),wx.heap[C]?=some (.cells #[.int .i64 W8,.int .i64 H8,.bool intra,.int .i64 q,.slice an (k+1) cc] 41 (0,0))∧CRw wx (C+1) (.slice an (k+1) cc) (k+1) (fx f k zs) cn∧zs.length≤60004∧bytL zs|_=>True) wx wy:=by
      intro wy hy ii hii hne hc own ys h
      match ii,h with
      | 0,h|1,h|2,h|3,h|4,h|5,h|7,h=>exact h
      | 6,h=>exact absurd rfl hne
      | 8,h|9,h|10,h|11,h|12,h=>exact absurd hc (by decide)
      | _+13,_=>trivial
     obtain⟨⟨g1,g2⟩,⟨g3,g4⟩,⟨z,g5,g6⟩,g7,g8⟩:=hG;exact hK.out _ _ ⟨⟨az,cz,Lz,rfl,owns_mono oz g2⟩,⟨⟨grown_trans g1 gz,Nat.le_trans g2 gz.size⟩,⟨rz.mono (by omega),fun x=>Bool.noConfusion x⟩,⟨z,gr_blk gz g5 (by omega),g6⟩,gr_blk gz g7 (by omega),g8.rd g3 gz⟩,hst _ trivial⟩
    case o8 =>
     clear hl ha hb;rw[ddq (hD 7 rfl)]at hQo⊢;have d6:∃(a:Option Addr) (c:Nat) (L:List Int),(xs 6) = .slice a W c∧wx.ownsRow HI 84 71 (.slice a W c) W (L.map (Value.int .i64)):=hD 6 rfl;clear hD hI;generalize xs 6=y6 at *;obtain⟨a6,c6,L6,rfl,o6⟩:=d6;go_wp2_with fail
     refine(spec_EncodeSlice_any a6 W c6 _ intra _ (MR.of_own o6) (by omega)).mono ?_
     rintro e wz ⟨az,cz,rfl,oz,ez⟩
     go_wp2;obtain⟨⟨g1,g2⟩,⟨g3,g4⟩,⟨z,g5,g6⟩,g7,g8⟩:=hG;exact hK.out _ _ ⟨⟨_,az,cz,rfl,owns_mono oz g2,slcL_len _ _ _,slcL_byt _ _ _⟩,⟨⟨grown_ext g1 ez,Nat.le_trans g2 ez.size⟩,⟨g3.ext ez,fun x=>(g4 x).ext ez⟩,⟨z,ez.blk g5,g6⟩,ez.blk g7,g8.ext ez⟩,fun i _ _ _ own ys h=>Hext.out i own ys _ _ ez h⟩
    case o9 =>
     clear hl ha hb;have d8:∃(zs:List Int) (a:Option Addr) (c:Nat),(xs 8) = .slice a zs.length c∧wx.ownsRow HI 5 1 (.slice a zs.length c) zs.length (zs.map (Value.int .u8))∧zs.length≤60004∧bytL zs:=hD 8 rfl;clear hD hI;generalize xs 8=y8 at *;obtain⟨x8,a8,c8,rfl,o8,l8,b8⟩:=d8;have e8:=Ext.alloc wx (.cells #[.slice a8 x8.length c8] 22);have o9:=World.ownsRow_lit (base:=HI) (e:=22) (size:=1) wx #[.slice a8 x8.length c8] 1 hG.1.2 (by unfold maxLen;omega) rfl;go_wp2;obtain⟨⟨g1,g2⟩,⟨g3,g4⟩,⟨z,g5,g6⟩,g7,g8⟩:=hG;exact hK.out _ _ ⟨⟨_,x8,a8,c8,rfl,o9,(BA.of_own o8).ext e8,l8,b8⟩,⟨⟨grown_ext g1 e8,Nat.le_trans g2 e8.size⟩,⟨g3.ext e8,fun x=>(g4 x).ext e8⟩,⟨z,e8.blk g5,g6⟩,e8.blk g7,g8.ext e8⟩,fun i _ _ _ own ys h=>Hext.out i own ys _ _ e8 h⟩
    case o10 =>
     clear hl ha hb;rw[ddq (hD 1 rfl)]at hQo⊢;have d9:∃(p:Nat) (zs:List Int) (a1:Option Addr) (c1:Nat),(xs 9) = .slice (some ⟨p,0,none⟩) 1 1∧wx.ownsRow HI 22 1 (.slice (some ⟨p,0,none⟩) 1 1) 1 [.slice a1 zs.length c1]∧BA wx a1 c1 zs∧zs.length≤60004∧bytL zs:=hD 9 rfl;clear hD hI;generalize xs 9=y9 at *;obtain⟨p9,x9,a9,c9,rfl,q9,d9,l9,b9⟩:=d9;have o9:=hG.2.2.2.2.1;refine wpList_appk _ rfl o9 (Nat.le_trans hCHI hG.1.2) _ _ _ rfl (.slice none 0 0) 24 Try.underlying39 info_ByteS rfl (by decide) rfl ⟨p9,0,none⟩ 1 1 _ rfl rfl (q9.cells rfl) (by intro u hu;simp at hu;subst hu;rfl) (by omega) (by omega) ?_;intro v14 w14 own14 gr14 keep14;obtain⟨a14,c14,rfl⟩:=owns_form own14;have hst:∀(wy:World),(∀ e' s' own n' zs',wx.ownsRow HI e' s' own n' zs'→wy.ownsRow HI e' s' own n' zs')∧(∀ a c zs,BA wx a c zs→BA wy a c zs)→Stbn 13 10 [[],[0],[],[],[3],[],[2,3,4,5],[],[2,3,4,5,6,7],[2,3,4,5,6,7,8],[0,1,2,3,4,5,6,7,8,9],[0,1,2,3,4,5,6,7,8,9,10],[0,1,2,3,4,5,6,7,8,9,10,11]] (fun i own ys wx=>match i with|0=>own= .pointer (some ⟨C,4,none⟩)|1=>own= .slice al k cl|2=>own= .pointer (some ⟨b,0,none⟩)|3=>own= .int .i64 W8|4=>own= .int .i64 (W:Int)|5=>own= .bool intra|6=>∃(a:Option Addr) (c:Nat) (L:List Int),own= .slice a W c∧wx.ownsRow HI 84 71 (.slice a W c) W (L.map (Value.int .i64))|7=>own= .bool intra|8=>∃(zs:List Int) (a:Option Addr) (c:Nat),own= .slice a zs.length c∧wx.ownsRow HI 5 1 (.slice a zs.length c) zs.length (zs.map (Value.int .u8))∧zs.length≤60004∧bytL zs|9=>∃(p:Nat) (zs:List Int) (a1:Option Addr) (c1:Nat),own= .slice (some ⟨p,0,none⟩) 1 1∧wx.ownsRow HI 22 1 (.slice (some ⟨p,0,none⟩) 1 1) 1 [.slice a1 zs.length c1]∧BA wx a1 c1 zs∧zs.length≤60004∧bytL zs|10=>∃(zs:List Int) (an:Option Addr) (cc:Nat) (cn:List Value),own= .slice an (k+1) cc∧CRw wx (C+1) (.slice an (k+1) cc) (k+1) (fx f k zs) cn∧zs.length≤60004∧bytL zs|11=>own= .pointer (some ⟨C,4,none⟩)|12=>∃(zs:List Int) (an:Option Addr) (cc:Nat) (cn:List Value),wx.heap[C]?=some (.cells #[.int .i64 W8,.int .i64 H8,.bool intra,.int .i64 q,.slice an (k+1) cc] 41 (0,0))∧CRw wx (C+1) (.slice an (k+1) cc) (k+1) (fx f k zs) cn∧zs.length≤60004∧bytL zs|_=>True) wx wy:=by
      intro wy hy ii hii hne hc own ys h
      match ii,h with
      | 0,h|1,h|2,h|3,h|4,h|5,h|7,h=>exact h
      | 6,h=>obtain⟨a9,c9,L9,h1,h2⟩:=h;exact⟨a9,c9,L9,h1,hy.1 _ _ _ _ _ h2⟩
      | 8,h=>obtain⟨x9,a9,c9,h1,h2,h3⟩:=h;exact⟨x9,a9,c9,h1,hy.1 _ _ _ _ _ h2,h3⟩
      | 9,h=>obtain⟨p9,x9,a9,c9,h1,h2,h3,h4⟩:=h;exact⟨p9,x9,a9,c9,h1,hy.1 _ _ _ _ _ h2,hy.2 _ _ _ h3,h4⟩
      | 10,h=>exact absurd rfl hne
      | 11,h|12,h=>exact absurd hc (by decide)
      | _+13,_=>trivial
     obtain⟨⟨g1,g2⟩,⟨g3,g4⟩,⟨z,g5,g6⟩,g7,g8⟩:=hG;have hge:=owns_ge o9;have hba:∀ a c zs,BA wx a c zs→BA w14 a c zs:=fun _ _ _ h=>h.own o9 (by decide) gr14
     have hcr:CRw w14 (C+1) (.slice al k cl) k f cs:=⟨keep14 _ _ _ _ (Nat.le_refl _) o9,fun i hi=>by obtain⟨a,c,h1,h2⟩:=g8.2 i hi;exact⟨a,c,h1,hba _ _ _ h2⟩⟩;have hr:∀ P,RdP wx b P→RdP w14 b P:=fun _ h=>h.grE gr14 (fun q hq=>by have:=hge q hq;omega)
     exact hQo _ _ (hK.out _ _ ⟨⟨x9,_,_,_,rfl,g8.app own14 gr14 d9,l9,b9⟩,⟨⟨grown_any g1 gr14 (fun q hq=>by have:=hge q hq;omega),Nat.le_trans g2 gr14.size⟩,⟨hr _ g3,fun x=>hr _ (g4 x)⟩,⟨z,blk_gr g5 gr14 (own_ne_blk' o9 g5 (by decide)),g6⟩,blk_gr g7 gr14 (own_ne_blk' o9 g7 (by decide)),hcr⟩,hst _ ⟨fun _ _ _ _ _ h=>own_hi h gr14 hvl,hba⟩⟩)
    case o12 =>
     clear hl ha hb;rw[ddq (hD 11 rfl)]at hQo⊢;have d10:∃(zs:List Int) (an:Option Addr) (cc:Nat) (cn:List Value),(xs 10) = .slice an (k+1) cc∧CRw wx (C+1) (.slice an (k+1) cc) (k+1) (fx f k zs) cn∧zs.length≤60004∧bytL zs:=hD 10 rfl;clear hD hI;generalize xs 10=y10 at *;obtain⟨x10,a10,d10,c10,rfl,s10,l10,b10⟩:=d10;obtain⟨⟨g1,g2⟩,⟨g3,g4⟩,⟨z,g5,g6⟩,g7,g8⟩:=hG;obtain⟨-,k0,k1,k2,k3,k4⟩:=bx5 g5;obtain⟨f0,f1,f2,f3,f4⟩:=fz5 g5;go_wp2;have hst:∀(wy:World),(∀ e' s' own n' zs',wx.ownsRow HI e' s' own n' zs'→wy.ownsRow HI e' s' own n' zs')∧(∀ a c zs,BA wx a c zs→BA wy a c zs)∧(∀ v n f cs,CRw wx (C+1) v n f cs→CRw wy (C+1) v n f cs)→Stbn 13 12 [[],[0],[],[],[3],[],[2,3,4,5],[],[2,3,4,5,6,7],[2,3,4,5,6,7,8],[0,1,2,3,4,5,6,7,8,9],[0,1,2,3,4,5,6,7,8,9,10],[0,1,2,3,4,5,6,7,8,9,10,11]] (fun i own ys wx=>match i with|0=>own= .pointer (some ⟨C,4,none⟩)|1=>own= .slice al k cl|2=>own= .pointer (some ⟨b,0,none⟩)|3=>own= .int .i64 W8|4=>own= .int .i64 (W:Int)|5=>own= .bool intra|6=>∃(a:Option Addr) (c:Nat) (L:List Int),own= .slice a W c∧wx.ownsRow HI 84 71 (.slice a W c) W (L.map (Value.int .i64))|7=>own= .bool intra|8=>∃(zs:List Int) (a:Option Addr) (c:Nat),own= .slice a zs.length c∧wx.ownsRow HI 5 1 (.slice a zs.length c) zs.length (zs.map (Value.int .u8))∧zs.length≤60004∧bytL zs|9=>∃(p:Nat) (zs:List Int) (a1:Option Addr) (c1:Nat),own= .slice (some ⟨p,0,none⟩) 1 1∧wx.ownsRow HI 22 1 (.slice (some ⟨p,0,none⟩) 1 1) 1 [.slice a1 zs.length c1]∧BA wx a1 c1 zs∧zs.length≤60004∧bytL zs|10=>∃(zs:List Int) (an:Option Addr) (cc:Nat) (cn:List Value),own= .slice an (k+1) cc∧CRw wx (C+1) (.slice an (k+1) cc) (k+1) (fx f k zs) cn∧zs.length≤60004∧bytL zs|11=>own= .pointer (some ⟨C,4,none⟩)|12=>∃(zs:List Int) (an:Option Addr) (cc:Nat) (cn:List Value),wx.heap[C]?=some (.cells #[.int .i64 W8,.int .i64 H8,.bool intra,.int .i64 q,.slice an (k+1) cc] 41 (0,0))∧CRw wx (C+1) (.slice an (k+1) cc) (k+1) (fx f k zs) cn∧zs.length≤60004∧bytL zs|_=>True) wx wy:=by
      intro wy hy ii hii hne hc own ys h
      match ii,h with
      | 0,h|1,h|2,h|3,h|4,h|5,h|7,h|11,h=>exact h
      | 6,h=>obtain⟨a9,c9,L9,h1,h2⟩:=h;exact⟨a9,c9,L9,h1,hy.1 _ _ _ _ _ h2⟩
      | 8,h=>obtain⟨x9,a9,c9,h1,h2,h3⟩:=h;exact⟨x9,a9,c9,h1,hy.1 _ _ _ _ _ h2,h3⟩
      | 9,h=>obtain⟨p9,x9,a9,c9,h1,h2,h3,h4⟩:=h;exact⟨p9,x9,a9,c9,h1,hy.1 _ _ _ _ _ h2,hy.2.1 _ _ _ h3,h4⟩
      | 10,h=>obtain⟨x9,a9,d9,c9,h1,h2,h3⟩:=h;exact⟨x9,a9,d9,c9,h1,hy.2.2 _ _ _ _ h2,h3⟩
      | 12,h=>exact absurd rfl hne
      | _+13,_=>trivial
     have hb:=heap_setCell_same wx C 4 _ _ (.slice a10 (k+1) d10) g5;have gB:=gs1 wx C 4 (.slice a10 (k+1) d10);have hcr:∀ v n f cs,CRw wx (C+1) v n f cs→CRw (wx.setCell ⟨C,4,none⟩ (.slice a10 (k+1) d10)) (C+1) v n f cs:=fun _ _ _ _ h=>h.gr gB g5 (by decide) (by decide)
     have hb2:(wx.setCell ⟨C,4,none⟩ (.slice a10 (k+1) d10)).heap[C]?=some (.cells #[.int .i64 W8,.int .i64 H8,.bool intra,.int .i64 q,.slice a10 (k+1) d10] 41 (0,0)):=by simpa using hb
     have hr:∀ P,RdP wx b P→RdP (wx.setCell ⟨C,4,none⟩ (.slice a10 (k+1) d10)) b P:=fun _ h=>h.grE gB (fun q hq=>by cases hq;omega)
     exact hQo undef _ (hK.out _ _ ⟨⟨x10,a10,d10,c10,hb2,hcr _ _ _ _ s10,l10,b10⟩,⟨⟨grown_any g1 gB (fun q hq=>by cases hq;omega),Nat.le_trans g2 gB.size⟩,⟨hr _ g3,fun x=>hr _ (g4 x)⟩,⟨_,hb2,fun h=>by cases h⟩,blk_gr g7 gB (by simp;omega),hcr _ _ _ _ g8⟩,hst _ ⟨fun _ _ _ _ _ h=>own_gr h gB (by omega),fun _ _ _ h=>h.gr gB g5 (by decide),hcr⟩⟩)
    all_goals
     clear hl ha hb hD hI;go_wp2;exact hK.out _ _ ⟨rfl,hG,kkp⟩
   clear Hext;intro xs wx hV hG0;obtain⟨Lx,hL,hG⟩:=hG0;have l6:Lx 6=true:=hL 6 (by decide);have l12:Lx 12=true:=hL 12 (by decide);clear hL;have d12:∃(zs:List Int) (an:Option Addr) (cc:Nat) (cn:List Value),wx.heap[C]?=some (.cells #[.int .i64 W8,.int .i64 H8,.bool intra,.int .i64 q,.slice an (k+1) cc] 41 (0,0))∧CRw wx (C+1) (.slice an (k+1) cc) (k+1) (fx f k zs) cn∧zs.length≤60004∧bytL zs:=hV 12 (by decide);clear hV;simp only[patchS,Nat.reduceAdd,Nat.reduceEqDiff,↓reduceIte];generalize xs 0=y0,xs 1=y1,xs 2=y2,xs 3=y3,xs 4=y4,xs 5=y5,xs 6=y6,xs 7=y7,xs 8=y8,xs 9=y9,xs 10=y10,xs 11=y11,xs 12=y12 at *
   replace hG:(w.grownBy wx (some b)∧HI≤wx.heap.size)∧(RdP wx b P1∧(Lx 6=false→RdP wx b P0))∧(∃ z,wx.heap[C]?=some (.cells #[.int .i64 W8,.int .i64 H8,.bool intra,.int .i64 q,z] 41 (0,0))∧(Lx 12=false→z= .slice al k cl))∧wx.heap[X]?=some (.cells #[.int .i64 0,.int .i64 0,.bool false,.int .i64 0,.slice none 0 0] 41 (0,0))∧CRw wx (C+1) (.slice al k cl) k f cs:=hG
   obtain⟨x12,a12,d12,c12,p12,s12,l12x,b12⟩:=d12;have HG:=Lib.hid hG;have HS:=Lib.hid s12;have HB:=Lib.hid p12;have HO:=Lib.hid (Hok2.out.fx l12x b12);clear hG s12 p12 S2 g2 r2 c2 x2 hvl;go_wp2;go_roundw
   case rel =>
    obtain⟨⟨g1,g2⟩,⟨g3,g4⟩,-,g7,g8⟩:=HG.out;exact⟨k+1,_,_,c12,by omega,by go_num,g1,by rw[←HP1.out];exact g3,HB.out,g7,HS.out,HO.out,by omega⟩
   case measure=>simp[intOf];omega
  ·obtain rfl:k=H:=by omega
   clear m0 m1 m2 m3 m4;have hP0:P+4+k*1800≤P+6000:=by omega
   have r3:=r2.mono hP0;clear r2 hP0;go_wp2_with fail
   refine(odd_any b _ n _ r3 (by omega) hn0 (by omega)).mono ?_
   rintro e w3 ⟨od,rfl,r4,g4⟩
   have c3:=gr_blk g4 c2 (by omega);have x3:=gr_blk g4 x2 (by omega);have S3:=S2.rd r3 g4;have G3:=grown_trans g2 g4;have hs3:=Nat.le_trans hs2 g4.size;clear r3 c2 x2 S2 g2 g4 hs2;cases od
   ·have HQ:=Lib.hid (S3.sq.1);have HR:=Lib.hid (r4);have HGr:=Lib.hid (G3);have HPx:=Lib.hid (x3);have HF:=Lib.hid (ok2);have HCc:=Lib.hid (S3.sq.2);obtain⟨-,k0,k1,k2,k3,k4⟩:=bx5 c3;obtain⟨-,j0,j1,j2,j3,j4⟩:=bx5 HPx.out;obtain⟨f0,f1,f2,f3,f4⟩:=fz5 HPx.out;clear x3 S3 r4 G3;go_wp2;exact bodyPost_ret (v := .agg #[.int .i64 W8,.int .i64 H8,.bool intra,.int .i64 q,.slice al k cl]) (results_cell_row rfl _ _ X 41 #[.int .i64 W8,.int .i64 H8,.bool intra,.int .i64 q,.slice al k cl] (0,0) _ rfl (blk_set5 HPx.out) Try.underlying41 rfl size_Coded) rfl (CdR.mk (P:=P+8000) (by omega) HF.out HQ.out HCc.out (HR.out.mono (by omega)) HGr.out HX.out (by omega) HPx.out)
   ·go_wp2_with fail
    refine(pick_c b _ 5 _ r4 (by omega) (by omega) (by omega)).mono ?_
    rintro e w4 ⟨y,rfl,ya,yb,r5,g5⟩
    have c4:=gr_blk g5 c3 (by omega);have x4:=gr_blk g5 x3 (by omega);have S4:=S3.rd r4 g5;have G4:=grown_trans G3 g5;have hs4:=Nat.le_trans hs3 g5.size;clear r4 c3 x3 S3 G3 g5 hs3;obtain rfl|rfl|rfl|rfl|rfl:y=0∨y=1∨y=2∨y=3∨y=4:=by omega
    ·have e5:=Ext.alloc w4 (.cells #[.int .i64 0,.int .i64 12,.int .i64 40] 3);have S5:=blk_new w4 (.cells #[.int .i64 0,.int .i64 12,.int .i64 40] 3);obtain⟨D,hD⟩:∃ D,D=w4.heap.size:=⟨_,rfl⟩;have hCD:C<D:=by omega
     rw[←hD]at S5;have HD:=Lib.hid hD;have c5:=e5.blk c4;have x5:=e5.blk x4;have T5:=S4.ext e5;have r6:=r5.ext e5;have G5:=grown_ext G4 e5;clear c4 x4 S4 r5 G4 e5 hD;go_wp2_with fail
     refine(pick_c b _ 3 _ r6 (by omega) (by omega) (by omega)).mono ?_
     rintro e w6 ⟨u,rfl,ua,ub,r7,g7⟩
     have S6:=gr_blk g7 S5 (by omega);have c6:=gr_blk g7 c5 (by omega);have x6:=gr_blk g7 x5 (by omega);have T6:=T5.rd r6 g7;have G6:=grown_trans G5 g7;try rw[←HD.out]
     clear S5 c5 x5 T5 r6 G5 g7;have hc:∀(i:Nat) (v:Value),(#[Value.int .i64 0,Value.int .i64 12,Value.int .i64 40])[i]?=some v→w6.cell? ⟨D,i,none⟩=some v:=fun i v hv=>by simp only[World.cell?,S6];exact hv
     have i0:=hc 0 _ rfl;have i1:=hc 1 _ rfl;have i2:=hc 2 _ rfl;clear hc S6;obtain⟨-,k0,k1,k2,k3,k4⟩:=bx5 c6;obtain⟨f0,f1,f2,f3,f4⟩:=fz5 c6;obtain rfl|rfl|rfl:u=0∨u=1∨u=2:=by omega
     ·have gB:=gs1 w6 C 0 (.int .i64 0);have hb:(w6.setCell ⟨C,0,none⟩ (.int .i64 0)).heap[C]?=some (.cells #[.int .i64 0,.int .i64 H8,.bool intra,.int .i64 q,.slice al k cl] 41 (0,0)):=by
       have h:=heap_setCell_same w6 C 0 _ _ (.int .i64 0) c6
       simpa using h
      have T7:=T6.gr gB c6 (by decide) (by decide);have x7:=blk_gr x6 gB (by simp;omega);have r8:=r7.grE gB (fun q hq=>by cases hq;omega);have G7:=grown_any G6 gB (fun q hq=>by cases hq;omega);have HS7:=Lib.hid (⟨hb,T7,x7,r8,G7⟩:_∧_∧_∧_∧_);clear hb T7 x7 r8 G7 gB T6 x6 r7 G6;go_upto_region 17 with fail
      obtain⟨hb,T7,x7,r8,G7⟩:=HS7.out;clear HS7 k0 k1 k2 k3 k4 f0 f1 f2 f3 f4 c6 i0 i1 i2;generalize World.setCell _ _ _=w7 at *;have HQ:=Lib.hid (T7.sq.1);have HR:=Lib.hid (r8);have HGr:=Lib.hid (G7);have HPx:=Lib.hid (x7);have HF:=Lib.hid (ok2);have HCc:=Lib.hid (T7.sq.2);obtain⟨-,k0,k1,k2,k3,k4⟩:=bx5 hb;obtain⟨-,j0,j1,j2,j3,j4⟩:=bx5 HPx.out;obtain⟨f0,f1,f2,f3,f4⟩:=fz5 HPx.out;clear x7 T7 r8 G7;go_wp2;exact bodyPost_ret (v := .agg #[.int .i64 0,.int .i64 H8,.bool intra,.int .i64 q,.slice al k cl]) (results_cell_row rfl _ _ X 41 #[.int .i64 0,.int .i64 H8,.bool intra,.int .i64 q,.slice al k cl] (0,0) _ rfl (blk_set5 HPx.out) Try.underlying41 rfl size_Coded) rfl (CdR.mk (P:=P+8000) (by omega) HF.out HQ.out HCc.out (HR.out.mono (by omega)) HGr.out HX.out (by omega) HPx.out)
     ·have gB:=gs1 w6 C 0 (.int .i64 12);have hb:(w6.setCell ⟨C,0,none⟩ (.int .i64 12)).heap[C]?=some (.cells #[.int .i64 12,.int .i64 H8,.bool intra,.int .i64 q,.slice al k cl] 41 (0,0)):=by
       have h:=heap_setCell_same w6 C 0 _ _ (.int .i64 12) c6
       simpa using h
      have T7:=T6.gr gB c6 (by decide) (by decide);have x7:=blk_gr x6 gB (by simp;omega);have r8:=r7.grE gB (fun q hq=>by cases hq;omega);have G7:=grown_any G6 gB (fun q hq=>by cases hq;omega);have HS7:=Lib.hid (⟨hb,T7,x7,r8,G7⟩:_∧_∧_∧_∧_);clear hb T7 x7 r8 G7 gB T6 x6 r7 G6;go_upto_region 17 with fail
      obtain⟨hb,T7,x7,r8,G7⟩:=HS7.out;clear HS7 k0 k1 k2 k3 k4 f0 f1 f2 f3 f4 c6 i0 i1 i2;generalize World.setCell _ _ _=w7 at *;have HQ:=Lib.hid (T7.sq.1);have HR:=Lib.hid (r8);have HGr:=Lib.hid (G7);have HPx:=Lib.hid (x7);have HF:=Lib.hid (ok2);have HCc:=Lib.hid (T7.sq.2);obtain⟨-,k0,k1,k2,k3,k4⟩:=bx5 hb;obtain⟨-,j0,j1,j2,j3,j4⟩:=bx5 HPx.out;obtain⟨f0,f1,f2,f3,f4⟩:=fz5 HPx.out;clear x7 T7 r8 G7;go_wp2;exact bodyPost_ret (v := .agg #[.int .i64 12,.int .i64 H8,.bool intra,.int .i64 q,.slice al k cl]) (results_cell_row rfl _ _ X 41 #[.int .i64 12,.int .i64 H8,.bool intra,.int .i64 q,.slice al k cl] (0,0) _ rfl (blk_set5 HPx.out) Try.underlying41 rfl size_Coded) rfl (CdR.mk (P:=P+8000) (by omega) HF.out HQ.out HCc.out (HR.out.mono (by omega)) HGr.out HX.out (by omega) HPx.out)
     ·have gB:=gs1 w6 C 0 (.int .i64 40);have hb:(w6.setCell ⟨C,0,none⟩ (.int .i64 40)).heap[C]?=some (.cells #[.int .i64 40,.int .i64 H8,.bool intra,.int .i64 q,.slice al k cl] 41 (0,0)):=by
       have h:=heap_setCell_same w6 C 0 _ _ (.int .i64 40) c6
       simpa using h
      have T7:=T6.gr gB c6 (by decide) (by decide);have x7:=blk_gr x6 gB (by simp;omega);have r8:=r7.grE gB (fun q hq=>by cases hq;omega);have G7:=grown_any G6 gB (fun q hq=>by cases hq;omega);have HS7:=Lib.hid (⟨hb,T7,x7,r8,G7⟩:_∧_∧_∧_∧_);clear hb T7 x7 r8 G7 gB T6 x6 r7 G6;go_upto_region 17 with fail
      obtain⟨hb,T7,x7,r8,G7⟩:=HS7.out;clear HS7 k0 k1 k2 k3 k4 f0 f1 f2 f3 f4 c6 i0 i1 i2;generalize World.setCell _ _ _=w7 at *;have HQ:=Lib.hid (T7.sq.1);have HR:=Lib.hid (r8);have HGr:=Lib.hid (G7);have HPx:=Lib.hid (x7);have HF:=Lib.hid (ok2);have HCc:=Lib.hid (T7.sq.2);obtain⟨-,k0,k1,k2,k3,k4⟩:=bx5 hb;obtain⟨-,j0,j1,j2,j3,j4⟩:=bx5 HPx.out;obtain⟨f0,f1,f2,f3,f4⟩:=fz5 HPx.out;clear x7 T7 r8 G7;go_wp2;exact bodyPost_ret (v := .agg #[.int .i64 40,.int .i64 H8,.bool intra,.int .i64 q,.slice al k cl]) (results_cell_row rfl _ _ X 41 #[.int .i64 40,.int .i64 H8,.bool intra,.int .i64 q,.slice al k cl] (0,0) _ rfl (blk_set5 HPx.out) Try.underlying41 rfl size_Coded) rfl (CdR.mk (P:=P+8000) (by omega) HF.out HQ.out HCc.out (HR.out.mono (by omega)) HGr.out HX.out (by omega) HPx.out)
    ·have e5:=Ext.alloc w4 (.cells #[.int .i64 (-1),.int .i64 16] 3);have S5:=blk_new w4 (.cells #[.int .i64 (-1),.int .i64 16] 3);obtain⟨D,hD⟩:∃ D,D=w4.heap.size:=⟨_,rfl⟩;have hCD:C<D:=by omega
     rw[←hD]at S5;have HD:=Lib.hid hD;have c5:=e5.blk c4;have x5:=e5.blk x4;have T5:=S4.ext e5;have r6:=r5.ext e5;have G5:=grown_ext G4 e5;clear c4 x4 S4 r5 G4 e5 hD;go_wp2_with fail
     refine(pick_c b _ 2 _ r6 (by omega) (by omega) (by omega)).mono ?_
     rintro e w6 ⟨u,rfl,ua,ub,r7,g7⟩
     have S6:=gr_blk g7 S5 (by omega);have c6:=gr_blk g7 c5 (by omega);have x6:=gr_blk g7 x5 (by omega);have T6:=T5.rd r6 g7;have G6:=grown_trans G5 g7;try rw[←HD.out]
     clear S5 c5 x5 T5 r6 G5 g7;have hc:∀(i:Nat) (v:Value),(#[Value.int .i64 (-1),Value.int .i64 16])[i]?=some v→w6.cell? ⟨D,i,none⟩=some v:=fun i v hv=>by simp only[World.cell?,S6];exact hv
     have i0:=hc 0 _ rfl;have i1:=hc 1 _ rfl;clear hc S6;obtain⟨-,k0,k1,k2,k3,k4⟩:=bx5 c6;obtain⟨f0,f1,f2,f3,f4⟩:=fz5 c6;obtain rfl|rfl:u=0∨u=1:=by omega
     ·have gB:=gs1 w6 C 3 (.int .i64 (-1));have hb:(w6.setCell ⟨C,3,none⟩ (.int .i64 (-1))).heap[C]?=some (.cells #[.int .i64 W8,.int .i64 H8,.bool intra,.int .i64 (-1),.slice al k cl] 41 (0,0)):=by
       have h:=heap_setCell_same w6 C 3 _ _ (.int .i64 (-1)) c6
       simpa using h
      have T7:=T6.gr gB c6 (by decide) (by decide);have x7:=blk_gr x6 gB (by simp;omega);have r8:=r7.grE gB (fun q hq=>by cases hq;omega);have G7:=grown_any G6 gB (fun q hq=>by cases hq;omega);have HS7:=Lib.hid (⟨hb,T7,x7,r8,G7⟩:_∧_∧_∧_∧_);clear hb T7 x7 r8 G7 gB T6 x6 r7 G6;go_upto_region 17 with fail
      obtain⟨hb,T7,x7,r8,G7⟩:=HS7.out;clear HS7 k0 k1 k2 k3 k4 f0 f1 f2 f3 f4 c6 i0 i1;generalize World.setCell _ _ _=w7 at *;have HQ:=Lib.hid (T7.sq.1);have HR:=Lib.hid (r8);have HGr:=Lib.hid (G7);have HPx:=Lib.hid (x7);have HF:=Lib.hid (ok2);have HCc:=Lib.hid (T7.sq.2);obtain⟨-,k0,k1,k2,k3,k4⟩:=bx5 hb;obtain⟨-,j0,j1,j2,j3,j4⟩:=bx5 HPx.out;obtain⟨f0,f1,f2,f3,f4⟩:=fz5 HPx.out;clear x7 T7 r8 G7;go_wp2;exact bodyPost_ret (v := .agg #[.int .i64 W8,.int .i64 H8,.bool intra,.int .i64 (-1),.slice al k cl]) (results_cell_row rfl _ _ X 41 #[.int .i64 W8,.int .i64 H8,.bool intra,.int .i64 (-1),.slice al k cl] (0,0) _ rfl (blk_set5 HPx.out) Try.underlying41 rfl size_Coded) rfl (CdR.mk (P:=P+8000) (by omega) HF.out HQ.out HCc.out (HR.out.mono (by omega)) HGr.out HX.out (by omega) HPx.out)
     ·have gB:=gs1 w6 C 3 (.int .i64 16);have hb:(w6.setCell ⟨C,3,none⟩ (.int .i64 16)).heap[C]?=some (.cells #[.int .i64 W8,.int .i64 H8,.bool intra,.int .i64 16,.slice al k cl] 41 (0,0)):=by
       have h:=heap_setCell_same w6 C 3 _ _ (.int .i64 16) c6
       simpa using h
      have T7:=T6.gr gB c6 (by decide) (by decide);have x7:=blk_gr x6 gB (by simp;omega);have r8:=r7.grE gB (fun q hq=>by cases hq;omega);have G7:=grown_any G6 gB (fun q hq=>by cases hq;omega);have HS7:=Lib.hid (⟨hb,T7,x7,r8,G7⟩:_∧_∧_∧_∧_);clear hb T7 x7 r8 G7 gB T6 x6 r7 G6;go_upto_region 17 with fail
      obtain⟨hb,T7,x7,r8,G7⟩:=HS7.out;clear HS7 k0 k1 k2 k3 k4 f0 f1 f2 f3 f4 c6 i0 i1;generalize World.setCell _ _ _=w7 at *;have HQ:=Lib.hid (T7.sq.1);have HR:=Lib.hid (r8);have HGr:=Lib.hid (G7);have HPx:=Lib.hid (x7);have HF:=Lib.hid (ok2);have HCc:=Lib.hid (T7.sq.2);obtain⟨-,k0,k1,k2,k3,k4⟩:=bx5 hb;obtain⟨-,j0,j1,j2,j3,j4⟩:=bx5 HPx.out;obtain⟨f0,f1,f2,f3,f4⟩:=fz5 HPx.out;clear x7 T7 r8 G7;go_wp2;exact bodyPost_ret (v := .agg #[.int .i64 W8,.int .i64 H8,.bool intra,.int .i64 16,.slice al k cl]) (results_cell_row rfl _ _ X 41 #[.int .i64 W8,.int .i64 H8,.bool intra,.int .i64 16,.slice al k cl] (0,0) _ rfl (blk_set5 HPx.out) Try.underlying41 rfl size_Coded) rfl (CdR.mk (P:=P+8000) (by omega) HF.out HQ.out HCc.out (HR.out.mono (by omega)) HGr.out HX.out (by omega) HPx.out)
    ·obtain⟨g,cap2,cur2,hv2,hgl,p1g,-⟩:∃ g cap cur,(Value.slice al k cl) = .slice (some ⟨g,0,none⟩) k cap∧C+1≤g∧w4.heap[g]?=some (.cells cur 22 (0,0))∧True:=by
      rcases S4.1.2 with⟨hv,h0⟩|⟨g,cap,cur,hv,q1,q2,-⟩
      ·omega
      ·exact⟨g,cap,cur,hv,q1,q2,trivial⟩
     simp only[Value.slice.injEq]at hv2;obtain⟨rfl,-,-⟩:=hv2;clear p1g;obtain⟨HI,hHI⟩:∃ HI,HI=w4.heap.size:=⟨_,rfl⟩;have hHI2:HI≤w4.heap.size:=by omega
     obtain⟨P0,hP0⟩:∃ P0,P0=P+6000+1+1:=⟨_,rfl⟩;rw[←hP0]at r5;have hP02:P0<2^36:=by omega
     have HP0:=Lib.hid hP0;have hk1:1≤k:=by omega
     clear hHI hP0;obtain⟨-,k0,k1,k2,k3,k4⟩:=bx5 c4;go_upto_region 14 with fail
     clear k0 k1 k2 k3 k4;refine wp_region_invL (by kernel_rfl) [(64,0),(65,1),(66,2),(67,3),(68,4)] [[],[0],[],[2],[0,1,2,3],[0,1,2,3,4]] (fun i own ys wx=>match i with|0=>own= .pointer (some ⟨C,4,none⟩)|1=>own= .slice (some ⟨g,0,none⟩) k cl|2=>own= .pointer (some ⟨b,0,none⟩)|3=>∃(zs:List Int) (a:Option Addr) (c:Nat),own= .slice a zs.length c∧BA wx a c zs∧zs.length≤60004∧bytL zs|4=>own= .pointer (some ⟨g,0,none⟩)|5=>∃(zs:List Int) (cs':List Value),CRw wx (C+1) (.slice (some ⟨g,0,none⟩) k cl) k (fun i=>if i=0 then zs else f i) cs'∧zs.length≤60004∧bytL zs|_=>True) (fun Lx wx=>(w.grownBy wx (some b)∧HI≤wx.heap.size)∧(RdP wx b (P0+400)∧(Lx 3=false→RdP wx b P0))∧wx.heap[C]?=some (.cells #[.int .i64 W8,.int .i64 H8,.bool intra,.int .i64 q,.slice (some ⟨g,0,none⟩) k cl] 41 (0,0))∧wx.heap[X]?=some (.cells #[.int .i64 0,.int .i64 0,.bool false,.int .i64 0,.slice none 0 0] 41 (0,0))∧(Lx 5=false→CRw wx (C+1) (.slice (some ⟨g,0,none⟩) k cl) k f cs)) (by kernel_rfl) (by kernel_rfl) (by kernel_rfl) ?g0_r2 ?gop_r2 ?gend_r2
     case g0_r2=>exact⟨⟨grown_drew G4,hHI2⟩,⟨(r5.mono (by omega)).drew,fun _=>r5.drew⟩,c4,x4,fun _=>S4.ext (Ext.drewN _ 1)⟩
     case gop_r2 =>
      refine⟨?_,?o1,?_,?o3,?o4,?o5,trivial⟩ <;> (intro Lx xs wx hG hl ha hb hD hI Qo Kx hK hQo;simp only[patchS,Nat.reduceAdd,Nat.reduceEqDiff,↓reduceIte]at hQo⊢)
      case o1 =>
       clear hl ha hb;rw[ddq (hD 0 rfl)]at hQo⊢;clear hD hI;obtain⟨-,k0,k1,k2,k3,k4⟩:=bx5 hG.2.2.1;go_wp2;exact hK.out _ _ ⟨rfl,hG,kkp⟩
      case o3 =>
       have l3:Lx 3=false:=hl;clear hl ha hb;rw[ddq (hD 2 rfl)]at hQo⊢;clear hD hI;go_wp2_with fail
       refine(l20Bytes_c b _ 9 _ (hG.2.1.2 l3) (by omega) (by omega)).mono ?_
       rintro e wz ⟨vz,zz,rfl,oz,nz,bz,rz,gz⟩
       obtain⟨az,cz,rfl⟩:=owns_form oz;go_wp2;have hst:∀(wy:World),True→Stbn 6 3 [[],[0],[],[2],[0,1,2,3],[0,1,2,3,4]] (fun i own ys wx=>match i with|0=>own= .pointer (some ⟨C,4,none⟩)|1=>own= .slice (some ⟨g,0,none⟩) k cl|2=>own= .pointer (some ⟨b,0,none⟩)|3=>∃(zs:List Int) (a:Option Addr) (c:Nat),own= .slice a zs.length c∧BA wx a c zs∧zs.length≤60004∧bytL zs|4=>own= .pointer (some ⟨g,0,none⟩)|5=>∃(zs:List Int) (cs':List Value),CRw wx (C+1) (.slice (some ⟨g,0,none⟩) k cl) k (fun i=>if i=0 then zs else f i) cs'∧zs.length≤60004∧bytL zs|_=>True) wx wy:=by
        intro wy hy ii hii hne hc own ys h
        match ii,h with
        | 0,h|1,h|2,h=>exact h
        | 3,h=>exact absurd rfl hne
        | 4,h|5,h=>exact absurd hc (by decide)
        | _+6,_=>trivial
       obtain⟨⟨g1,g2⟩,⟨g3,g4⟩,g5,g7,g8⟩:=hG;exact hK.out _ _ ⟨⟨zz,az,cz,rfl,BA.of_own oz,by omega,fun x hx=>bz x hx⟩,⟨⟨grown_trans g1 gz,Nat.le_trans g2 gz.size⟩,⟨rz,fun x=>Bool.noConfusion x⟩,gr_blk gz g5 (by omega),gr_blk gz g7 (by omega),fun x=>(g8 x).rd g3 gz⟩,hst _ trivial⟩
      case o4 =>
       clear hl ha hb;rw[ddq (hD 1 rfl)]at hQo⊢;clear hD hI;go_wp2;exact hK.out _ _ ⟨rfl,hG,kkp⟩
      case o5 =>
       have l5:Lx 5=false:=hl;clear hl ha hb;rw[ddq (hD 4 rfl)]at hQo⊢;have d3:∃(zs:List Int) (a:Option Addr) (c:Nat),(xs 3) = .slice a zs.length c∧BA wx a c zs∧zs.length≤60004∧bytL zs:=hD 3 rfl;clear hD hI;generalize xs 3=y3 at *;obtain⟨z3,a3,c3,rfl,d3,n3,t3⟩:=d3;obtain⟨⟨g1,g2⟩,⟨g3,g4⟩,g5,g7,g8⟩:=hG;have hcr:=g8 l5;obtain⟨a0,c0,h0,-⟩:=hcr.2 0 (by omega);have k0:wx.cell? ⟨g,0,none⟩=some (.slice a0 (f 0).length c0):=by
        have:=hcr.1.cells (g:=g) rfl 0 _ h0
        simpa [Addr.add] using this
       have f0:=hcr.1.frozenAt 0;go_wp2;have hst:∀(wy:World),(∀ a c xs,BA wx a c xs→BA wy a c xs)→Stbn 6 5 [[],[0],[],[2],[0,1,2,3],[0,1,2,3,4]] (fun i own ys wx=>match i with|0=>own= .pointer (some ⟨C,4,none⟩)|1=>own= .slice (some ⟨g,0,none⟩) k cl|2=>own= .pointer (some ⟨b,0,none⟩)|3=>∃(zs:List Int) (a:Option Addr) (c:Nat),own= .slice a zs.length c∧BA wx a c zs∧zs.length≤60004∧bytL zs|4=>own= .pointer (some ⟨g,0,none⟩)|5=>∃(zs:List Int) (cs':List Value),CRw wx (C+1) (.slice (some ⟨g,0,none⟩) k cl) k (fun i=>if i=0 then zs else f i) cs'∧zs.length≤60004∧bytL zs|_=>True) wx wy:=by
        intro wy hy ii hii hne hc own ys h
        match ii,h with
        | 0,h|1,h|2,h|4,h=>exact h
        | 3,h=>obtain⟨z9,a9,c9,h1,h2,h3⟩:=h;exact⟨z9,a9,c9,h1,hy _ _ _ h2,h3⟩
        | 5,h=>exact absurd rfl hne
        | _+6,_=>trivial
       obtain⟨cur,p1⟩:∃ cur,wx.heap[g]?=some (.cells cur 22 (0,0)):=by
        rcases hcr.1.2 with⟨hv,h0⟩|⟨g9,cap,cur,hv,q1,q2,-⟩
        ·omega
        ·cases hv;exact⟨cur,q2⟩
       have gB:=gs1 wx g 0 (.slice a3 z3.length c3);have hba:∀ a c xs,BA wx a c xs→BA (wx.setCell ⟨g,0,none⟩ (.slice a3 z3.length c3)) a c xs:=fun _ _ _ h=>h.gr gB p1 (by decide)
       have hnew:CRw (wx.setCell ⟨g,0,none⟩ (.slice a3 z3.length c3)) (C+1) (.slice (some ⟨g,0,none⟩) k cl) k (fun i=>if i=0 then z3 else f i) (cs.set 0 (.slice a3 z3.length c3)):=⟨(hcr.1.stored 0 _).1,fun i hi=>by
        by_cases e:i=0
        ·subst e;exact⟨a3,c3,by simp only[if_pos];rw[List.getElem?_set_self (by have:=hcr.1.1;omega)],by simp only[if_pos];exact hba _ _ _ d3⟩
        ·obtain⟨a,c,h1,h2⟩:=hcr.2 i hi;exact⟨a,c,by simp only[if_neg e];rw[List.getElem?_set_ne (by omega)];exact h1,by simp only[if_neg e];exact hba _ _ _ h2⟩⟩
       have hr:∀ P,RdP wx b P→RdP (wx.setCell ⟨g,0,none⟩ (.slice a3 z3.length c3)) b P:=fun _ h=>h.grE gB (fun q hq=>by cases hq;omega)
       exact hQo undef _ (hK.out _ _ ⟨⟨z3,_,hnew,n3,t3⟩,⟨⟨grown_any g1 gB (fun q hq=>by cases hq;omega),Nat.le_trans g2 gB.size⟩,⟨hr _ g3,fun x=>hr _ (g4 x)⟩,blk_gr g5 gB (by simp;omega),blk_gr g7 gB (by simp;omega),fun x=>Bool.noConfusion x⟩,hst _ hba⟩)
      all_goals
       clear hl ha hb hD hI;go_wp2;exact hK.out _ _ ⟨rfl,hG,kkp⟩
     intro xs wx hV hG0;obtain⟨Lx,hL,hG⟩:=hG0;have l3:Lx 3=true:=hL 3 (by decide);have l5:Lx 5=true:=hL 5 (by decide);clear hL;have d5:∃(zs:List Int) (cs':List Value),CRw wx (C+1) (.slice (some ⟨g,0,none⟩) k cl) k (fun i=>if i=0 then zs else f i) cs'∧zs.length≤60004∧bytL zs:=hV 5 (by decide);clear hV;simp only[patchS,Nat.reduceAdd,Nat.reduceEqDiff,↓reduceIte];generalize xs 0=y0,xs 1=y1,xs 2=y2,xs 3=y3,xs 4=y4,xs 5=y5 at *
     replace hG:(w.grownBy wx (some b)∧HI≤wx.heap.size)∧(RdP wx b (P0+400)∧(Lx 3=false→RdP wx b P0))∧wx.heap[C]?=some (.cells #[.int .i64 W8,.int .i64 H8,.bool intra,.int .i64 q,.slice (some ⟨g,0,none⟩) k cl] 41 (0,0))∧wx.heap[X]?=some (.cells #[.int .i64 0,.int .i64 0,.bool false,.int .i64 0,.slice none 0 0] 41 (0,0))∧(Lx 5=false→CRw wx (C+1) (.slice (some ⟨g,0,none⟩) k cl) k f cs):=hG
     obtain⟨z5,u5,S5,n5,t5⟩:=d5;obtain⟨⟨g1,-⟩,⟨g3,-⟩,g5,g7,-⟩:=hG;rw[HP0.out]at g3;have ok5:okF (fun i=>if i=0 then z5 else f i) k:=fun i hi=>by
      by_cases e:i=0
      ·simp only[if_pos e];exact⟨n5,t5⟩
      ·simp only[if_neg e];exact ok2 i hi
     have HQ:=Lib.hid (S5.sq.1);have HR:=Lib.hid (g3);have HGr:=Lib.hid (g1);have HPx:=Lib.hid (g7);have HF:=Lib.hid (ok5);have HCc:=Lib.hid (S5.sq.2);obtain⟨-,k0,k1,k2,k3,k4⟩:=bx5 g5;obtain⟨-,j0,j1,j2,j3,j4⟩:=bx5 HPx.out;obtain⟨f0,f1,f2,f3,f4⟩:=fz5 HPx.out;clear g7 S5 g3 g1;go_wp2;exact bodyPost_ret (v := .agg #[.int .i64 W8,.int .i64 H8,.bool intra,.int .i64 q,.slice (some ⟨g,0,none⟩) k cl]) (results_cell_row rfl _ _ X 41 #[.int .i64 W8,.int .i64 H8,.bool intra,.int .i64 q,.slice (some ⟨g,0,none⟩) k cl] (0,0) _ rfl (blk_set5 HPx.out) Try.underlying41 rfl size_Coded) rfl (CdR.mk (P:=P+8000) (by omega) HF.out HQ.out HCc.out (HR.out.mono (by omega)) HGr.out HX.out (by omega) HPx.out)
    ·obtain⟨m,rfl⟩:∃ m,k=m+1:=⟨k-1,by omega⟩;obtain⟨g,cap2,cur2,hv2,-⟩:∃ g cap cur,(Value.slice al (m+1) cl) = .slice (some ⟨g,0,none⟩) (m+1) cap∧w4.heap[g]?=some (.cells cur 22 (0,0)):=by
      rcases S4.1.2 with⟨hv,h0⟩|⟨g,cap,cur,hv,q1,q2,-⟩
      ·omega
      ·exact⟨g,cap,cur,hv,q2⟩
     simp only[Value.slice.injEq]at hv2;obtain⟨rfl,-,-⟩:=hv2;have hcp:=owns_cap S4.1;obtain⟨cm,rfl⟩:∃ cm,cl=cm+1:=⟨cl-1,by omega⟩;have T0:SQ w4 (if cm=0 then(some ⟨g,0,none⟩:Option Addr)else some ⟨g,1,none⟩) m (fun i=>f (i+1)):=by
      split
      ·intro i hi;omega
      ·exact SQ.tail S4.sq.1
     obtain⟨A,hA⟩:∃ A,A=(if cm=0 then(some ⟨g,0,none⟩:Option Addr)else some ⟨g,1,none⟩):=⟨_,rfl⟩;rw[←hA]at T0;have HA:=Lib.hid hA;clear hA;have gB:=gs1 w4 C 4 (.slice A m cm);have hb:(w4.setCell ⟨C,4,none⟩ (.slice A m cm)).heap[C]?=some (.cells #[.int .i64 W8,.int .i64 H8,.bool intra,.int .i64 q,.slice A m cm] 41 (0,0)):=by
      have h:=heap_setCell_same w4 C 4 _ _ (.slice A m cm) c4
      simpa using h
     have T7:=T0.gr gB c4 (by decide) (by decide);have x7:=blk_gr x4 gB (by simp;omega);have r8:=r5.grE gB (fun q hq=>by cases hq;omega);have G7:=grown_any G4 gB (fun q hq=>by cases hq;omega);have ok5:okF (fun i=>f (i+1)) m:=fun i hi=>ok2 (i+1) (by omega)
     have HS7:=Lib.hid (⟨hb,T7,x7,r8,G7⟩:_∧_∧_∧_∧_);have Hcp:=Lib.hid hcp;have hcm:m≤cm:=by omega
     obtain⟨-,k0,k1,k2,k3,k4⟩:=bx5 c4;obtain⟨f0,f1,f2,f3,f4⟩:=fz5 c4;clear hb T7 x7 r8 G7 gB S4 x4 r5 G4 hcp T0;go_upto_region 17 with fail
     rw[←HA.out];obtain⟨hb,T7,x7,r8,G7⟩:=HS7.out;clear HS7 k0 k1 k2 k3 k4 f0 f1 f2 f3 f4 c4;have hcp:=Hcp.out;generalize World.setCell _ _ _=w7 at *;have HQ:=Lib.hid (T7);have HR:=Lib.hid (r8);have HGr:=Lib.hid (G7);have HPx:=Lib.hid (x7);have HF:=Lib.hid (ok5);have HCc:=Lib.hid ((show m≤cm∧cm≤maxLen from ⟨by omega,by omega⟩));obtain⟨-,k0,k1,k2,k3,k4⟩:=bx5 hb;obtain⟨-,j0,j1,j2,j3,j4⟩:=bx5 HPx.out;obtain⟨f0,f1,f2,f3,f4⟩:=fz5 HPx.out;clear x7 T7 r8 G7 hcp;go_wp2;exact bodyPost_ret (v := .agg #[.int .i64 W8,.int .i64 H8,.bool intra,.int .i64 q,.slice A m cm]) (results_cell_row rfl _ _ X 41 #[.int .i64 W8,.int .i64 H8,.bool intra,.int .i64 q,.slice A m cm] (0,0) _ rfl (blk_set5 HPx.out) Try.underlying41 rfl size_Coded) rfl (CdR.mk (P:=P+8000) (by omega) HF.out HQ.out HCc.out (HR.out.mono (by omega)) HGr.out HX.out (by omega) HPx.out)
    ·have gB:=gs1 w4 C 2 (.bool (!intra));have hb:(w4.setCell ⟨C,2,none⟩ (.bool (!intra))).heap[C]?=some (.cells #[.int .i64 W8,.int .i64 H8,.bool (!intra),.int .i64 q,.slice al k cl] 41 (0,0)):=by
      have h:=heap_setCell_same w4 C 2 _ _ (.bool (!intra)) c4
      simpa using h
     have T7:=S4.gr gB c4 (by decide) (by decide);have x7:=blk_gr x4 gB (by simp;omega);have r8:=r5.grE gB (fun q hq=>by cases hq;omega);have G7:=grown_any G4 gB (fun q hq=>by cases hq;omega);have HS7:=Lib.hid (⟨hb,T7,x7,r8,G7⟩:_∧_∧_∧_∧_);obtain⟨-,k0,k1,k2,k3,k4⟩:=bx5 c4;obtain⟨f0,f1,f2,f3,f4⟩:=fz5 c4;clear hb T7 x7 r8 G7 gB S4 x4 r5 G4;go_upto_region 17 with fail
     obtain⟨hb,T7,x7,r8,G7⟩:=HS7.out;clear HS7 k0 k1 k2 k3 k4 f0 f1 f2 f3 f4 c4;generalize World.setCell _ _ _=w7 at *;have HQ:=Lib.hid (T7.sq.1);have HR:=Lib.hid (r8);have HGr:=Lib.hid (G7);have HPx:=Lib.hid (x7);have HF:=Lib.hid (ok2);have HCc:=Lib.hid (T7.sq.2);obtain⟨-,k0,k1,k2,k3,k4⟩:=bx5 hb;obtain⟨-,j0,j1,j2,j3,j4⟩:=bx5 HPx.out;obtain⟨f0,f1,f2,f3,f4⟩:=fz5 HPx.out;clear x7 T7 r8 G7;go_wp2;exact bodyPost_ret (v := .agg #[.int .i64 W8,.int .i64 H8,.bool (!intra),.int .i64 q,.slice al k cl]) (results_cell_row rfl _ _ X 41 #[.int .i64 W8,.int .i64 H8,.bool (!intra),.int .i64 q,.slice al k cl] (0,0) _ rfl (blk_set5 HPx.out) Try.underlying41 rfl size_Coded) rfl (CdR.mk (P:=P+8000) (by omega) HF.out HQ.out HCc.out (HR.out.mono (by omega)) HGr.out HX.out (by omega) HPx.out)
/-- A list of k coded pictures of the call's own, which reads as x. -/
def CQ (w:World) (H:Nat) (v:Value) (k:Nat) (x:Nat→Cd) (cs:List Value):Prop :=
 w.ownsRow H 41 5 v k cs∧∀ i,i<k→(∃ a c,RC cs (i*5) (x i) a c∧SQ w a (x i).n (x i).f∧(x i).n≤c∧c≤maxLen)∧(x i).n≤3∧okF (x i).f (x i).n
theorem CQ.rd {w w':World} {H k b P:Nat} {v:Value} {x:Nat→Cd} {cs:List Value} (h:CQ w H v k x cs) (r:RdP w b P) (g:w.grownBy w' (some b)) (hb:b<H):CQ w' H v k x cs:=⟨own_gr h.1 g hb,fun i hi=>by
 obtain⟨⟨a,c,h1,h2,h3⟩,h4⟩:=h.2 i hi;exact⟨⟨a,c,h1,h2.rd r g,h3⟩,h4⟩⟩
def fc (x:Nat→Cd) (k:Nat) (y:Cd) (i:Nat):Cd:=if i<k then x i else y
theorem fc_lt {x:Nat→Cd} {k i:Nat} {y:Cd} (h:i<k):fc x k y i=x i:=if_pos h
theorem fc_eq {x:Nat→Cd} {k:Nat} {y:Cd} : fc x k y k=y:=if_neg (Nat.lt_irrefl k)
theorem CQ.app {w w':World} {H k c1:Nat} {v v':Value} {x:Nat→Cd} {cs:List Value} {y:Cd} {a1:Option Addr} (h:CQ w H v k x cs) (o:w'.ownsRow H 41 5 v' (k+1) (cs ++ [.int .i64 y.w,.int .i64 y.h,.bool y.i,.int .i64 y.q,.slice a1 y.n c1])) (g:w.grownBy w' v.ownBlock)
 (hs:SQ w a1 y.n y.f) (hc:y.n≤c1∧c1≤maxLen) (hn:y.n≤3) (hf:okF y.f y.n):CQ w' H v' (k+1) (fc x k y) (cs ++ [.int .i64 y.w,.int .i64 y.h,.bool y.i,.int .i64 y.q,.slice a1 y.n c1]):=by
 have hl:cs.length=k*5:=h.1.1;refine⟨o,fun i hi => ?_⟩
 by_cases e:i=k
 ·subst e;rw[fc_eq];refine⟨⟨a1,c1,⟨?_,?_,?_,?_,?_⟩,hs.own h.1 (by decide) (by decide) g,hc⟩,hn,hf⟩ <;> (rw[←hl,List.getElem?_append_right (by omega)];simp)
 ·rw[fc_lt (by omega)];obtain⟨⟨a,c,⟨k1,k2,k3,k4,k5⟩,h2,h3⟩,h4⟩:=h.2 i (by omega);refine⟨⟨a,c,⟨?_,?_,?_,?_,?_⟩,h2.own h.1 (by decide) (by decide) g,h3⟩,h4⟩ <;> (rw[List.getElem?_append_left (by omega)];assumption)
theorem sumN_le3 {g:Nat→Nat} {B:Nat} : ∀ n,(∀ i,i<n→g i≤B)→sumN g n≤n*B
 | 0,_=>by simp[sumN]
 | n+1,h=>by
  have h1:=sumN_le3 n (fun i hi=>h i (by omega));have h2:=h n (by omega);have h3:(n+1)*B=n*B+B:=Nat.succ_mul n B;show sumN g n+g n≤_;omega
theorem CQ.ok {w:World} {H n:Nat} {v:Value} {x:Nat→Cd} {cs:List Value} (h:CQ w H v n x cs) (hn:n≤5):okC x n:=by
 refine⟨by omega,?_⟩;have h1:sumN (fun i=>szC (x i)) n≤n*180015:=sumN_le3 n (fun i hi=>by
  obtain⟨-,h3,h4⟩:=h.2 i hi;have h5:sumN (ln (x i).f) (x i).n≤(x i).n*60004:=sumN_le3 _ (fun j hj=>(h4 j hj).1);show(x i).n+sumN (ln (x i).f) (x i).n≤_;omega)
 show sumN (fun i=>szC (x i)) n≤_;omega
/-- Slices are bytes. -/
def okX (x:Nat→Cd) (n:Nat):Prop:=∀ i,i<n→(x i).n≤3∧okF (x i).f (x i).n
theorem CQ.okX {w:World} {H n:Nat} {v:Value} {x:Nat→Cd} {cs:List Value} (h:CQ w H v n x cs):okX x n:=fun i hi=>(h.2 i hi).2
theorem sideValid_yes (x:Int) (w:World) (h1:8≤x) (h2:x≤32) (h3:x%8=0) :
 Calls Try.prog 25 #[.int .i64 x] w fun e w'=>e= .returned (.bool true)∧w=w':=by
 have hm:=Lib.hid h3;clear h3;go_enter Try.func25,Try.ntmps25
 go_wp2;go_ret
 exact⟨by simp[hm.out],rfl⟩
theorem sampleValid_yes (x:Int) (w:World) (h1:0≤x) (h2:x≤255) :
 Calls Try.prog 26 #[.int .i64 x] w fun e w'=>e= .returned (.bool true)∧w=w':=by
 go_enter Try.func26,Try.ntmps26
 go_wp2;go_ret
 exact⟨by simp,rfl⟩
theorem NewPicture_any (x y v:Int) (n:Nat) (w:World) (hx:8≤x∧x≤32∧x%8=0) (hy:8≤y∧y≤32∧y%8=0) (hv:0≤v∧v≤255) (hn:x*y=n) (hn2:n≤1024) :
 Calls Try.prog 17 #[.int .i64 x,.int .i64 y,.int .i64 v] w fun e w'=>∃ a c,e= .returned (.agg #[.int .i64 x,.int .i64 y,.slice a n c])∧w'.ownsRow w.heap.size 3 1 (.slice a n c) n (List.replicate n (.int .i64 v))∧Ext w w':=by
 have Hx:=Lib.hid hx;have Hy:=Lib.hid hy;have Hv:=Lib.hid hv;have Hn:=Lib.hid hn;clear hx hy hv hn;go_enter Try.func17,Try.ntmps17
 go_wp2_with fail
 refine(sideValid_yes x _ Hx.out.1 Hx.out.2.1 Hx.out.2.2).mono ?_
 rintro e w1 ⟨rfl,rfl⟩
 go_wp2_with fail
 refine(sideValid_yes y _ Hy.out.1 Hy.out.2.1 Hy.out.2.2).mono ?_
 rintro e w1 ⟨rfl,rfl⟩
 go_wp2_with fail
 refine(sampleValid_yes v _ Hv.out.1 Hv.out.2).mono ?_
 rintro e w1 ⟨rfl,rfl⟩
 have hb:x*y≤1024:=by rw[Hn.out];omega
 have hb0:0≤x*y:=by rw[Hn.out];omega
 have p0:=blk_new w (.cells #[.int .i64 0,.int .i64 0,.slice none 0 0] 43);go_wp2_with (at_make;refine wpList_mk _ rfl _ _ 26 rfl 3 (.int .i64 0) 8 Try.underlying26 info_int rfl _ n rfl rfl Hn.out (by omega) (by omega) ?_;intro w1 hown hgrow)
 have e1:Ext (w.alloc (.cells #[.int .i64 0,.int .i64 0,.slice none 0 0] 43)) w1:=Ext.grown (Below.refl _ _) hgrow (by simp);simp only[World.size_alloc]at hown;have E1:Ext w w1:=Ext.trans (Ext.alloc _ _) e1;have hB:w.heap.size+1<w1.heap.size:=(hown.lt _ rfl).2;have p1:=e1.blk p0;clear p0 e1 hgrow;have p2:=blk_alloc p1 (.cells #[.int .i64 x,.int .i64 y,.slice (some ⟨w.heap.size+1,0,none⟩) n n] 43);have q2:=blk_new w1 (.cells #[.int .i64 x,.int .i64 y,.slice (some ⟨w.heap.size+1,0,none⟩) n n] 43);have E2:Ext w (w1.alloc (.cells #[.int .i64 x,.int .i64 y,.slice (some ⟨w.heap.size+1,0,none⟩) n n] 43)):=E1.trans (Ext.alloc _ _);have hsz:w.heap.size+1≤w1.heap.size:=by have:=lt_of_block p1;omega
 have own2:=owns_ext hown (Ext.alloc w1 (.cells #[.int .i64 x,.int .i64 y,.slice (some ⟨w.heap.size+1,0,none⟩) n n] 43));have H0:=mix_zero (List.replicate n (.int .i64 v)) (List.replicate n (.int .i64 0));rw[←H0]at own2;clear H0 p1 hown E1;generalize w1.alloc (.cells #[.int .i64 x,.int .i64 y,.slice (some ⟨w.heap.size+1,0,none⟩) n n] 43)=w2 at *;generalize w1.heap.size=B at *;go_loopw [8,33] (fun _ i wr=>∃ k:Nat,k≤n∧i= .int .i64 k∧Ext w wr∧wr.heap[w.heap.size]?=some (.cells #[.int .i64 0,.int .i64 0,.slice none 0 0] 43 (0,0))∧wr.heap[B]?=some (.cells #[.int .i64 x,.int .i64 y,.slice (some ⟨w.heap.size+1,0,none⟩) n n] 43 (0,0))∧wr.ownsRow (w.heap.size+1) 3 1 (.slice (some ⟨w.heap.size+1,0,none⟩) n n) n (mix (List.replicate n (.int .i64 v)) (List.replicate n (.int .i64 0)) k)) (fun _ i _=>n-(intOf i).toNat)
 case atStart=>exact⟨0,by omega,rfl,E2,p2,q2,own2⟩
 case round =>
  obtain⟨k,hk,rfl,E3,p3,q3,own3⟩:=hrel;clear p2 q2 own2 E2;obtain⟨z0,z1,z2,z3,z4,z5,z6⟩:=bx3 q3
  by_cases hlt:k<n
  ·obtain⟨u,g2,-⟩:=owns_get own3 hlt;have g3:=own3.frozenAt k;go_wp2;go_roundw
   case rel =>
    obtain⟨o2,gr⟩:=own3.stored k (.int .i64 v);rw[mix_set _ _ k (by simp) (by simp[hlt]) _ (by simp[hlt])]at o2;exact⟨k+1,by omega,rfl,Ext.grown E3 gr (by simp),by rw[gr.block _ (lt_of_block p3) (by simp)];exact p3,by rw[gr.block _ (lt_of_block q3) (by simp;omega)];exact q3,o2⟩
   case measure=>simp[intOf];omega
  ·obtain rfl:k=n:=by omega
   rw[mix_all _ _ k (by simp) (by simp)]at own3;obtain⟨y0,y1,y2,y3,y4,y5,y6⟩:=bx3 p3;have hne:B≠w.heap.size:=by omega
   go_wp2;have p4:=blk_set3 (x' := .int .i64 x) (y' := .int .i64 y) (z' := .slice (some ⟨w.heap.size+1,0,none⟩) k k) p3;obtain⟨x0,x1,x2,x3,-⟩:=bx3 p4;refine bodyPost_ret (v := .agg #[.int .i64 x,.int .i64 y,.slice (some ⟨w.heap.size+1,0,none⟩) k k]) (by simp[results,Try.results17,go_sem,x1,x2,x3]) rfl ⟨_,_,rfl,?_,?_⟩
   ·have hlt:∀ i:Nat,(⟨w.heap.size,i,none⟩:Addr).block<w.heap.size+1:=fun i=>Nat.lt_succ_self _
    exact owns_mono (ownsRow_setCell_below (ownsRow_setCell_below (ownsRow_setCell_below own3 (hlt 0) _) (hlt 1) _) (hlt 2) _) (by omega)
   ·exact(((E3.setCell (Nat.le_refl _) _).setCell (Nat.le_refl _) _).setCell (Nat.le_refl _) _)
theorem alive_any (w:World):Calls Try.prog 9 #[] w fun e w'=>e= .returned (.bool true)∧Ext w w':=by
 go_enter Try.func9,Try.ntmps9
 go_wp2_with fail
 refine(NewPicture_any 8 8 7 64 _ (by decide) (by decide) (by decide) (by decide) (by decide)).mono ?_
 rintro e w1 ⟨a,c,rfl,-,e1⟩
 have hfd:∀ w:World,(Instr.field 43 (.agg #[.int .i64 8,.int .i64 8,.slice a 64 c]) 2).run Try.prog w= .ok (.slice a 64 c) w:=fun _=>by kernel_rfl
 go_wp2;go_ret
 exact⟨rfl,e1⟩
theorem conv_any (w:World) (a:Option Addr) (n c:Nat) (xs:List Int) (h:Sl w a n (xs.map (Value.int .u8))):(convert 22 9 (.slice a n c)).run Try.prog w= .ok (.string (strOfNums xs)) w:=by
 have hl:=h.int_len
 by_cases hn:0<n
 ·obtain⟨b2,o2,h2,h3⟩:=h.int hn;subst h2;exact run_convert_bytes_arg (P:=Try.prog) w 22 5 Try.underlying22 Try.underlying5 b2 o2 n c xs hl (fun i hi=>by
   obtain⟨b3,o3,h2,h3⟩:=h.int hi;simp only[Option.some.injEq,Addr.mk.injEq,and_true]at h2;obtain⟨rfl,rfl⟩:=h2;exact h3) 9 Try.underlying9
 ·obtain rfl:n=0:=by omega
  obtain rfl:xs = []:=List.eq_nil_of_length_eq_zero hl;cases a with
  | none=>exact run_convert_bytes_nil (P:=Try.prog) w 22 5 Try.underlying22 Try.underlying5 0 c 9 Try.underlying9
  | some ad =>
   have hq:(loadCells ad 0).run Try.prog w= .ok #[] w:=run_loadCells_list (P:=Try.prog) w ad [] (fun j v hj=>by simp at hj);rw[run_convert_bytes_string w 22 9 5 _ 0 c Try.underlying22 Try.underlying5 Try.underlying9];simp[Conv.bytesToString,Sem.run_bind,hq,strOfNums];rfl
/-- The decoder, the macroblocks read so far (v, k of them), and the one that is being read. -/
structure HS (w wr : World) (O : Nat) (a : Option Addr) (n c T : Nat) (v : Value) (k : Nat) (L : List Int) (q : Nat) (zs : List Int) : Prop where
 dk:DK wr w.heap.size O a n c T
 fd:FD w.heap.size w wr
 ow:wr.ownsRow w.heap.size 84 71 v k (L.map (Value.int .i64))
 qb:IB wr q 84 zs
 ln:zs.length=71
 lt:∀ g,v.ownBlock=some g→g<q
 hq:w.heap.size≤q
theorem HS.spl {w wr w2:World} {O n c T k q off:Nat} {a:Option Addr} {v:Value} {L zs ys:List Int} (h:HS w wr O a n c T v k L q zs) (p:IB w2 q 84 (spl zs off ys)) (g:wr.grownBy w2 (some q)) (hl:(spl zs off ys).length=71):HS w w2 O a n c T v k L q (spl zs off ys):=by
 have hq:=h.hq;have lt:=h.lt;exact⟨h.dk.gr g (fun q' e=>by cases e;exact⟨by omega,_,_,h.qb,by decide,by decide⟩),h.fd.gr g (fun q' e=>by cases e;omega) (Nat.le_refl _),h.ow.kept g (by
  cases hv:v.ownBlock with
  | none=>exact .inl rfl
  | some x=>exact .inr (fun e=>by have:=lt x hv;cases e;omega)),p,hl,lt,hq⟩
theorem HS.call {w wr w2:World} {O n c T T' k q:Nat} {a:Option Addr} {v:Value} {L zs:List Int} (h:HS w wr O a n c T v k L q zs) (d:DK w2 w.heap.size O a n c T') (f:FD w.heap.size wr w2):HS w w2 O a n c T' v k L q zs :=
 ⟨d,h.fd.trans f,f.owns h.ow (by decide) (by decide),f.ib h.qb (by decide) (by decide),h.ln,h.lt,h.hq⟩
theorem HS.ext {w wr w2:World} {O n c T k q:Nat} {a:Option Addr} {v:Value} {L zs:List Int} (h:HS w wr O a n c T v k L q zs) (e:Ext wr w2):HS w w2 O a n c T v k L q zs :=
 h.call (h.dk.ext e) (FD.ext e h.fd.1.size)
/-- A block of sixteen that was just stored. -/
theorem HS.oth {w wr w2:World} {O n c T k q p:Nat} {a:Option Addr} {v:Value} {L zs zl:List Int} (h:HS w wr O a n c T v k L q zs) (hp:IB wr p 81 zl) (hpq:q<p) (g:wr.grownBy w2 (some p)):HS w w2 O a n c T v k L q zs:=by
 have hq:=h.hq;have lt:=h.lt;exact⟨h.dk.gr g (fun q' e=>by cases e;exact⟨by omega,_,_,hp,by decide,by decide⟩),h.fd.gr g (fun q' e=>by cases e;omega) (Nat.le_refl _),h.ow.kept g (by
  cases hv:v.ownBlock with
  | none=>exact .inl rfl
  | some x=>exact .inr (fun e=>by have:=lt x hv;cases e;omega)),h.qb.gr g (by simp;omega),h.ln,lt,hq⟩
/-- What DecodeSlice answers. -/
def DsR (w:World) (e:Ending) (w':World):Prop:=∃(v:Value) (b:Bool),e= .returned (.tuple #[v,.bool b])∧Ext w w'
theorem spec_DecodeSlice_any (w:World) (a:Option Addr) (n c:Nat) (xs:List Int) (many:Int) (intra:Bool) (hs:Sl w a n (xs.map (Value.int .u8))) (hb:∀ z∈xs,0≤z∧z≤255) (hn:n≤2^40) :
 Calls Try.prog 41 #[.slice a n c,.int .i64 many,.bool intra] w (DsR w):=by
 have hI:=Inp.of_sl hs hb;have oA:=World.ownsRow_made (base:=w.heap.size) (e:=84) (size:=71) w #[] 0 (Nat.le_refl _) (by simp) rfl;have EA:=Ext.alloc w (.cells #[] 84);have Hs:=Lib.hid hs;clear hs;go_enter Try.func41,Try.ntmps41
 by_cases hm:1≤many∧many≤4
 ·obtain⟨N,rfl⟩:=Int.eq_ofNat_of_zero_le (show 0≤many by omega);have hN1:1≤N:=by omega
  have hN4:N≤4:=by omega
  go_wp2_with fail
  refine(l1In_yes _ _ _ _ (by omega) (by omega)).mono ?_
  rintro e w1 ⟨rfl,rfl⟩
  clear hm;go_wp2_with fail
  refine(spec_l9Open_at _ w.heap.size a n c EA.size (hI.below EA) hn).mono ?_
  rintro e w2 ⟨O,rfl,D2,e2⟩
  have F2:FD w.heap.size w w2:=(FD.ext EA (Nat.le_refl _)).trans (FD.ext e2 EA.size);have o2:=owns_ext oA e2;clear oA EA e2 hI;go_wp2_with fail
  go_loopw [8,10] (fun v i wr=>∃(k:Nat) (L:List Int),k≤N∧i= .int .i64 (k:Nat)∧DK wr w.heap.size O a n c (4+40000*k)∧FD w.heap.size w wr∧wr.ownsRow w.heap.size 84 71 v k (L.map (Value.int .i64))) (fun _ i _=>N-(intOf i).toNat)
  case atStart=>exact⟨0,[],by omega,rfl,D2,F2,o2⟩
  case round =>
   clear D2 F2 o2;obtain⟨k,L,hk,rfl,D3,F3,o3⟩:=hrel;have hs3:=F3.1.size;obtain⟨a3,c3,rfl⟩:=owns_form o3
   by_cases hlt:k<N
   ·go_wp2_with fail
    refine(spec_l10Head_any _ w.heap.size O _ intra a n c D3 (by omega)).mono ?_
    rintro e w4 ⟨zs,ok,rfl,hz,D4,F4⟩
    have o4:=F4.owns o3 (by decide) (by decide);have Hz:=Lib.hid hz;have Z1:=IB.new w4 84 (zl 71);have e5:=Ext.alloc w4 (.cells (ic (zl 71)) 84);have F45:=F3.trans F4;have S5:HS w (w4.alloc (.cells (ic (zl 71)) 84)) O a n c (4+40000*k+2000) (.slice a3 k c3) k L w4.heap.size (zl 71):=⟨D4.ext e5,F45.trans (FD.ext e5 F45.1.size),owns_ext o4 e5,Z1,zl_len 71,fun g hg=>(o4.lt g hg).2,F45.1.size⟩;clear D3 F3 o3 D4 F4 o4 e5 F45 hz;go_wp2_with (first|(refine wpList_iallocz 84 rfl rfl 71 zero_Macz ?_;(try simp only[World.size_alloc]))|(refine wpList_istore 84 _ _ rfl rfl Z1 0 71 rfl _ rfl zs rfl size_Macro Hz.out (by simp[zl]) ?_;intro w6 q6 g6;refine Hid.out ?_))
    have S6:=S5.spl q6 g6 (by rw[spl_all (by rw[zl_len,Hz.out])];exact Hz.out);rw[spl_all (by rw[zl_len,Hz.out])]at S6;clear S5 Z1 q6 g6;obtain⟨q,hq⟩:∃ q,q=w4.heap.size:=⟨_,rfl⟩;rw[←hq]at S6⊢;clear hq Hz;refine Lib.hid ?_;go_wp2_with fail
    go_loopw [12,13] (fun b i wr=>∃(j:Nat) (ok:Bool) (zs:List Int),j≤4∧i= .int .i64 (j:Nat)∧b= .bool ok∧HS w wr O a n c (4+40000*k+2000+7000*j) (.slice a3 k c3) k L q zs) (fun _ i _=>4-(intOf i).toNat)
    case atStart=>exact⟨0,ok,zs,by omega,rfl,rfl,S6⟩
    case round =>
     clear S6;obtain⟨j,ok,zs,hj,rfl,rfl,S7⟩:=hrel;have k0:=S7.qb.cell (i:=0) (by rw[S7.ln];omega)
     by_cases hgo:j<4∧ok=true∧nth zs 0≠0
     ·obtain⟨hj4,rfl,hk0⟩:=hgo;have hkd:(nth zs 0 != 0)=true:=by simpa using hk0
      generalize nth zs 0=kd at *;go_wp2_with fail
      refine(spec_l10Levels_any _ w.heap.size O _ a n c S7.dk (by omega)).mono ?_
      rintro e w8 ⟨ys,fine,rfl,hy,D8,F8⟩
      have S8:=S7.call D8 F8;have Hy:=Lib.hid hy;clear S7 D8 F8 hy k0;have P1:=IB.new w8 81 (zl 16);have S9:=S8.ext (Ext.alloc w8 (.cells (ic (zl 16)) 81));have hqp:q<w8.heap.size:=S8.qb.lt;clear S8;go_wp2_with (first|(refine wpList_iallocz 81 rfl rfl 16 zero_A16 ?_;(try simp only[World.size_alloc]))|(refine wpList_istore 81 _ _ rfl rfl P1 0 16 rfl _ rfl ys rfl size_A16 Hy.out (by simp[zl]) ?_;intro w10 p10 g10;refine Hid.out ?_))
      have S10:=S9.oth P1 hqp g10;rw[spl_all (by rw[zl_len,Hy.out])]at p10;clear S9 P1 g10;obtain⟨p,hp⟩:∃ p,p=w8.heap.size:=⟨_,rfl⟩;rw[←hp]at p10 hqp⊢;clear hp;refine Lib.hid ?_;have Q10:=S10.qb;have L10:=S10.ln;go_wp2_with (first|(refine wpList_iload 81 _ rfl rfl p10 0 16 rfl _ Try.underlying81 rfl size_A16 (by rw[Hy.out];omega) _ (by rw[sub_all _ _ Hy.out]) ?_)|(refine wpList_istore 81 _ _ rfl rfl Q10 (7+j*16) 16 rfl _ rfl ys rfl size_A16 Hy.out (by rw[L10];omega) ?_;intro w11 q11 g11;refine Hid.out ?_))
      have S11:=S10.spl q11 g11 (by simp[spl,L10,Hy.out];omega);clear S10 Q10 q11 g11 p10;refine Lib.hid ?_;go_wp2;go_roundw
      case rel=>exact⟨j+1,fine,_,by omega,by go_num,rfl,S11.call (S11.dk.mono (by omega)) (FD.refl _ _)⟩
      case measure=>simp[intOf] <;> omega
     ·cases ok
      case false =>
       have ER:=Ext.trans S7.fd.1 (Ext.alloc wr (.cells #[] 84))
       by_cases hj4:j<4
       ·have hd4:decide ((j:Int)<4)=true:=by simp;omega
        clear hgo S7 k0;go_wp2;go_ret2
        exact⟨_,_,rfl,ER⟩
       ·have hd4:decide ((j:Int)<4)=false:=by simp;omega
        clear hgo S7 k0;go_wp2;go_ret2
        exact⟨_,_,rfl,ER⟩
      case true =>
       have Q7:=S7.qb;have L7:=S7.ln;have hs7:=S7.fd.1.size
       by_cases hj4:j<4
       ·have hd4:decide ((j:Int)<4)=true:=by simp;omega
        have hk0:nth zs 0=0:=Classical.byContradiction fun h=>hgo ⟨hj4,rfl,h⟩
        rw[hk0]at k0;clear hgo hk0;go_wp2_with (first|(at_builtin;refine wpList_app71 _ S7.ow hs7 zs L7 rfl _ _ rfl rfl rfl (by omega) ?_;intro v8 w8 own8 gr8;refine Hid.out ?_)|refine wpList_bs1 _ rfl rfl zs rfl L7 ?_|(refine wpList_iload 84 _ rfl rfl Q7 0 71 rfl _ Try.underlying84 rfl size_Macro (by rw[L7];omega) _ (by rw[sub_all _ _ L7]) ?_))
        refine Lib.hid ?_;have D8:=S7.dk.gr gr8 (own_q S7.ow w.heap.size (Nat.le_refl _) (by decide) (by decide));have F8:=S7.fd.gr gr8 (owns_ge S7.ow) (Nat.le_refl _);have o8:w8.ownsRow w.heap.size 84 71 v8 (k+1) ((L++zs).map (Value.int .i64)):=by rw[List.map_append];exact own8
        obtain⟨a8,c8,rfl⟩:=owns_form o8;clear S7 own8 gr8 Q7;go_wp2;go_roundw
        case rel=>exact⟨k+1,L++zs,by omega,by go_num,D8.mono (by omega),F8,o8⟩
        case measure=>simp[intOf] <;> omega
       ·have hd4:decide ((j:Int)<4)=false:=by simp;omega
        clear hgo k0;go_wp2_with (first|(at_builtin;refine wpList_app71 _ S7.ow hs7 zs L7 rfl _ _ rfl rfl rfl (by omega) ?_;intro v8 w8 own8 gr8;refine Hid.out ?_)|refine wpList_bs1 _ rfl rfl zs rfl L7 ?_|(refine wpList_iload 84 _ rfl rfl Q7 0 71 rfl _ Try.underlying84 rfl size_Macro (by rw[L7];omega) _ (by rw[sub_all _ _ L7]) ?_))
        refine Lib.hid ?_;have D8:=S7.dk.gr gr8 (own_q S7.ow w.heap.size (Nat.le_refl _) (by decide) (by decide));have F8:=S7.fd.gr gr8 (owns_ge S7.ow) (Nat.le_refl _);have o8:w8.ownsRow w.heap.size 84 71 v8 (k+1) ((L++zs).map (Value.int .i64)):=by rw[List.map_append];exact own8
        obtain⟨a8,c8,rfl⟩:=owns_form o8;clear S7 own8 gr8 Q7;go_wp2;go_roundw
        case rel=>exact⟨k+1,L++zs,by omega,by go_num,D8.mono (by omega),F8,o8⟩
        case measure=>simp[intOf] <;> omega
   ·obtain rfl:k=N:=by omega
    have hd:decide ((k:Int)<k)=false:=by simp
    have HMR:=Lib.hid (MR.of_own o3);have E3:=F3.1;have HS3:=Lib.hid (Hs.out.ext E3);obtain⟨ZS,hZS⟩:∃ z,z=slcL (fun i=>macOf (sub L (i*71) 71)) intra k:=⟨_,rfl⟩;have HZS:=Lib.hid hZS;clear hZS D3 F3 o3;go_upto_region 18 with fail
    have hext:Stab (fun wa wb=>Ext wa wb) (fun i own ys wx=>match i with|0=>own= .slice a3 k c3|1=>own= .bool intra|2=>∃(a':Option Addr) (c':Nat),own= .slice a' ZS.length c'∧Sl wx a' ZS.length (ZS.map (Value.int .u8))|3=>own= .string (strOfNums ZS)|4=>own= .slice a n c|5=>own= .string (strOfNums xs)|6=>∃ b:Bool,own= .bool b|_=>True):=by
     intro i own ys wa wb e h
     match i,h with
     | 0,h|1,h|3,h|4,h|5,h|6,h=>exact h
     | 2,h=>obtain⟨x9,y9,h1,h2⟩:=h;exact⟨x9,y9,h1,h2.ext e⟩
     | _+7,_=>trivial
    have Hext:=Lib.hid hext;clear hext;refine wp_region_inv2 (by kernel_rfl) [(63,0),(64,1),(65,2),(66,3),(67,4),(68,5),(69,6)] [[],[],[0,1],[0,1,2],[],[4],[0,1,2,3,4,5]] (fun i own ys wx=>match i with|0=>own= .slice a3 k c3|1=>own= .bool intra|2=>∃(a':Option Addr) (c':Nat),own= .slice a' ZS.length c'∧Sl wx a' ZS.length (ZS.map (Value.int .u8))|3=>own= .string (strOfNums ZS)|4=>own= .slice a n c|5=>own= .string (strOfNums xs)|6=>∃ b:Bool,own= .bool b|_=>True) (fun kx wx=>Ext wr wx) (by kernel_rfl) (by kernel_rfl) (by kernel_rfl) ?g0_r1 ?gop_r1 ?gend_r1
    case g0_r1=>exact Ext.drewN _ 1
    case gop_r1 =>
     refine⟨?_,?_,?o2,?o3,?_,?o5,?o6,trivial⟩ <;> (intro kx xs wx hk hG hD hI Qo Kx hK hQo;simp only[patchS,Nat.reduceAdd,Nat.reduceEqDiff,↓reduceIte]at hQo⊢)
     case o2 =>
      rw[ddq (hD 0 rfl),ddq (hD 1 rfl)]at hQo⊢;clear hD hI;go_wp2_with fail
      refine(spec_EncodeSlice_any a3 _ c3 _ intra _ (HMR.out.ext hG) (by omega)).mono ?_;rw[←HZS.out]
      rintro e w9 ⟨a9,c9,rfl,o9,e9⟩
      go_wp2;exact hK.out _ _ ⟨⟨a9,c9,rfl,Sl.of_owns o9⟩,hG.trans e9,fun i _ _ _ own ys h=>Hext.out i own ys _ _ e9 h⟩
     case o3 =>
      have d2:∃(a':Option Addr) (c':Nat),(xs 2) = .slice a' ZS.length c'∧Sl wx a' ZS.length (ZS.map (Value.int .u8)):=hD 2 rfl;clear hD hI;generalize xs 2=y2 at *;obtain⟨a2,c2,rfl,s2⟩:=d2;have hcv:=conv_any wx _ _ c2 _ s2;go_wp2;exact hK.out _ _ ⟨rfl,hG,kkp⟩
     case o5 =>
      rw[ddq (hD 4 rfl)]at hQo⊢;clear hD hI;have hcv:=conv_any wx _ _ c _ (HS3.out.ext hG);go_wp2;exact hK.out _ _ ⟨rfl,hG,kkp⟩
     case o6 =>
      rw[ddq (hD 3 rfl),ddq (hD 5 rfl)]at hQo⊢;clear hD hI;go_wp2;exact hK.out _ _ ⟨⟨_,rfl⟩,hG,kkp⟩
     all_goals
      clear hD hI;go_wp2;exact hK.out _ _ ⟨rfl,hG,kkp⟩
    clear Hext;intro xs wx hV hG;have d6:∃ b:Bool,(xs 6) = .bool b:=hV 6 (by decide);clear hV;simp only[patchS,Nat.reduceAdd,Nat.reduceEqDiff,↓reduceIte];generalize xs 0=y0,xs 1=y1,xs 2=y2,xs 3=y3,xs 4=y4,xs 5=y5,xs 6=y6 at *
    replace hG:Ext wr wx:=hG
    obtain⟨b6,rfl⟩:=d6;have E6:=Ext.trans E3 hG;have E7:=Ext.trans E6 (Ext.alloc wx (.cells #[] 84));clear E3 hG;cases b6
    ·go_wp2;go_ret2
     exact⟨_,_,rfl,E6⟩
    ·go_wp2;go_ret2
     exact⟨_,_,rfl,E7⟩
 ·go_wp2_with fail
  refine(l1In_no _ _ _ _ (by omega)).mono ?_
  rintro e w1 ⟨rfl,rfl⟩
  go_wp2;go_ret2
  exact⟨_,_,rfl,EA⟩
theorem l1In_b (x lo hi:Int) (w:World):Calls Try.prog 28 #[.int .i64 x,.int .i64 lo,.int .i64 hi] w fun e w'=>∃ b:Bool,e= .returned (.bool b)∧w=w':=by
 by_cases h1:lo≤x∧x≤hi
 ·exact(l1In_yes _ _ _ _ h1.1 h1.2).mono fun e w' ⟨h,h'⟩=>⟨_,h,h'⟩
 ·exact(l1In_no _ _ _ _ (by omega)).mono fun e w' ⟨h,h'⟩=>⟨_,h,h'⟩
theorem spec_l11Head_b (W H q:Int) (i:Bool) (a:Option Addr) (n c:Nat) (w:World) :
 Calls Try.prog 40 #[.agg #[.int .i64 W,.int .i64 H,.bool i,.int .i64 q,.slice a n c]] w fun e w'=>∃ b:Bool,e= .returned (.bool b)∧Ext w w':=by
 have E1:=Ext.alloc w (.cells #[.int .i64 W,.int .i64 H,.bool i,.int .i64 q,.slice a n c] 41);go_enter Try.func40,Try.ntmps40
 go_wp2_with fail
 refine(l1In_b _ _ _ _).mono ?_
 rintro e w1 ⟨b1,rfl,rfl⟩
 cases b1
 ·go_wp2;go_ret
  exact⟨_,rfl,E1⟩
 go_wp2_with fail
 refine(l1In_b _ _ _ _).mono ?_
 rintro e w1 ⟨b1,rfl,rfl⟩
 cases b1
 ·go_wp2;go_ret
  exact⟨_,rfl,E1⟩
 go_wp2_with fail
 all_goals (try (go_ret;exact⟨_,rfl,E1⟩))
 refine(l1In_b _ _ _ _).mono ?_
 rintro e w1 ⟨b1,rfl,rfl⟩
 cases b1
 ·go_wp2;go_ret
  exact⟨_,rfl,E1⟩
 go_wp2;all_goals (go_ret;exact⟨_,rfl,E1⟩)
theorem SQ.cell {w:World} {a:Option Addr} {n:Nat} {f:Nat→List Int} (h:SQ w a n f) {i:Nat} (hi:i<n):∃ b o a2 c2,a=some ⟨b,o,none⟩∧w.cell? ⟨b,o+i,none⟩=some (.slice a2 (f i).length c2)∧BA w a2 c2 (f i):=by
 obtain⟨b,o,arr,h1,h2,a2,c2,h3,h4⟩:=h i hi;exact⟨b,o,a2,c2,h1,by simp[World.cell?,h2,h3],h4⟩
theorem spec_CodedValid_b (W H q:Int) (ib:Bool) (a:Option Addr) (n c:Nat) (f:Nat→List Int) (w:World) (hq:SQ w a n f) (hf:okF f n) (hn:n≤100) :
 Calls Try.prog 33 #[.agg #[.int .i64 W,.int .i64 H,.bool ib,.int .i64 q,.slice a n c]] w fun e w'=>∃ b:Bool,e= .returned (.bool b)∧Ext w w':=by
 have E1:=Ext.alloc w (.cells #[.int .i64 W,.int .i64 H,.bool ib,.int .i64 q,.slice a n c] 41);have B1:=blk_new w (.cells #[.int .i64 W,.int .i64 H,.bool ib,.int .i64 q,.slice a n c] 41);have HF:=Lib.hid hf;clear hf;go_enter Try.func33,Try.ntmps33
 go_wp2_with fail
 refine(spec_l11Head_b _ _ _ _ _ _ _ _).mono ?_
 rintro e w2 ⟨b1,rfl,e2⟩
 have E2:=E1.trans e2;have B2:=e2.blk B1;clear E1 B1 e2;obtain⟨B,hB⟩:∃ B,B=w.heap.size:=⟨_,rfl⟩;rw[←hB]at B2⊢;clear hB;cases b1
 ·go_wp2;go_ret
  exact⟨_,rfl,E2⟩
 go_wp2_with fail
 go_loopw [3] (fun j wr=>∃ k:Nat,k≤n∧j= .int .i64 (k:Nat)∧Ext w wr∧wr.heap[B]?=some (.cells #[.int .i64 W,.int .i64 H,.bool ib,.int .i64 q,.slice a n c] 41 (0,0))) (fun j _=>n-(intOf j).toNat)
 case atStart=>exact⟨0,by omega,rfl,E2,B2⟩
 case round =>
  clear E2 B2;obtain⟨k,hk,rfl,E3,B3⟩:=hrel;obtain⟨-,k0,k1,k2,k3,k4⟩:=bx5 B3
  by_cases hlt:k<n
  ·obtain⟨b1,o1,a2,c2,rfl,u1,v1⟩:=(hq.ext E3).cell hlt;have hkn:(k:Int)<n:=by omega
   have hfk:=HF.out k hlt;obtain⟨ls,hls⟩:∃ ls,ls=f k:=⟨_,rfl⟩;rw[←hls]at u1 v1 hfk;have HX:=Lib.hid hfk;have hxl:=hfk.1;have HV:=Lib.hid v1;clear hls hfk v1;go_upto_region 6 with fail
   clear k0 k1 k2 k3 k4;refine wp_region_inv2 (by kernel_rfl) [(4,14),(5,15),(16,11),(17,0),(18,1),(19,2),(20,3),(21,4),(22,5),(23,6),(24,7),(25,8),(26,9),(27,10),(28,12),(29,13)] [[],[0],[],[0,1,2],[0,1,2,3],[],[5],[5,6],[],[8],[0,1,2,3,4,5,6,7,8,9],[0,1,2,3,4,5,6,7,8,9,10],[0,1,2,3,4,5,6,7,8,9,10,11],[0,1,2,3,4,5,6,7,8,9,10,11],[0,1,2,3,4,5,6,7,8,9,10,11,12],[0,1,2,3,4,5,6,7,8,9,10,11,12,13,14]] (fun i own ys wx=>match i with|0=>own= .pointer (some ⟨B,4,none⟩)|1=>own= .slice (some ⟨b1,o1,none⟩) n c|2=>own= .int .i64 (k:Int)|3=>own= .pointer (some ⟨b1,o1+k,none⟩)|4=>own= .slice a2 ls.length c2|5=>own= .pointer (some ⟨B,0,none⟩)|6=>own= .int .i64 W|7=>∃ m:Int,own= .int .i64 m|8=>own= .pointer (some ⟨B,2,none⟩)|9=>own= .bool ib|10=>∃(v:Value) (b:Bool),own= .tuple #[v,.bool b]|11=>∃(v:Value) (b:Bool),own= .tuple #[v,.bool b]|12=>∃ v:Value,own=v|13=>∃ b:Bool,own= .bool b|14=>∃ v:Value,own=v|15=>∃ b:Bool,own= .bool b|_=>True) (fun kx wx=>Ext wr wx) (by kernel_rfl) (by kernel_rfl) (by kernel_rfl) ?g0_r1 ?gop_r1 ?gend_r1
   case g0_r1=>exact Ext.drewN _ 1
   case gop_r1 =>
    refine⟨?_,?o1,?_,?o3,?o4,?_,?o6,?o7,?_,?o9,?o10,?o11,?o12,?o13,?o14,?o15,trivial⟩ <;> (intro kx xs wx hk hG hD hI Qo Kx hK hQo;simp only[patchS,Nat.reduceAdd,Nat.reduceEqDiff,↓reduceIte]at hQo⊢)
    case o1 =>
     rw[ddq (hD 0 rfl)]at hQo⊢;clear hD hI;obtain⟨-,k0,k1,k2,k3,k4⟩:=bx5 (hG.blk B3);go_wp2;exact hK.out _ _ ⟨rfl,hG,kkp⟩
    case o3 =>
     rw[ddq (hD 1 rfl),ddq (hD 2 rfl)]at hQo⊢;clear hD hI;go_wp2;exact hK.out _ _ ⟨rfl,hG,kkp⟩
    case o4 =>
     rw[ddq (hD 3 rfl)]at hQo⊢;clear hD hI;have k0:=cell_ext hG u1;go_wp2;exact hK.out _ _ ⟨rfl,hG,kkp⟩
    case o6 =>
     rw[ddq (hD 5 rfl)]at hQo⊢;clear hD hI;obtain⟨-,k0,k1,k2,k3,k4⟩:=bx5 (hG.blk B3);go_wp2;exact hK.out _ _ ⟨rfl,hG,kkp⟩
    case o7 =>
     rw[ddq (hD 6 rfl)]at hQo⊢;clear hD hI;go_wp2;exact hK.out _ _ ⟨⟨_,rfl⟩,hG,kkp⟩
    case o9 =>
     rw[ddq (hD 8 rfl)]at hQo⊢;clear hD hI;obtain⟨-,k0,k1,k2,k3,k4⟩:=bx5 (hG.blk B3);go_wp2;exact hK.out _ _ ⟨rfl,hG,kkp⟩
    case o10 =>
     rw[ddq (hD 4 rfl),ddq (hD 9 rfl)]at hQo⊢;have d7:∃ m:Int,(xs 7) = .int .i64 m:=hD 7 rfl;clear hD hI;generalize xs 7=y7 at *;obtain⟨m7,rfl⟩:=d7;go_wp2_with fail
     refine(spec_DecodeSlice_any _ a2 ls.length c2 ls m7 ib (HV.out.sl.ext hG) HX.out.2 (by omega)).mono ?_
     rintro e w9 ⟨v9,b9,rfl,e9⟩
     go_wp2;exact hK.out _ _ ⟨⟨_,_,rfl⟩,hG.trans e9,kkp⟩
    case o11 =>
     have d10:∃(v:Value) (b:Bool),(xs 10) = .tuple #[v,.bool b]:=hD 10 rfl;clear hD hI;generalize xs 10=y10 at *;obtain⟨v10,b10,rfl⟩:=d10;go_wp2;exact hK.out _ _ ⟨⟨_,_,rfl⟩,hG,kkp⟩
    case o12 =>
     have d11:∃(v:Value) (b:Bool),(xs 11) = .tuple #[v,.bool b]:=hD 11 rfl;clear hD hI;generalize xs 11=y11 at *;obtain⟨v11,b11,rfl⟩:=d11;go_wp2;exact hK.out _ _ ⟨⟨_,rfl⟩,hG,kkp⟩
    case o13 =>
     have d11:∃(v:Value) (b:Bool),(xs 11) = .tuple #[v,.bool b]:=hD 11 rfl;clear hD hI;generalize xs 11=y11 at *;obtain⟨v11,b11,rfl⟩:=d11;go_wp2;exact hK.out _ _ ⟨⟨_,rfl⟩,hG,kkp⟩
    case o14 =>
     have d12:∃ v:Value,(xs 12)=v:=hD 12 rfl;clear hD hI;generalize xs 12=y12 at *;obtain⟨v12,rfl⟩:=d12;go_wp2;exact hK.out _ _ ⟨⟨_,rfl⟩,hG,kkp⟩
    case o15 =>
     have d13:∃ b:Bool,(xs 13) = .bool b:=hD 13 rfl;clear hD hI;generalize xs 13=y13 at *;obtain⟨b13,rfl⟩:=d13;go_wp2;exact hK.out _ _ ⟨⟨_,rfl⟩,hG,kkp⟩
    all_goals
     clear hD hI;go_wp2;exact hK.out _ _ ⟨rfl,hG,kkp⟩
   intro xs wx hV hG;have d15:∃ b:Bool,(xs 15) = .bool b:=hV 15 (by decide);clear hV;simp only[patchS,Nat.reduceAdd,Nat.reduceEqDiff,↓reduceIte];generalize xs 0=y0,xs 1=y1,xs 2=y2,xs 3=y3,xs 4=y4,xs 5=y5,xs 6=y6,xs 7=y7,xs 8=y8,xs 9=y9,xs 10=y10,xs 11=y11,xs 12=y12,xs 13=y13,xs 14=y14,xs 15=y15 at *
   replace hG:Ext wr wx:=hG
   obtain⟨b15,rfl⟩:=d15;have E4:=E3.trans hG;have B4:=hG.blk B3;clear E3 B3 hG u1;cases b15
   ·go_wp2;go_ret
    exact⟨_,rfl,E4⟩
   ·go_wp2;go_roundw
    case rel=>exact⟨k+1,by omega,by go_num,E4,B4⟩
    case measure=>simp[intOf] <;> omega
  ·obtain rfl:k=n:=by omega
   go_wp2;go_ret
   exact⟨_,rfl,E3⟩
end Go.Proofs.Ytphfacfjhjcllaa
