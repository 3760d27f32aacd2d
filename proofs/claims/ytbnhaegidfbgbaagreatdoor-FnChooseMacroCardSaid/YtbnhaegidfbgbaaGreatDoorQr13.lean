/- Drawing: a position in a picture. | Drawing: the arguments of IntraMacro, InterMacro and Reconstruct. | Drawing: the arguments of MacroCost. | Drawing: the arguments of ChooseMacro. | The search for the best vector: plain. | What a macroblock costs: the reference's walk. -/
import Derived.Test.YtbnhaegidfbgbaaGreatDoorQr12
set_option linter.unusedVariables false
set_option linter.unusedSimpArgs false
set_option maxRecDepth 100000
set_option maxHeartbeats 4000000
namespace Go.Proofs.YtbnhaegidfbgbaaGreatDoor
open Go.RowKit
theorem tdiv8 {W:Int} (h : -8≤W∧W≤40) : -1≤W.tdiv 8∧W.tdiv 8≤5:=by
 by_cases h0:0≤W
 ·rw[Int.tdiv_eq_ediv_of_nonneg h0];omega
 ·obtain rfl|rfl|rfl|rfl|rfl|rfl|rfl|rfl:W = -1∨W = -2∨W = -3∨W = -4∨W = -5∨W = -6∨W = -7∨W = -8:=by omega
  all_goals decide
theorem l20At_c (b P:Nat) (W H:Int) (a:Option Addr) (c n:Nat) (m:Int) (w:World) (h:RdP w b P) (hp:P<2^36) (hm0:0≤m) (hm:m≤1000000) (hW : -8≤W∧W≤40) (hH:0≤H∧H≤40) :
 Calls Tryz.prog 33 #[.pointer (some ⟨b,0,none⟩),.agg #[.int .i64 W,.int .i64 H,.slice a n c],.int .i64 m] w fun e w'=>∃ x y:Int,e= .returned (.tuple #[.int .i64 x,.int .i64 y])∧0≤y∧y≤32∧RdP w' b (P+50)∧w.grownBy w' (some b):=by
 have hbw:b<w.heap.size:=h.lt;have e0:=Ext.alloc w (.cells #[.int .i64 W,.int .i64 H,.slice a n c] 25);have R0:=blk_new w (.cells #[.int .i64 W,.int .i64 H,.slice a n c] 25);have r0:=h.ext e0;have g0:w.grownBy _ (some b):=ext_gr e0;have hu1:=tdiv8 hW;obtain⟨u,hu⟩:∃ u,u=max 1 (W.tdiv 8):=⟨_,rfl⟩;have hu2:1≤u∧u≤5:=by omega
 have Hu:=Lib.hid hu;obtain⟨v,hv⟩:∃ v,v=max 1 (min 4 (H/8)):=⟨_,rfl⟩;have hv2:1≤v∧v≤4:=by omega
 have Hv:=Lib.hid hv;clear e0 h hu hv;go_enter Tryz.func33,Tryz.ntmps33
 go_upto_region 1 with fail
 generalize w.alloc (.cells #[.int .i64 W,.int .i64 H,.slice a n c] 25)=w0 at *;refine wp_region_seq [(8,7),(10,0),(11,1),(12,2),(13,3),(14,4),(15,5),(16,6)] [[],[0],[0,1],[0,1,2],[0,1,2,3],[0,1,2,3,4],[0,1,2,3,4,5],[0,1,2,3,4,5,6]] (fun i own ys wx=>match i with|0=>own= .pointer (some ⟨b,0,none⟩)|1=>own= .pointer (some ⟨w.heap.size,0,none⟩)|2=>own= .int .i64 W|3=>own= .int .i64 (W.tdiv 8)|4=>own= .int .i64 u|5=>∃ x:Int,own= .int .i64 x∧0≤x∧x<u|6=>∃ x:Int,own= .int .i64 x∧0≤x∧x≤32|7=>∃ x:Int,own= .int .i64 x∧0≤x∧x≤32|_=>True) (fun kx wx=>DG w0 b P 1 kx wx) (by kernel_rfl) (by kernel_rfl) ?g0_r1 ?gop_r1 ?gend_r1
 case g0_r1=>exact DG.zero' r0
 case gop_r1 =>
  refine⟨?_,?_,?o2,?o3,?o4,?o5,?o6,?o7,trivial⟩ <;> (intro kx xs wx hk hG hD hI Qo Kx hK hQo;simp only[patchS,Nat.reduceAdd,Nat.reduceEqDiff,↓reduceIte]at hQo⊢)
  case o2 =>
   rw[ddq (hD 1 rfl)]at hQo⊢;clear hD hI;have Rx:=gr_blk hG.1 R0 (by omega);obtain⟨-,q0,q1,q2,-⟩:=bx3 Rx;go_wp2;exact hK.out _ _ ⟨rfl,hG.step,kkp⟩
  case o3 =>
   rw[ddq (hD 2 rfl)]at hQo⊢;clear hD hI;go_wp2;exact hK.out _ _ ⟨rfl,hG.step,kkp⟩
  case o4 =>
   rw[ddq (hD 3 rfl)]at hQo⊢;clear hD hI;go_wp2;all_goals exact hK.out _ _ ⟨by have:=Hu.out;congr 1 <;> omega,hG.step,fun _ _ _ _ _ _ h=>h⟩
  case o5 =>
   rw[ddq (hD 0 rfl),ddq (hD 4 rfl)]at hQo⊢;clear hD hI;go_wp2_with fail
   refine(pick_c _ _ _ _ hG.2 (DG.small hk (by decide) (by decide) (by omega)) (by omega) (by omega)).mono ?_
   rintro e w4 ⟨xx,rfl,xa,xb,rd,gr⟩
   go_wp2;exact hK.out _ _ ⟨⟨xx,rfl,xa,by omega⟩,hG.more gr rd (by decide),kkp⟩
  case o6 =>
   have d5:∃ x:Int,(xs 5) = .int .i64 x∧0≤x∧x<u:=hD 5 rfl;clear hD hI;generalize xs 5=y5 at *;obtain⟨x5,rfl,x5a,x5b⟩:=d5;go_wp2;exact hK.out _ _ ⟨⟨_,rfl,by omega,by omega⟩,hG.step,kkp⟩
  case o7 =>
   have d6:∃ x:Int,(xs 6) = .int .i64 x∧0≤x∧x≤32:=hD 6 rfl;clear hD hI;generalize xs 6=y6 at *;obtain⟨x6,rfl,x6a,x6b⟩:=d6;go_wp2;exact hK.out _ _ ⟨⟨_,rfl,by omega,by omega⟩,hG.step,kkp⟩
  all_goals
   clear hD hI;go_wp2;exact hK.out _ _ ⟨rfl,hG.step,kkp⟩
 intro xs wx hV hG;have d7:∃ x:Int,(xs 7) = .int .i64 x∧0≤x∧x≤32:=hV 7 (by decide);clear hV;simp only[patchS,Nat.reduceAdd,Nat.reduceEqDiff,↓reduceIte];generalize xs 0=y0,xs 1=y1,xs 2=y2,xs 3=y3,xs 4=y4,xs 5=y5,xs 6=y6,xs 7=y7 at *
 replace hG:DG w0 b P 1 8 wx:=hG
 obtain⟨x7,rfl,x7a,x7b⟩:=d7;have R1:=gr_blk hG.1 R0 (by omega);have G1:=grown_trans g0 hG.1;have r1:=hG.2.mono (P':=P+10) (by omega);clear R0 g0 r0 hG;generalize wx=w1 at *;go_upto_region 2 with fail
 refine wp_region_seq [(9,8),(17,0),(18,1),(19,2),(20,3),(21,4),(22,5),(23,6),(24,7)] [[],[0],[0,1],[0,1,2],[0,1,2,3],[0,1,2,3,4],[0,1,2,3,4,5],[0,1,2,3,4,5,6],[0,1,2,3,4,5,6,7]] (fun i own ys wx=>match i with|0=>own= .pointer (some ⟨b,0,none⟩)|1=>own= .pointer (some ⟨w.heap.size,1,none⟩)|2=>own= .int .i64 H|3=>own= .int .i64 (H/8)|4=>own= .int .i64 (min 4 (H/8))|5=>own= .int .i64 v|6=>∃ x:Int,own= .int .i64 x∧0≤x∧x<v|7=>∃ x:Int,own= .int .i64 x∧0≤x∧x≤32|8=>∃ x:Int,own= .int .i64 x∧0≤x∧x≤32|_=>True) (fun kx wx=>DG w1 b (P+10) 1 kx wx) (by kernel_rfl) (by kernel_rfl) ?g0_r2 ?gop_r2 ?gend_r2
 case g0_r2=>exact DG.zero' r1
 case gop_r2 =>
  refine⟨?_,?_,?o2,?o3,?o4,?o5,?o6,?o7,?o8,trivial⟩ <;> (intro kx xs wx hk hG hD hI Qo Kx hK hQo;simp only[patchS,Nat.reduceAdd,Nat.reduceEqDiff,↓reduceIte]at hQo⊢)
  case o2 =>
   rw[ddq (hD 1 rfl)]at hQo⊢;clear hD hI;have Rx:=gr_blk hG.1 R1 (by omega);obtain⟨-,q0,q1,q2,-⟩:=bx3 Rx;go_wp2;exact hK.out _ _ ⟨rfl,hG.step,kkp⟩
  case o3 =>
   rw[ddq (hD 2 rfl)]at hQo⊢;clear hD hI;go_wp2;exact hK.out _ _ ⟨rfl,hG.step,kkp⟩
  case o4 =>
   rw[ddq (hD 3 rfl)]at hQo⊢;clear hD hI;go_wp2;all_goals exact hK.out _ _ ⟨by congr 1 <;> omega,hG.step,fun _ _ _ _ _ _ h=>h⟩
  case o5 =>
   rw[ddq (hD 4 rfl)]at hQo⊢;clear hD hI;go_wp2;all_goals exact hK.out _ _ ⟨by have:=Hv.out;congr 1 <;> omega,hG.step,fun _ _ _ _ _ _ h=>h⟩
  case o6 =>
   rw[ddq (hD 0 rfl),ddq (hD 5 rfl)]at hQo⊢;clear hD hI;go_wp2_with fail
   refine(pick_c _ _ _ _ hG.2 (DG.small hk (by decide) (by decide) (by omega)) (by omega) (by omega)).mono ?_
   rintro e w4 ⟨xx,rfl,xa,xb,rd,gr⟩
   go_wp2;exact hK.out _ _ ⟨⟨xx,rfl,xa,by omega⟩,hG.more gr rd (by decide),kkp⟩
  case o7 =>
   have d6:∃ x:Int,(xs 6) = .int .i64 x∧0≤x∧x<v:=hD 6 rfl;clear hD hI;generalize xs 6=y6 at *;obtain⟨x6,rfl,x6a,x6b⟩:=d6;go_wp2;exact hK.out _ _ ⟨⟨_,rfl,by omega,by omega⟩,hG.step,kkp⟩
  case o8 =>
   have d7:∃ x:Int,(xs 7) = .int .i64 x∧0≤x∧x≤32:=hD 7 rfl;clear hD hI;generalize xs 7=y7 at *;obtain⟨x7,rfl,x7a,x7b⟩:=d7;go_wp2;exact hK.out _ _ ⟨⟨_,rfl,by omega,by omega⟩,hG.step,kkp⟩
  all_goals
   clear hD hI;go_wp2;exact hK.out _ _ ⟨rfl,hG.step,kkp⟩
 intro xs wx hV hG;have d8:∃ x:Int,(xs 8) = .int .i64 x∧0≤x∧x≤32:=hV 8 (by decide);clear hV;simp only[patchS,Nat.reduceAdd,Nat.reduceEqDiff,↓reduceIte];generalize xs 0=y0,xs 1=y1,xs 2=y2,xs 3=y3,xs 4=y4,xs 5=y5,xs 6=y6,xs 7=y7,xs 8=y8 at *
 replace hG:DG w1 b (P+10) 1 9 wx:=hG
 obtain⟨x8,rfl,x8a,x8b⟩:=d8;have R2:=gr_blk hG.1 R1 (by omega);have G2:=grown_trans G1 hG.1;have r2:=hG.2.mono (P':=P+20) (by omega);clear R1 G1 r1 hG;generalize wx=w2 at *;go_wp2_with fail
 refine(odd_any b _ m _ r2 (by omega) hm0 (by omega)).mono ?_
 rintro e w3 ⟨x3,rfl,r3,g3⟩
 have R3:=gr_blk g3 R2 (by omega);have G3:=grown_trans G2 g3;clear R2 r2 g3 G2;cases x3
 ·go_wp2;go_ret2
  exact⟨_,_,rfl,by omega,by omega,r3.mono (by omega),G3⟩
 ·go_wp2_with fail
  have hext:Stab (fun wa wb=>wa.grownBy wb (some b)) (fun i own ys wx=>match i with|0=>own= .int .i64 (x7)|1=>∃ x:Int,own= .int .i64 x∧1≤x∧x≤33|2=>own= .pointer (some ⟨w.heap.size,0,none⟩)|3=>∃ x:Int,own= .int .i64 x ∧ -8≤x∧x≤40|4=>SlR wx (b+1) own 3 (-8) (40)|5=>own= .pointer (some ⟨b,0,none⟩)|6=>∃ x:Int,own= .int .i64 x∧0≤x∧x<3|7=>PtR wx (b+1) own (-8) (40)|8=>∃ x:Int,own= .int .i64 x ∧ -8≤x∧x≤40|9=>own= .int .i64 (x8)|10=>∃ x:Int,own= .int .i64 x ∧ -8≤x∧x≤40|11=>own= .int .i64 (x8)|_=>True):=by
   intro i own ys wa wb e h
   match i,h with
   | 0,h|1,h|2,h|3,h|5,h|6,h|8,h|9,h|10,h|11,h=>exact h
   | 4,h|7,h=>exact h.grown e (by omega)
   | _+12,_=>trivial
  have Hext:=Lib.hid hext;clear hext;refine wp_region_inv2 (by kernel_rfl) [(6,10),(7,11),(28,0),(29,1),(30,2),(31,3),(32,4),(33,5),(34,6),(35,7),(36,8),(37,9)] [[],[0],[],[2],[0,1,2,3],[],[5],[0,1,2,3,4,5,6],[0,1,2,3,4,5,6,7],[],[0,1,2,3,4,5,6,7,8],[0,1,2,3,4,5,6,7,8,9,10]] (fun i own ys wx=>match i with|0=>own= .int .i64 (x7)|1=>∃ x:Int,own= .int .i64 x∧1≤x∧x≤33|2=>own= .pointer (some ⟨w.heap.size,0,none⟩)|3=>∃ x:Int,own= .int .i64 x ∧ -8≤x∧x≤40|4=>SlR wx (b+1) own 3 (-8) (40)|5=>own= .pointer (some ⟨b,0,none⟩)|6=>∃ x:Int,own= .int .i64 x∧0≤x∧x<3|7=>PtR wx (b+1) own (-8) (40)|8=>∃ x:Int,own= .int .i64 x ∧ -8≤x∧x≤40|9=>own= .int .i64 (x8)|10=>∃ x:Int,own= .int .i64 x ∧ -8≤x∧x≤40|11=>own= .int .i64 (x8)|_=>True) (fun kx wx=>DG w3 b (P+20+1) 1 kx wx) (by kernel_rfl) (by kernel_rfl) (by kernel_rfl) ?g0_r3 ?gop_r3 ?gend_r3
  case g0_r3=>exact DG.zero r3
  case gop_r3 =>
   refine⟨?_,?o1,?_,?o3,?o4,?_,?o6,?o7,?o8,?_,?o10,?o11,trivial⟩ <;> (intro kx xs wx hk hG hD hI Qo Kx hK hQo;simp only[patchS,Nat.reduceAdd,Nat.reduceEqDiff,↓reduceIte]at hQo⊢)
   case o1 =>
    rw[ddq (hD 0 rfl)]at hQo⊢;clear hD hI;go_wp2;exact hK.out _ _ ⟨⟨_,rfl,by omega,by omega⟩,hG.step,kkp⟩
   case o3 =>
    rw[ddq (hD 2 rfl)]at hQo⊢;clear hD hI;have Rx:=gr_blk hG.1 R3 (by omega);obtain⟨-,q0,q1,q2,-⟩:=bx3 Rx;go_wp2;exact hK.out _ _ ⟨⟨W,rfl,by omega,by omega⟩,hG.step,kkp⟩
   case o4 =>
    have d1:∃ x:Int,(xs 1) = .int .i64 x∧1≤x∧x≤33:=hD 1 rfl;have d3:∃ x:Int,(xs 3) = .int .i64 x ∧ -8≤x∧x≤40:=hD 3 rfl;clear hD hI;generalize xs 1=y1 at *;generalize xs 3=y3 at *;obtain⟨x1,rfl,x1a,x1b⟩:=d1;obtain⟨x3,rfl,x3a,x3b⟩:=d3;have e5:=Ext.alloc wx (.cells #[.int .i64 x1,.int .i64 (-8),.int .i64 x3] 3);go_wp2;exact hK.out _ _ ⟨⟨_,[x1,(-8),x3],rfl,by have:=hG.2.lt;omega,Sl_new _ _ _,by simp <;> omega⟩,hG.ext e5,fun i _ _ _ own ys h=>Hext.out i own ys _ _ (ext_gr e5) h⟩
   case o6 =>
    rw[ddq (hD 5 rfl)]at hQo⊢;clear hD hI;go_wp2_with fail
    refine(pick_c _ _ _ _ hG.2 (DG.small hk (by decide) (by decide) (by omega)) (by omega) (by omega)).mono ?_
    rintro e w4 ⟨xx,rfl,xa,xb,rd,gr⟩
    go_wp2;exact hK.out _ _ ⟨⟨xx,rfl,xa,by omega⟩,hG.more gr rd (by decide),fun i _ _ _ own ys h=>Hext.out i own ys _ _ gr h⟩
   case o7 =>
    have d4:SlR wx (b+1) (xs 4) 3 (-8) (40):=hD 4 rfl;have d6:∃ x:Int,(xs 6) = .int .i64 x∧0≤x∧x<3:=hD 6 rfl;clear hD hI;generalize xs 4=y4 at *;generalize xs 6=y6 at *;obtain⟨g4,l4,rfl,n4,s4,r4⟩:=d4;obtain⟨x6,rfl,x6a,x6b⟩:=d6;go_wp2;exact hK.out _ _ ⟨SlR.at n4 s4 r4 (by omega),hG.step,kkp⟩
   case o8 =>
    have d7:PtR wx (b+1) (xs 7) (-8) (40):=hD 7 rfl;clear hD hI;generalize xs 7=y7 at *;obtain⟨g7,j7,y7,rfl,n7,c7,y7a,y7b⟩:=d7;go_wp2;exact hK.out _ _ ⟨⟨_,rfl,by omega,by omega⟩,hG.step,kkp⟩
   case o10 =>
    have d8:∃ x:Int,(xs 8) = .int .i64 x ∧ -8≤x∧x≤40:=hD 8 rfl;clear hD hI;generalize xs 8=y8 at *;obtain⟨x8,rfl,x8a,x8b⟩:=d8;go_wp2;exact hK.out _ _ ⟨⟨_,rfl,by omega,by omega⟩,hG.step,kkp⟩
   case o11 =>
    rw[ddq (hD 9 rfl)]at hQo⊢;clear hD hI;go_wp2;exact hK.out _ _ ⟨rfl,hG.step,kkp⟩
   all_goals
    clear hD hI;go_wp2;exact hK.out _ _ ⟨rfl,hG.step,kkp⟩
  clear Hext;intro xs wx hV hG;have d10:∃ x:Int,(xs 10) = .int .i64 x ∧ -8≤x∧x≤40:=hV 10 (by decide);have d11:_=_:=hV 11 (by decide);clear hV;simp only[patchS,Nat.reduceAdd,Nat.reduceEqDiff,↓reduceIte];generalize xs 0=y0,xs 1=y1,xs 2=y2,xs 3=y3,xs 4=y4,xs 5=y5,xs 6=y6,xs 7=y7,xs 8=y8,xs 9=y9,xs 10=y10,xs 11=y11 at *
  replace hG:DG w3 b (P+20+1) 1 12 wx:=hG
  obtain⟨x10,rfl,x10a,x10b⟩:=d10;subst d11;go_wp2;go_ret2
  exact⟨_,_,rfl,by omega,by omega,hG.2.mono (by omega),grown_trans G3 hG.1⟩
/-- A box that holds some picture. -/
def PB0 (w:World) (b:Nat):Prop:=∃(x y:Int) (a:Option Addr) (n c:Nat),w.heap[b]?=some (.cells #[.int .i64 x,.int .i64 y,.slice a n c] 25 (0,0))
theorem PB0.gr {w w':World} {b:Nat} {row:Option Nat} (h:PB0 w b) (g:w.grownBy w' row) (hne:row≠some b):PB0 w' b:=by
 obtain⟨x,y,a,n,c,h1⟩:=h;exact⟨x,y,a,n,c,blk_gr h1 g hne⟩
theorem PB0.ext {w w':World} {b:Nat} (h:PB0 w b) (e:Ext w w'):PB0 w' b:=by
 obtain⟨x,y,a,n,c,h1⟩:=h;exact⟨x,y,a,n,c,e.blk h1⟩
/-- A box that holds some vector. -/
def VB (w:World) (b:Nat):Prop:=∃ x y:Int,w.heap[b]?=some (.cells #[.int .i64 x,.int .i64 y] 27 (0,0))
theorem VB.gr {w w':World} {b:Nat} {row:Option Nat} (h:VB w b) (g:w.grownBy w' row) (hne:row≠some b):VB w' b:=by
 obtain⟨x,y,h1⟩:=h;exact⟨x,y,blk_gr h1 g hne⟩
theorem VB.ext {w w':World} {b:Nat} (h:VB w b) (e:Ext w w'):VB w' b:=by
 obtain⟨x,y,h1⟩:=h;exact⟨x,y,e.blk h1⟩
/-- A box that holds some macroblock. -/
def MB (w:World) (b:Nat):Prop:=∃ zs:List Int,IB w b 32 zs∧zs.length=71
theorem MB.gr {w w':World} {b:Nat} {row:Option Nat} (h:MB w b) (g:w.grownBy w' row) (hne:row≠some b):MB w' b:=by
 obtain⟨x,h1,h2⟩:=h;exact⟨x,h1.gr g hne,h2⟩
theorem MB.ext {w w':World} {b:Nat} (h:MB w b) (e:Ext w w'):MB w' b:=by
 obtain⟨x,h1,h2⟩:=h;exact⟨x,h1.ext e,h2⟩
/-- What holds while the arguments are drawn. -/
structure DS (w : World) (b P C k O : Nat) (p : Pic) (a : Option Addr) (n c Q : Nat) (q : Pic) (a2 : Option Addr) (n2 c2 : Nat) (wx : World) : Prop where
 dg:DG w b P C k wx
 bx1:PBx wx O p a n c
 bx2:PBx wx Q q a2 n2 c2
 res1:PB0 wx w.heap.size
 res2:PB0 wx (w.heap.size+1)
 sl1:Sl wx a n (p.px.map (Value.int .i64))
 sl2:Sl wx a2 n2 (q.px.map (Value.int .i64))
 hb:w.heap.size+2≤b
 hO:b<O
 hQ:O<Q
 ha:∀ y,a=some y→b<y.block
 ha2:∀ y,a2=some y→b<y.block
section
variable {w wx wy : World} {b P C k O n c Q n2 c2 : Nat} {p q : Pic} {a a2 : Option Addr}
theorem DS.step (h:DS w b P C k O p a n c Q q a2 n2 c2 wx):DS w b P C (k+1) O p a n c Q q a2 n2 c2 wx:=⟨h.dg.step,h.bx1,h.bx2,h.res1,h.res2,h.sl1,h.sl2,h.hb,h.hO,h.hQ,h.ha,h.ha2⟩
theorem DS.grb {P' k':Nat} (h:DS w b P C k O p a n c Q q a2 n2 c2 wx) (e:wx.grownBy wy (some b)) (d:DG w b P' C k' wy):DS w b P' C k' O p a n c Q q a2 n2 c2 wy:=by
 have h1:=h.hb;have h2:=h.hO;have h3:=h.hQ;exact⟨d,h.bx1.gr e (by simp;omega),h.bx2.gr e (by simp;omega),h.res1.gr e (by simp;omega),h.res2.gr e (by simp;omega),h.sl1.grown e (fun u hu=>by have:=h.ha u hu;simp;omega),h.sl2.grown e (fun u hu=>by have:=h.ha2 u hu;simp;omega),h1,h2,h3,h.ha,h.ha2⟩
theorem DS.more {c':Nat} (h:DS w b P C k O p a n c Q q a2 n2 c2 wx) (e:wx.grownBy wy (some b)) (r:RdP wy b (P+k*C+c')) (hc:c'≤C):DS w b P C (k+1) O p a n c Q q a2 n2 c2 wy:=h.grb e (h.dg.more e r hc)
theorem DS.ext (h:DS w b P C k O p a n c Q q a2 n2 c2 wx) (e:Ext wx wy):DS w b P C (k+1) O p a n c Q q a2 n2 c2 wy:=h.grb (ext_gr e) (h.dg.ext e)
theorem DS.low {r:Nat} (h:DS w b P C k O p a n c Q q a2 n2 c2 wx) (g:wx.grownBy wy (some r)) (hr:w.heap.size≤r) (hr2:r<b) (rd:RdP wy b (P+k*C)) (h1:PB0 wy w.heap.size) (h2:PB0 wy (w.heap.size+1)):DS w b P C (k+1) O p a n c Q q a2 n2 c2 wy:=by
 have q1:=h.hb;have q2:=h.hO;have q3:=h.hQ;exact⟨⟨grown_any h.dg.1 g (fun k hk=>by cases hk;omega),rd.mono (by rw[Nat.succ_mul];omega)⟩,h.bx1.gr g (by simp;omega),h.bx2.gr g (by simp;omega),h1,h2,h.sl1.grown g (fun u hu=>by have:=h.ha u hu;simp;omega),h.sl2.grown g (fun u hu=>by have:=h.ha2 u hu;simp;omega),q1,q2,q3,h.ha,h.ha2⟩
theorem DS.put1 {x y x' y':Int} {a' a3:Option Addr} {n' c' n3 c3:Nat} (h:DS w b P C k O p a n c Q q a2 n2 c2 wx) (g:wx.grownBy (((wx.setCell ⟨w.heap.size,0,none⟩ (.int .i64 x')).setCell ⟨w.heap.size,1,none⟩ (.int .i64 y')).setCell ⟨w.heap.size,2,none⟩ (.slice a3 n3 c3)) (some w.heap.size)) (hr:wx.heap[w.heap.size]?=some (.cells #[.int .i64 x,.int .i64 y,.slice a' n' c'] 25 (0,0))) :
 DS w b P C (k+1) O p a n c Q q a2 n2 c2 (((wx.setCell ⟨w.heap.size,0,none⟩ (.int .i64 x')).setCell ⟨w.heap.size,1,none⟩ (.int .i64 y')).setCell ⟨w.heap.size,2,none⟩ (.slice a3 n3 c3)):=by
 have q1:=h.hb;exact h.low g (by omega) (by omega) (h.dg.2.setP3 hr (by omega)) ⟨_,_,_,_,_,blk_set3 hr⟩ (h.res2.gr g (by simp))
theorem DS.put2 {x y x' y':Int} {a' a3:Option Addr} {n' c' n3 c3:Nat} (h:DS w b P C k O p a n c Q q a2 n2 c2 wx) (g:wx.grownBy (((wx.setCell ⟨w.heap.size+1,0,none⟩ (.int .i64 x')).setCell ⟨w.heap.size+1,1,none⟩ (.int .i64 y')).setCell ⟨w.heap.size+1,2,none⟩ (.slice a3 n3 c3)) (some (w.heap.size+1))) (hr:wx.heap[w.heap.size+1]?=some (.cells #[.int .i64 x,.int .i64 y,.slice a' n' c'] 25 (0,0))) :
 DS w b P C (k+1) O p a n c Q q a2 n2 c2 (((wx.setCell ⟨w.heap.size+1,0,none⟩ (.int .i64 x')).setCell ⟨w.heap.size+1,1,none⟩ (.int .i64 y')).setCell ⟨w.heap.size+1,2,none⟩ (.slice a3 n3 c3)):=by
 have q1:=h.hb;exact h.low g (by omega) (by omega) (h.dg.2.setP3 hr (by omega)) (h.res1.gr g (by simp)) ⟨_,_,_,_,_,blk_set3 hr⟩
theorem DS.lift (h:DS w b P C k O p a n c Q q a2 n2 c2 wx):Ext w wx:=Ext.grown (Below.refl _ _) h.dg.1 (fun k hk=>by have:=h.hb;simp at hk;omega)
end
def DS3 (B:World→Nat→Prop) (w:World) (b P C k O:Nat) (p:Pic) (a:Option Addr) (n c Q:Nat) (q:Pic) (a2:Option Addr) (n2 c2:Nat) (wx:World):Prop:=DS w b P C k O p a n c Q q a2 n2 c2 wx∧B wx (w.heap.size+2)∧w.heap.size+3≤b∧∀(wa wb:World) (r x:Nat),B wa x→wa.grownBy wb (some r)→r≠x→B wb x
section
variable {B : World → Nat → Prop} {w wx wy : World} {b P C k O n c Q n2 c2 : Nat} {p q : Pic} {a a2 : Option Addr}
theorem DS3.step (h:DS3 B w b P C k O p a n c Q q a2 n2 c2 wx):DS3 B w b P C (k+1) O p a n c Q q a2 n2 c2 wx:=⟨h.1.step,h.2⟩
theorem DS3.more {c':Nat} (h:DS3 B w b P C k O p a n c Q q a2 n2 c2 wx) (e:wx.grownBy wy (some b)) (r:RdP wy b (P+k*C+c')) (hc:c'≤C):DS3 B w b P C (k+1) O p a n c Q q a2 n2 c2 wy:=⟨h.1.more e r hc,h.2.2.2 _ _ _ _ h.2.1 e (by have:=h.2.2.1;omega),h.2.2⟩
theorem DS3.ext (h:DS3 B w b P C k O p a n c Q q a2 n2 c2 wx) (e:Ext wx wy):DS3 B w b P C (k+1) O p a n c Q q a2 n2 c2 wy:=⟨h.1.ext e,h.2.2.2 _ _ _ _ h.2.1 (ext_gr e:wx.grownBy wy (some b)) (by have:=h.2.2.1;omega),h.2.2⟩
end
end Go.Proofs.YtbnhaegidfbgbaaGreatDoor
namespace Go.Proofs.YtbnhaegidfbgbaaGreatDoor
open Go.RowKit
/-- Some picture that lies beyond the reader. -/
def P3 (b:Nat) (wx:World) (v:Value):Prop:=∃(r:Pic) (a:Option Addr) (n c:Nat),v= .agg #[.int .i64 r.w,.int .i64 r.h,.slice a n c]∧Hid (n=r.px.length)∧n≤1024∧Sl wx a n (r.px.map (Value.int .i64))∧∀ y,a=some y→b<y.block
theorem P3.gr {b x:Nat} {wx wy:World} {v:Value} (h:P3 b wx v) (g:wx.grownBy wy (some x)) (hx:x≤b):P3 b wy v:=by
 obtain⟨r,a,n,c,h1,h2,h3,h4,h5⟩:=h;exact⟨r,a,n,c,h1,h2,h3,h4.grown g (fun u hu=>by have:=h5 u hu;simp;omega),h5⟩
def P3x (b X:Nat) (wx:World):Prop:=∃(r:Pic) (a:Option Addr) (n c:Nat),PBx wx X r a n c∧Hid (n=r.px.length)∧n≤1024∧Sl wx a n (r.px.map (Value.int .i64))∧∀ y,a=some y→b<y.block
theorem P3x.gr {b x X:Nat} {wx wy:World} (h:P3x b X wx) (g:wx.grownBy wy (some x)) (hx:x≤b) (hne:x≠X):P3x b X wy:=by
 obtain⟨r,a,n,c,h1,h2,h3,h4,h5⟩:=h;exact⟨r,a,n,c,PBx.gr h1 g (by simp;omega),h2,h3,h4.grown g (fun u hu=>by have:=h5 u hu;simp;omega),h5⟩
def DS4 (w:World) (b P C k O:Nat) (p:Pic) (a:Option Addr) (n c Q:Nat) (q:Pic) (a2:Option Addr) (n2 c2:Nat) (wx:World):Prop:=DS w b P C k O p a n c Q q a2 n2 c2 wx∧PB0 wx (w.heap.size+2)∧MB wx (w.heap.size+3)∧w.heap.size+4≤b
section
variable {w wx wy : World} {b P C k O n c Q n2 c2 : Nat} {p q : Pic} {a a2 : Option Addr}
theorem DS4.step (h:DS4 w b P C k O p a n c Q q a2 n2 c2 wx):DS4 w b P C (k+1) O p a n c Q q a2 n2 c2 wx:=⟨h.1.step,h.2⟩
theorem DS4.more {c':Nat} (h:DS4 w b P C k O p a n c Q q a2 n2 c2 wx) (e:wx.grownBy wy (some b)) (r:RdP wy b (P+k*C+c')) (hc:c'≤C):DS4 w b P C (k+1) O p a n c Q q a2 n2 c2 wy:=by
 have hb:=h.2.2.2;exact⟨h.1.more e r hc,h.2.1.gr e (by simp;omega),h.2.2.1.gr e (by simp;omega),hb⟩
theorem DS4.ext (h:DS4 w b P C k O p a n c Q q a2 n2 c2 wx) (e:Ext wx wy):DS4 w b P C (k+1) O p a n c Q q a2 n2 c2 wy:=⟨h.1.ext e,h.2.1.ext e,h.2.2.1.ext e,h.2.2.2⟩
end
theorem l20Tiny_c (b P:Nat) (m:Int) (w:World) (h:RdP w b P) (hp:P<2^35) (hm0:0≤m) (hm:m≤1000000) :
 Calls Tryz.prog 32 #[.pointer (some ⟨b,0,none⟩),.int .i64 m] w (PairR w b (P+8000)):=by
 have hbw:b<w.heap.size:=h.lt;have e0:Ext w ((w.alloc (.cells #[.int .i64 0,.int .i64 0,.slice none 0 0] 25)).alloc (.cells #[.int .i64 0,.int .i64 0,.slice none 0 0] 25)):=(Ext.alloc w (.cells #[.int .i64 0,.int .i64 0,.slice none 0 0] 25)).trans (Ext.alloc _ _);have R0:PZ ((w.alloc (.cells #[.int .i64 0,.int .i64 0,.slice none 0 0] 25)).alloc (.cells #[.int .i64 0,.int .i64 0,.slice none 0 0] 25)) w.heap.size:=⟨_,_,_,(Ext.alloc (w.alloc (.cells #[.int .i64 0,.int .i64 0,.slice none 0 0] 25)) (.cells #[.int .i64 0,.int .i64 0,.slice none 0 0] 25)).blk (blk_new w (.cells #[.int .i64 0,.int .i64 0,.slice none 0 0] 25))⟩;have R1:PZ ((w.alloc (.cells #[.int .i64 0,.int .i64 0,.slice none 0 0] 25)).alloc (.cells #[.int .i64 0,.int .i64 0,.slice none 0 0] 25)) (w.heap.size+1):=⟨_,_,_,by have:=blk_new (w.alloc (.cells #[.int .i64 0,.int .i64 0,.slice none 0 0] 25)) (.cells #[.int .i64 0,.int .i64 0,.slice none 0 0] 25);rwa [World.size_alloc]at this⟩;have r0:=h.ext e0;have G0:w.grownBy _ (some b):=ext_gr e0;have z0:w.heap.size+2≤((w.alloc (.cells #[.int .i64 0,.int .i64 0,.slice none 0 0] 25)).alloc (.cells #[.int .i64 0,.int .i64 0,.slice none 0 0] 25)).heap.size:=by simp
 clear h e0;go_enter Tryz.func32,Tryz.ntmps32
 go_upto_region 1 with fail
 try simp only[World.size_alloc]
 generalize (w.alloc (.cells #[.int .i64 0,.int .i64 0,.slice none 0 0] 25)).alloc (.cells #[.int .i64 0,.int .i64 0,.slice none 0 0] 25)=w0 at *;go_wp2_with fail
 refine(pick_c b P 2 _ r0 (by omega) (by omega) (by omega)).mono ?_
 rintro e u1 ⟨i1,rfl,i1a,i1b,ra,ga⟩
 go_wp2_with fail
 refine(pick_c b _ 2 _ ra (by omega) (by omega) (by omega)).mono ?_
 rintro e u2 ⟨i2,rfl,i2a,i2b,rb,gb⟩
 obtain⟨W,hW⟩:∃ W:Nat,8*(1+i1)=(W:Int):=⟨(8*(1+i1)).toNat,by omega⟩;obtain⟨H,hH⟩:∃ H:Nat,8*(1+i2)=(H:Int):=⟨(8*(1+i2)).toNat,by omega⟩;have hs1:side W:=⟨by omega,by omega,by omega⟩;have hs2:side H:=⟨by omega,by omega,by omega⟩;go_wp2_with fail
 try rw[hW]
 try rw[hH]
 refine(l20Pic_c b _ W H _ rb (by omega) hs1 hs2).mono ?_
 rintro e w1 ⟨a,c,n,zs,rfl,hn0,hz,own3,rc,gc⟩
 have hpl:=area_le hs1 hs2;have hn2:n≤1024:=by
  have:(n:Int)=(W:Int)*(H:Int):=by rw[hn0];simp
  omega
 have gbc:=grown_trans gb gc;have g1:=grown_trans ga gbc;obtain⟨p,hp0⟩:∃ p:Pic,p=⟨W,H,zs⟩:=⟨_,rfl⟩;have hpw:(W:Int)=p.w:=by rw[hp0]
 have hph:(H:Int)=p.h:=by rw[hp0]
 have hpx:zs=p.px:=by rw[hp0]
 obtain⟨w8,w32,-⟩:=hs1;obtain⟨h8,h32,-⟩:=hs2;have s1:=Sl.of_owns own3;rw[hpx]at s1;have hn:n=p.px.length:=s1.int_len.symm;have r1:RdP w1 b (P+2100):=rc.mono (by omega);have ha:∀ y,a=some y→w0.heap.size≤y.block:=fun y hy=>by
  have h1:=(own3.lt y.block (by rw[hy];rfl)).1;have h2:=ga.size;have h3:=gb.size;omega
 have A1:PicA (w.heap.size+2) w1.heap.size w1 p a c n:=(PicA.new hn hn2 (by omega) (by omega) (by omega) (by omega) s1 ha).mono z0 (Nat.le_refl _);rw[hpw,hph];clear hp0 hpw hph hpx own3 rc gc gbc ga gb ra rb hW hH hz hpl hn0 w8 w32 h8 h32;have G1:=grown_trans G0 g1;have S0:=R0.gr g1 (by simp;omega);have S1:=R1.gr g1 (by simp;omega);have z1:=Nat.le_trans z0 g1.size;obtain⟨O,hO⟩:∃ O,O=w1.heap.size:=⟨_,rfl⟩;have e2:=Ext.alloc w1 (.cells #[.int .i64 p.w,.int .i64 p.h,.slice a n c] 25);have B2:PBx (w1.alloc (.cells #[.int .i64 p.w,.int .i64 p.h,.slice a n c] 25)) O p a n c:=by rw[hO];exact blk_new _ _
 have zz2:O+1≤(w1.alloc (.cells #[.int .i64 p.w,.int .i64 p.h,.slice a n c] 25)).heap.size:=by rw[hO];simp
 have A2:=A1.ext e2;have G2:=grown_ext G1 e2;have S2:=S0.ext e2;have T2:=S1.ext e2;have r2:=r1.ext e2;rw[←hO]at A2 z1;have HN:=Lib.hid hn;clear r0 G0 R0 R1 s1 ha g1 A1 G1 S0 S1 e2 r1 hn;obtain⟨k0,k1,k2⟩:=B2.cells;go_upto_region 2 with fail
 rw[←hO];generalize w1.alloc (.cells #[.int .i64 p.w,.int .i64 p.h,.slice a n c] 25)=w2 at *;clear hO z0;go_wp2_with fail
 refine(l20Next_c b (P+2100) p a c n _ r2 (by omega) HN.out (by omega) A2.2.2.2.2.1 (fun y hy=>by have:=(A2.2.2.2.2.2 y hy).1;omega)).mono ?_
 rintro e w3 ⟨q,a2,c2,n2,rfl,hq,hq2,qw1,qw2,qh1,qh2,s3,ha3,r3,g3⟩
 have C3:PicA (w.heap.size+2) w3.heap.size w3 q a2 c2 n2:=(PicA.new hq hq2 qw1 qw2 qh1 qh2 s3 ha3).mono (by omega) (Nat.le_refl _);have A3:=A2.gr g3 (fun k hk=>by cases hk;omega);have B3:=B2.gr g3 (by simp;omega);have G3:=grown_trans G2 g3;have S3:=S2.gr g3 (by simp;omega);have T3:=T2.gr g3 (by simp;omega);have z3:=Nat.le_trans zz2 g3.size;obtain⟨Q,hQ⟩:∃ Q,Q=w3.heap.size:=⟨_,rfl⟩;have e4:=Ext.alloc w3 (.cells #[.int .i64 q.w,.int .i64 q.h,.slice a2 n2 c2] 25);have hsz4:Q+1≤(w3.alloc (.cells #[.int .i64 q.w,.int .i64 q.h,.slice a2 n2 c2] 25)).heap.size:=by rw[hQ];simp
 have C4:=C3.ext e4;rw[←hQ]at z3 C4;have D4:PS w b (P+4300) O p a n c Q q a2 n2 c2 Q (w3.alloc (.cells #[.int .i64 q.w,.int .i64 q.h,.slice a2 n2 c2] 25)) :=
  ⟨grown_ext G3 e4,(r3.ext e4).mono (by omega),e4.blk B3,by rw[hQ];exact blk_new _ _,S3.ext e4,T3.ext e4,(A3.ext e4).mono (Nat.le_refl _) (by omega),C4,hbw,by omega,by omega,by omega⟩
 clear A2 B2 G2 S2 T2 r2 s3 ha3 g3 C3 A3 B3 G3 S3 T3 e4 C4 k0 k1 k2 hq;go_upto_region 3 with fail
 rw[←hQ];generalize w3.alloc (.cells #[.int .i64 q.w,.int .i64 q.h,.slice a2 n2 c2] 25)=w4 at *;clear hQ;go_wp2_with fail
 refine(odd_any b _ m _ D4.rd (by omega) hm0 (by omega)).mono ?_
 rintro e w5 ⟨x5,rfl,r5,g5⟩
 have D:PS w b (P+4301) O p a n c Q q a2 n2 c2 Q w5:=⟨grown_trans D4.gr g5,r5,D4.bx1.gr g5 (by simp;omega),D4.bx2.gr g5 (by simp;omega),D4.r1.gr g5 (by simp;omega),D4.r2.gr g5 (by simp;omega),D4.A.gr g5 (fun k hk=>by cases hk;omega),D4.B.gr g5 (fun k hk=>by cases hk;omega),hbw,D4.hO,D4.hQ,Nat.le_trans D4.hU g5.size⟩;have hsz5:=Nat.le_trans hsz4 g5.size;clear D4 r5 g5 hsz4;cases x5
 ·go_upto_region 5 with fail
  refine wp_region_inv2 (by kernel_rfl) [(26,0),(27,1)] [[],[],[0],[0,1,2]] (fun i own ys wx=>match i with|0=>own= .agg #[.int .i64 p.w,.int .i64 p.h,.slice a n c]|1=>own= .agg #[.int .i64 q.w,.int .i64 q.h,.slice a2 n2 c2]|2=>PBx wx w.heap.size p a n c|3=>PBx wx (w.heap.size+1) q a2 n2 c2|_=>True) (fun kx wx=>PS w b (P+4301) O p a n c Q q a2 n2 c2 Q wx) (by kernel_rfl) (by kernel_rfl) (by kernel_rfl) ?g0_r1 ?gop_r1 ?gend_r1
  case g0_r1=>exact D.ext (Ext.drewN _ 1)
  case gop_r1 =>
   refine⟨?o0,?o1,?o2,?o3,trivial⟩ <;> (intro kx xs wx hk hG hD hI Qo Kx hK hQo;simp only[patchS,Nat.reduceAdd,Nat.reduceEqDiff,↓reduceIte]at hQo⊢)
   case o0 =>
    clear hD hI;obtain⟨k0,k1,k2⟩:=hG.bx1.cells;go_wp2;exact hK.out _ _ ⟨rfl,hG,kkp⟩
   case o1 =>
    clear hD hI;obtain⟨k0,k1,k2⟩:=hG.bx2.cells;go_wp2;exact hK.out _ _ ⟨rfl,hG,kkp⟩
   case o2 =>
    rw[ddq (hD 0 rfl)]at hQo⊢;clear hD hI;obtain⟨x,y,z,hr⟩:=hG.r1;obtain⟨-,k0,k1,k2,f0,f1,f2⟩:=bx3 hr;go_wp2;have hst:∀(wy:World),wx.grownBy wy (some w.heap.size)→Stbn 4 2 [[],[],[0],[0,1,2]] (fun i own ys wx=>match i with|0=>own= .agg #[.int .i64 p.w,.int .i64 p.h,.slice a n c]|1=>own= .agg #[.int .i64 q.w,.int .i64 q.h,.slice a2 n2 c2]|2=>PBx wx w.heap.size p a n c|3=>PBx wx (w.heap.size+1) q a2 n2 c2|_=>True) wx wy:=by
     intro wy hy ii hii hne hc own ys h
     match ii,h with
     | 0,h|1,h=>exact h
     | 2,h=>exact absurd rfl hne
     | 3,h=>exact absurd hc (by decide)
     | _+4,_=>trivial
    have gB:=gr_set3 wx w.heap.size (.int .i64 p.w) (.int .i64 p.h) (.slice a n c);have hb:=blk_set3 (x' := .int .i64 p.w) (y' := .int .i64 p.h) (z' := .slice a n c) hr;exact hQo undef _ (hK.out _ _ ⟨hb,hG.put gB (by omega) (by omega) ⟨_,_,_,hb⟩ (PZ.gr hG.r2 gB (by simp)),hst _ gB⟩)
   case o3 =>
    rw[ddq (hD 1 rfl)]at hQo⊢;clear hD hI;obtain⟨x,y,z,hr⟩:=hG.r2;obtain⟨-,k0,k1,k2,f0,f1,f2⟩:=bx3 hr;go_wp2;have hst:∀(wy:World),wx.grownBy wy (some (w.heap.size+1))→Stbn 4 3 [[],[],[0],[0,1,2]] (fun i own ys wx=>match i with|0=>own= .agg #[.int .i64 p.w,.int .i64 p.h,.slice a n c]|1=>own= .agg #[.int .i64 q.w,.int .i64 q.h,.slice a2 n2 c2]|2=>PBx wx w.heap.size p a n c|3=>PBx wx (w.heap.size+1) q a2 n2 c2|_=>True) wx wy:=by
     intro wy hy ii hii hne hc own ys h
     match ii,h with
     | 0,h|1,h=>exact h
     | 2,h=>exact blk_gr h hy (by simp)
     | 3,h=>exact absurd rfl hne
     | _+4,_=>trivial
    have gB:=gr_set3 wx (w.heap.size+1) (.int .i64 q.w) (.int .i64 q.h) (.slice a2 n2 c2);have hb:=blk_set3 (x' := .int .i64 q.w) (y' := .int .i64 q.h) (z' := .slice a2 n2 c2) hr;exact hQo undef _ (hK.out _ _ ⟨hb,hG.put gB (by omega) (by omega) (PZ.gr hG.r1 gB (by simp)) ⟨_,_,_,hb⟩,hst _ gB⟩)
  intro xs wx hV hG;have d2:PBx wx w.heap.size p a n c:=hV 2 (by decide);have d3:PBx wx (w.heap.size+1) q a2 n2 c2:=hV 3 (by decide);clear hV;simp only[patchS,Nat.reduceAdd,Nat.reduceEqDiff,↓reduceIte];generalize xs 0=y0,xs 1=y1,xs 2=y2,xs 3=y3 at *
  replace hG:PS w b (P+4301) O p a n c Q q a2 n2 c2 Q wx:=hG
  go_wp2;exact bodyPost_ret (results_pcc rfl _ _ (w.heap.size) #[.int .i64 p.w,.int .i64 p.h,.slice a n c] rfl (run_loadVar_row _ _ 25 _ _ _ _ d2 Tryz.underlying25 rfl size_Picture) (w.heap.size+1) #[.int .i64 q.w,.int .i64 q.h,.slice a2 n2 c2] rfl (run_loadVar_row _ _ 25 _ _ _ _ d3 Tryz.underlying25 rfl size_Picture)) rfl (hG.res (by omega))
 ·go_wp2_with fail
  refine(l20Picture_c b _ 2 _ D.rd (by omega) (by omega) (by omega)).mono ?_
  rintro e w6 ⟨q',a3,c3,n3,rfl,hq',hq2',qw1',qw2',qh1',qh2',s6,ha6,r6,g6⟩
  have hQz:=D.hQ;have hOz:=D.hO;have C6:PicA (Q+1) w6.heap.size w6 q' a3 c3 n3:=(PicA.new hq' hq2' qw1' qw2' qh1' qh2' s6 ha6).mono hsz5 (Nat.le_refl _);have B6:=D.bx2.gr g6 (by simp;omega);have gB:=gr_set3 w6 Q (.int .i64 q'.w) (.int .i64 q'.h) (.slice a3 n3 c3);have hb:=blk_set3 (x' := .int .i64 q'.w) (y' := .int .i64 q'.h) (z' := .slice a3 n3 c3) B6;have D7:PS w b (P+7000) O p a n c Q q' a3 n3 c3 w6.heap.size (((w6.setCell ⟨Q,0,none⟩ (.int .i64 q'.w)).setCell ⟨Q,1,none⟩ (.int .i64 q'.h)).setCell ⟨Q,2,none⟩ (.slice a3 n3 c3)):=by
   refine⟨grown_any (grown_trans D.gr g6) gB (fun k hk=>by cases hk;omega),(r6.mono (by omega)).gr gB (fun k hk=>by cases hk;omega),(D.bx1.gr g6 (by simp;omega)).gr gB ?_,hb,(D.r1.gr g6 (by simp;omega)).gr gB (by simp;omega),(D.r2.gr g6 (by simp;omega)).gr gB (by simp;omega),?_,?_,hbw,hOz,hQz,gB.size⟩
   ·simp;omega
   ·exact((D.A.gr g6 (fun k hk=>by cases hk;omega)).gr gB (fun k hk=>by cases hk;omega)).mono (Nat.le_refl _) (by have:=g6.size;omega)
   ·exact(C6.gr gB (fun k hk=>by cases hk;omega)).mono (by omega) (Nat.le_refl _)
  obtain⟨-,k0,k1,k2,f0,f1,f2⟩:=bx3 B6;obtain⟨U,hU⟩:∃ U,U=w6.heap.size:=⟨_,rfl⟩;rw[←hU]at D7;clear D gB hb C6 B6 s6 ha6 r6 g6 hq';go_upto_region 5 with fail
  generalize ((w6.setCell ⟨Q,0,none⟩ (.int .i64 q'.w)).setCell ⟨Q,1,none⟩ (.int .i64 q'.h)).setCell ⟨Q,2,none⟩ (.slice a3 n3 c3)=w7 at *;clear k0 k1 k2 f0 f1 f2;refine wp_region_inv2 (by kernel_rfl) [(26,0),(27,1)] [[],[],[0],[0,1,2]] (fun i own ys wx=>match i with|0=>own= .agg #[.int .i64 p.w,.int .i64 p.h,.slice a n c]|1=>own= .agg #[.int .i64 q'.w,.int .i64 q'.h,.slice a3 n3 c3]|2=>PBx wx w.heap.size p a n c|3=>PBx wx (w.heap.size+1) q' a3 n3 c3|_=>True) (fun kx wx=>PS w b (P+7000) O p a n c Q q' a3 n3 c3 U wx) (by kernel_rfl) (by kernel_rfl) (by kernel_rfl) ?g0_r2 ?gop_r2 ?gend_r2
  case g0_r2=>exact D7.ext (Ext.drewN _ 1)
  case gop_r2 =>
   refine⟨?o0,?o1,?o2,?o3,trivial⟩ <;> (intro kx xs wx hk hG hD hI Qo Kx hK hQo;simp only[patchS,Nat.reduceAdd,Nat.reduceEqDiff,↓reduceIte]at hQo⊢)
   case o0 =>
    clear hD hI;obtain⟨k0,k1,k2⟩:=hG.bx1.cells;go_wp2;exact hK.out _ _ ⟨rfl,hG,kkp⟩
   case o1 =>
    clear hD hI;obtain⟨k0,k1,k2⟩:=hG.bx2.cells;go_wp2;exact hK.out _ _ ⟨rfl,hG,kkp⟩
   case o2 =>
    rw[ddq (hD 0 rfl)]at hQo⊢;clear hD hI;obtain⟨x,y,z,hr⟩:=hG.r1;obtain⟨-,k0,k1,k2,f0,f1,f2⟩:=bx3 hr;go_wp2;have hst:∀(wy:World),wx.grownBy wy (some w.heap.size)→Stbn 4 2 [[],[],[0],[0,1,2]] (fun i own ys wx=>match i with|0=>own= .agg #[.int .i64 p.w,.int .i64 p.h,.slice a n c]|1=>own= .agg #[.int .i64 q'.w,.int .i64 q'.h,.slice a3 n3 c3]|2=>PBx wx w.heap.size p a n c|3=>PBx wx (w.heap.size+1) q' a3 n3 c3|_=>True) wx wy:=by
     intro wy hy ii hii hne hc own ys h
     match ii,h with
     | 0,h|1,h=>exact h
     | 2,h=>exact absurd rfl hne
     | 3,h=>exact absurd hc (by decide)
     | _+4,_=>trivial
    have gB:=gr_set3 wx w.heap.size (.int .i64 p.w) (.int .i64 p.h) (.slice a n c);have hb:=blk_set3 (x' := .int .i64 p.w) (y' := .int .i64 p.h) (z' := .slice a n c) hr;exact hQo undef _ (hK.out _ _ ⟨hb,hG.put gB (by omega) (by omega) ⟨_,_,_,hb⟩ (PZ.gr hG.r2 gB (by simp)),hst _ gB⟩)
   case o3 =>
    rw[ddq (hD 1 rfl)]at hQo⊢;clear hD hI;obtain⟨x,y,z,hr⟩:=hG.r2;obtain⟨-,k0,k1,k2,f0,f1,f2⟩:=bx3 hr;go_wp2;have hst:∀(wy:World),wx.grownBy wy (some (w.heap.size+1))→Stbn 4 3 [[],[],[0],[0,1,2]] (fun i own ys wx=>match i with|0=>own= .agg #[.int .i64 p.w,.int .i64 p.h,.slice a n c]|1=>own= .agg #[.int .i64 q'.w,.int .i64 q'.h,.slice a3 n3 c3]|2=>PBx wx w.heap.size p a n c|3=>PBx wx (w.heap.size+1) q' a3 n3 c3|_=>True) wx wy:=by
     intro wy hy ii hii hne hc own ys h
     match ii,h with
     | 0,h|1,h=>exact h
     | 2,h=>exact blk_gr h hy (by simp)
     | 3,h=>exact absurd rfl hne
     | _+4,_=>trivial
    have gB:=gr_set3 wx (w.heap.size+1) (.int .i64 q'.w) (.int .i64 q'.h) (.slice a3 n3 c3);have hb:=blk_set3 (x' := .int .i64 q'.w) (y' := .int .i64 q'.h) (z' := .slice a3 n3 c3) hr;exact hQo undef _ (hK.out _ _ ⟨hb,hG.put gB (by omega) (by omega) (PZ.gr hG.r1 gB (by simp)) ⟨_,_,_,hb⟩,hst _ gB⟩)
  intro xs wx hV hG;have d2:PBx wx w.heap.size p a n c:=hV 2 (by decide);have d3:PBx wx (w.heap.size+1) q' a3 n3 c3:=hV 3 (by decide);clear hV;simp only[patchS,Nat.reduceAdd,Nat.reduceEqDiff,↓reduceIte];generalize xs 0=y0,xs 1=y1,xs 2=y2,xs 3=y3 at *
  replace hG:PS w b (P+7000) O p a n c Q q' a3 n3 c3 U wx:=hG
  go_wp2;exact bodyPost_ret (results_pcc rfl _ _ (w.heap.size) #[.int .i64 p.w,.int .i64 p.h,.slice a n c] rfl (run_loadVar_row _ _ 25 _ _ _ _ d2 Tryz.underlying25 rfl size_Picture) (w.heap.size+1) #[.int .i64 q'.w,.int .i64 q'.h,.slice a3 n3 c3] rfl (run_loadVar_row _ _ 25 _ _ _ _ d3 Tryz.underlying25 rfl size_Picture)) rfl (hG.res (by omega))
end Go.Proofs.YtbnhaegidfbgbaaGreatDoor
namespace Go.Proofs.YtbnhaegidfbgbaaGreatDoor
open Go.RowKit
theorem results_ccctttt {P:Program} {fn:Func} {p0:Tmp} {y0:TypeId} {p1:Tmp} {y1:TypeId} {p2:Tmp} {y2:TypeId} {p3:Tmp} {p4:Tmp} {p5:Tmp} {p6:Tmp} (h:fn.results = #[.cell p0 y0,.cell p1 y1,.cell p2 y2,.tmp p3,.tmp p4,.tmp p5,.tmp p6]) (tmps:Array Value) (w:World)
 (g0:Nat) (cs0:Array Value) (hp0:tmps.getD p0 undef= .pointer (some ⟨g0,0,none⟩)) (hl0:(loadVar y0 ⟨g0,0,none⟩).run P w= .ok (.agg cs0) w)
 (g1:Nat) (cs1:Array Value) (hp1:tmps.getD p1 undef= .pointer (some ⟨g1,0,none⟩)) (hl1:(loadVar y1 ⟨g1,0,none⟩).run P w= .ok (.agg cs1) w)
 (g2:Nat) (cs2:Array Value) (hp2:tmps.getD p2 undef= .pointer (some ⟨g2,0,none⟩)) (hl2:(loadVar y2 ⟨g2,0,none⟩).run P w= .ok (.agg cs2) w) :
 (results fn tmps).run P w= .ok (.tuple #[.agg cs0,.agg cs1,.agg cs2,tmps.getD p3 undef,tmps.getD p4 undef,tmps.getD p5 undef,tmps.getD p6 undef]) w:=by
 have hq0:tmps[p0]?.getD undef= .pointer (some ⟨g0,0,none⟩):=by simpa using hp0
 have hq1:tmps[p1]?.getD undef= .pointer (some ⟨g1,0,none⟩):=by simpa using hp1
 have hq2:tmps[p2]?.getD undef= .pointer (some ⟨g2,0,none⟩):=by simpa using hp2
 simp[results,h,hq0,hl0,hq1,hl1,hq2,hl2,asAddr,Sem.run_bind,Result.andThen]
def DS5 (w:World) (b P C k O:Nat) (p:Pic) (a:Option Addr) (n c Q:Nat) (q:Pic) (a2:Option Addr) (n2 c2:Nat) (wx:World):Prop:=DS w b P C k O p a n c Q q a2 n2 c2 wx∧PB0 wx (w.heap.size+2)∧w.heap.size+3≤b
section
variable {w wx wy : World} {b P C k O n c Q n2 c2 : Nat} {p q : Pic} {a a2 : Option Addr}
theorem DS5.step (h:DS5 w b P C k O p a n c Q q a2 n2 c2 wx):DS5 w b P C (k+1) O p a n c Q q a2 n2 c2 wx:=⟨h.1.step,h.2⟩
theorem DS5.more {c':Nat} (h:DS5 w b P C k O p a n c Q q a2 n2 c2 wx) (e:wx.grownBy wy (some b)) (r:RdP wy b (P+k*C+c')) (hc:c'≤C):DS5 w b P C (k+1) O p a n c Q q a2 n2 c2 wy:=by
 have hb:=h.2.2;exact⟨h.1.more e r hc,h.2.1.gr e (by simp;omega),hb⟩
theorem DS5.ext (h:DS5 w b P C k O p a n c Q q a2 n2 c2 wx) (e:Ext wx wy):DS5 w b P C (k+1) O p a n c Q q a2 n2 c2 wy:=⟨h.1.ext e,h.2.1.ext e,h.2.2⟩
end
theorem DrawChooseMacro_any (s:Option Addr) (cc m:Nat) (bs:List Int) (w:World) (hc:m≤cc) (hc2:cc≤9223372036854775807) (r:Sl w s m (bs.map (Value.int .u8))) (hz:∀ z∈bs,0≤z∧z≤255) :
 Calls Tryz.prog 21 #[.slice s m cc] w fun e w'=>∃(p q t:Pic) (a a2 a3:Option Addr) (c n c2 n2 c3 n3:Nat) (x y:Int) (qq top:Int),e= .returned (.tuple #[.agg #[.int .i64 p.w,.int .i64 p.h,.slice a n c],.agg #[.int .i64 q.w,.int .i64 q.h,.slice a2 n2 c2],.agg #[.int .i64 t.w,.int .i64 t.h,.slice a3 n3 c3],.int .i64 x,.int .i64 y,.int .i64 qq,.int .i64 top])∧(-1≤qq∧qq≤16)∧(n=p.px.length∧n≤1024∧Sl w' a n (p.px.map (Value.int .i64)))∧(n2=q.px.length∧n2≤1024∧Sl w' a2 n2 (q.px.map (Value.int .i64)))∧(n3=t.px.length∧n3≤1024∧Sl w' a3 n3 (t.px.map (Value.int .i64)))∧Ext w w':=by
 have e0:Ext w (((w.alloc (.cells #[.int .i64 0,.int .i64 0,.slice none 0 0] 25)).alloc (.cells #[.int .i64 0,.int .i64 0,.slice none 0 0] 25)).alloc (.cells #[.int .i64 0,.int .i64 0,.slice none 0 0] 25)):=((Ext.alloc w _).trans (Ext.alloc _ _)).trans (Ext.alloc _ _);have R0:PB0 (((w.alloc (.cells #[.int .i64 0,.int .i64 0,.slice none 0 0] 25)).alloc (.cells #[.int .i64 0,.int .i64 0,.slice none 0 0] 25)).alloc (.cells #[.int .i64 0,.int .i64 0,.slice none 0 0] 25)) w.heap.size:=⟨0,0,none,0,0,(Ext.alloc _ _).blk ((Ext.alloc _ _).blk (blk_new w _))⟩;have R1:PB0 (((w.alloc (.cells #[.int .i64 0,.int .i64 0,.slice none 0 0] 25)).alloc (.cells #[.int .i64 0,.int .i64 0,.slice none 0 0] 25)).alloc (.cells #[.int .i64 0,.int .i64 0,.slice none 0 0] 25)) (w.heap.size+1):=⟨0,0,none,0,0,(Ext.alloc _ _).blk (by have:=blk_new (w.alloc (.cells #[.int .i64 0,.int .i64 0,.slice none 0 0] 25)) (.cells #[.int .i64 0,.int .i64 0,.slice none 0 0] 25);rwa [World.size_alloc]at this)⟩;have R2:PB0 (((w.alloc (.cells #[.int .i64 0,.int .i64 0,.slice none 0 0] 25)).alloc (.cells #[.int .i64 0,.int .i64 0,.slice none 0 0] 25)).alloc (.cells #[.int .i64 0,.int .i64 0,.slice none 0 0] 25)) (w.heap.size+2):=⟨0,0,none,0,0,by have:=blk_new ((w.alloc (.cells #[.int .i64 0,.int .i64 0,.slice none 0 0] 25)).alloc (.cells #[.int .i64 0,.int .i64 0,.slice none 0 0] 25)) (.cells #[.int .i64 0,.int .i64 0,.slice none 0 0] 25);rwa [World.size_alloc,World.size_alloc]at this⟩;have z0:w.heap.size+3≤(((w.alloc (.cells #[.int .i64 0,.int .i64 0,.slice none 0 0] 25)).alloc (.cells #[.int .i64 0,.int .i64 0,.slice none 0 0] 25)).alloc (.cells #[.int .i64 0,.int .i64 0,.slice none 0 0] 25)).heap.size:=by simp
 go_enter Tryz.func21,Tryz.ntmps21
 go_wp2_with fail
 try simp only[World.size_alloc]
 generalize (((w.alloc (.cells #[.int .i64 0,.int .i64 0,.slice none 0 0] 25)).alloc (.cells #[.int .i64 0,.int .i64 0,.slice none 0 0] 25)).alloc (.cells #[.int .i64 0,.int .i64 0,.slice none 0 0] 25))=w0 at *;refine(open_any s cc m bs _ hc hc2 (r.ext e0) hz).mono ?_
 rintro e w1 ⟨b,rfl,rd,e1,hb⟩
 have hRb:w.heap.size+3≤b:=by omega
 have E1:=e0.trans e1;have r1:RdP w1 b 0:=⟨0,by omega,rd⟩;have S0:=R0.ext e1;have S1:=R1.ext e1;have U1:=R2.ext e1;clear e0 e1 R0 R1 R2 z0 rd hb hz;go_wp2_with fail
 refine(l20Tiny_c b 0 14 _ r1 (by omega) (by omega) (by omega)).mono ?_
 rintro e w2 ⟨p,q,a,a2,c,n,c2,n2,rfl,A2,B2,r2,g2⟩
 have hb1:=r1.lt;have G2:=grown_trans (ext_gr E1:w.grownBy _ (some b)) g2;have S2:=S0.gr g2 (by simp;omega);have T2:=S1.gr g2 (by simp;omega);have U2:=U1.gr g2 (by simp;omega);obtain⟨O,hO⟩:∃ O,O=w2.heap.size:=⟨_,rfl⟩;have D3:DS w b 8000 2200 0 O p a n c (O+1) q a2 n2 c2 ((w2.alloc (.cells #[.int .i64 p.w,.int .i64 p.h,.slice a n c] 25)).alloc (.cells #[.int .i64 q.w,.int .i64 q.h,.slice a2 n2 c2] 25)):=by
  have e3:Ext w2 ((w2.alloc (.cells #[.int .i64 p.w,.int .i64 p.h,.slice a n c] 25)).alloc (.cells #[.int .i64 q.w,.int .i64 q.h,.slice a2 n2 c2] 25)):=(Ext.alloc w2 _).trans (Ext.alloc _ _);refine⟨⟨grown_ext G2 e3,(r2.ext e3).mono (by omega)⟩,by rw[hO];exact(Ext.alloc _ _).blk (blk_new _ _),?_,S2.ext e3,T2.ext e3,A2.2.2.2.2.1.ext e3,B2.2.2.2.2.1.ext e3,by omega,by rw[hO];exact Nat.lt_of_lt_of_le hb1 g2.size,by omega,fun y hy=>by have:=(A2.2.2.2.2.2 y hy).1;omega,fun y hy=>by have:=(B2.2.2.2.2.2 y hy).1;omega⟩;have:=blk_new (w2.alloc (.cells #[.int .i64 p.w,.int .i64 p.h,.slice a n c] 25)) (.cells #[.int .i64 q.w,.int .i64 q.h,.slice a2 n2 c2] 25)
  rwa [World.size_alloc,←hO]at this
 have U3:PB0 ((w2.alloc (.cells #[.int .i64 p.w,.int .i64 p.h,.slice a n c] 25)).alloc (.cells #[.int .i64 q.w,.int .i64 q.h,.slice a2 n2 c2] 25)) (w.heap.size+2):=(U2.ext (Ext.alloc w2 _)).ext (Ext.alloc _ _);have HA:=Lib.hid (show n=p.px.length∧n≤1024 from ⟨A2.1,A2.2.1⟩);have HB:=Lib.hid (show n2=q.px.length∧n2≤1024 from ⟨B2.1,B2.2.1⟩);have hAt:(-8≤p.w∧p.w≤40)∧0≤p.h∧p.h≤40:=⟨A2.2.2.1,A2.2.2.2.1⟩;clear A2 B2 r2 g2 G2 S2 T2 S0 S1 E1 r1 r U1 U2;go_upto_region 3 with fail
 try simp only[World.size_alloc]
 rw[←hO];generalize (w2.alloc (.cells #[.int .i64 p.w,.int .i64 p.h,.slice a n c] 25)).alloc (.cells #[.int .i64 q.w,.int .i64 q.h,.slice a2 n2 c2] 25)=w3 at *;clear hO;obtain⟨k0,k1,k2⟩:=D3.bx1.cells;go_wp2_with fail
 refine(l20At_c b _ p.w p.h a c n 14 _ D3.dg.2 (by omega) (by omega) (by omega) hAt.1 hAt.2).mono ?_
 rintro e w4 ⟨x,y,rfl,hy0,hy1,r4,g4⟩
 have D4:DS w b 8100 2200 0 O p a n c (O+1) q a2 n2 c2 w4:=D3.grb g4 ⟨grown_trans D3.dg.1 g4,r4.mono (by omega)⟩;have U4:=U3.gr g4 (by simp;omega);clear D3 r4 g4 k0 k1 k2 U3;go_upto_region 4 with fail
 obtain⟨Q,hQ⟩:∃ Q,Q=O+1:=⟨_,rfl⟩;rw[←hQ]at D4;rw[←hQ];have hQO:=D4.hQ;have hbO:=D4.hO;have hRb2:=D4.hb;clear hQ;have hext:Stab (fun wa wb=>wa.grownBy wb (some b)) (fun i own ys wx=>match i with|0=>own= .agg #[.int .i64 p.w,.int .i64 p.h,.slice a n c]|1=>own= .agg #[.int .i64 q.w,.int .i64 q.h,.slice a2 n2 c2]|2=>own= .pointer (some ⟨b,0,none⟩)|3=>own= .agg #[.int .i64 p.w,.int .i64 p.h,.slice a n c]|4=>P3 b wx own|5=>own= .int .i64 x|6=>own= .int .i64 (y)|7=>own= .pointer (some ⟨b,0,none⟩)|8=>∃ x:Int,own= .int .i64 x ∧ -1≤x∧x≤16|9=>own= .int .i64 (y)|10=>own= .pointer (some ⟨b,0,none⟩)|11=>∃ x:Int,own= .int .i64 x∧0≤x∧x<9|12=>∃ x:Int,own= .int .i64 x ∧ -1≤x∧x≤7|13=>SlR wx (b+1) own 3 (-1) (32)|14=>own= .pointer (some ⟨b,0,none⟩)|15=>∃ x:Int,own= .int .i64 x∧0≤x∧x<3|16=>PtR wx (b+1) own (-1) (32)|17=>∃ x:Int,own= .int .i64 x ∧ -1≤x∧x≤32|18=>PBx wx w.heap.size p a n c|19=>PBx wx (w.heap.size+1) q a2 n2 c2|20=>P3x b (w.heap.size+2) wx|21=>own= .int .i64 x|22=>own= .int .i64 (y)|23=>∃ x:Int,own= .int .i64 x ∧ -1≤x∧x≤16|24=>∃ x:Int,own= .int .i64 x ∧ -1≤x∧x≤32|_=>True):=by
  intro i own ys wa wb e h
  match i,h with
  | 0,h|1,h|2,h|3,h|5,h|6,h|7,h|8,h|9,h|10,h|11,h|12,h|14,h|15,h|17,h|21,h|22,h|23,h|24,h=>exact h
  | 4,h=>exact h.gr e (by omega)
  | 13,h|16,h=>exact h.grown e (by omega)
  | 18,h|19,h=>exact PBx.gr h e (by simp;omega)
  | 20,h=>exact h.gr e (by omega) (by omega)
  | _+25,_=>trivial
 have Hext:=Lib.hid hext;clear hext;refine wp_region_inv2 (by kernel_rfl) [(5,21),(6,22),(7,23),(8,24),(27,0),(28,1),(29,2),(30,3),(31,4),(32,5),(33,6),(34,7),(35,8),(36,9),(37,10),(38,11),(39,12),(40,13),(41,14),(42,15),(43,16),(44,17)] [[],[],[],[],[2,3],[],[],[],[2,3,4,7],[],[],[2,3,4,7,8,10],[2,3,4,7,8,10,11],[2,3,4,7,8,9,10,11,12],[],[2,3,4,7,8,10,11,14],[2,3,4,7,8,9,10,11,12,13,14,15],[2,3,4,7,8,9,10,11,12,13,14,15,16],[0,2,3,4,7,8,10,11,14,15],[0,1,2,3,4,7,8,10,11,14,15,18],[0,1,2,3,4,7,8,10,11,14,15,18,19],[0,1,2,3,4,5,7,8,10,11,14,15,18,19,20],[0,1,2,3,4,5,6,7,8,10,11,14,15,18,19,20,21],[0,1,2,3,4,5,6,7,8,10,11,14,15,18,19,20,21,22],[0,1,2,3,4,5,6,7,8,9,10,11,12,13,14,15,16,17,18,19,20,21,22,23]] (fun i own ys wx=>match i with|0=>own= .agg #[.int .i64 p.w,.int .i64 p.h,.slice a n c]|1=>own= .agg #[.int .i64 q.w,.int .i64 q.h,.slice a2 n2 c2]|2=>own= .pointer (some ⟨b,0,none⟩)|3=>own= .agg #[.int .i64 p.w,.int .i64 p.h,.slice a n c]|4=>P3 b wx own|5=>own= .int .i64 x|6=>own= .int .i64 (y)|7=>own= .pointer (some ⟨b,0,none⟩)|8=>∃ x:Int,own= .int .i64 x ∧ -1≤x∧x≤16|9=>own= .int .i64 (y)|10=>own= .pointer (some ⟨b,0,none⟩)|11=>∃ x:Int,own= .int .i64 x∧0≤x∧x<9|12=>∃ x:Int,own= .int .i64 x ∧ -1≤x∧x≤7|13=>SlR wx (b+1) own 3 (-1) (32)|14=>own= .pointer (some ⟨b,0,none⟩)|15=>∃ x:Int,own= .int .i64 x∧0≤x∧x<3|16=>PtR wx (b+1) own (-1) (32)|17=>∃ x:Int,own= .int .i64 x ∧ -1≤x∧x≤32|18=>PBx wx w.heap.size p a n c|19=>PBx wx (w.heap.size+1) q a2 n2 c2|20=>P3x b (w.heap.size+2) wx|21=>own= .int .i64 x|22=>own= .int .i64 (y)|23=>∃ x:Int,own= .int .i64 x ∧ -1≤x∧x≤16|24=>∃ x:Int,own= .int .i64 x ∧ -1≤x∧x≤32|_=>True) (fun kx wx=>DS5 w b 8100 2200 kx O p a n c Q q a2 n2 c2 wx) (by kernel_rfl) (by kernel_rfl) (by kernel_rfl) ?g0_r1 ?gop_r1 ?gend_r1
 case g0_r1=>exact⟨D4.grb (ext_gr (Ext.drewN _ 1)) D4.dg.drew,U4.ext (Ext.drewN _ 1),hRb⟩
 case gop_r1 =>
  refine⟨?o0,?o1,?_,?o3,?o4,?_,?_,?_,?o8,?_,?_,?o11,?o12,?o13,?_,?o15,?o16,?o17,?o18,?o19,?o20,?o21,?o22,?o23,?o24,trivial⟩ <;> (intro kx xs wx hk hG hD hI Qo Kx hK hQo;simp only[patchS,Nat.reduceAdd,Nat.reduceEqDiff,↓reduceIte]at hQo⊢)
  case o0 =>
   clear hD hI;obtain⟨k0,k1,k2⟩:=hG.1.bx1.cells;go_wp2;exact hK.out _ _ ⟨rfl,hG.step,kkp⟩
  case o1 =>
   clear hD hI;obtain⟨k0,k1,k2⟩:=hG.1.bx2.cells;go_wp2;exact hK.out _ _ ⟨rfl,hG.step,kkp⟩
  case o3 =>
   clear hD hI;obtain⟨k0,k1,k2⟩:=hG.1.bx1.cells;go_wp2;exact hK.out _ _ ⟨rfl,hG.step,kkp⟩
  case o4 =>
   rw[ddq (hD 2 rfl),ddq (hD 3 rfl)]at hQo⊢;clear hD hI;go_wp2_with fail
   refine(l20Next_c b _ p a c n _ hG.1.dg.2 (by have hk2:kx<25:=hk;omega) HA.out.1 HA.out.2 hG.1.sl1 (fun u hu=>by have:=hG.1.ha u hu;omega)).mono ?_
   rintro e w4 ⟨r,ar,cr,nr,rfl,xa,xb,-,-,-,-,xs1,xy,rd,gr⟩
   have Xa:=Lib.hid xa;clear xa;go_wp2;exact hK.out _ _ ⟨⟨r,ar,nr,cr,rfl,Xa,xb,xs1,fun u hu=>by have:=xy u hu;have:=hG.1.dg.2.lt;omega⟩,hG.more gr rd (by decide),fun i _ _ _ own ys h=>Hext.out i own ys _ _ gr h⟩
  case o8 =>
   rw[ddq (hD 7 rfl)]at hQo⊢;clear hD hI;go_wp2_with fail
   refine(l20Q_c b _ 14 _ hG.1.dg.2 (DG.bd hk (by decide) (by decide) (by decide)) (by omega) (by omega)).mono ?_
   rintro e w4 ⟨xx,rfl,xa,xb,rd,gr⟩
   go_wp2;exact hK.out _ _ ⟨⟨xx,rfl,xa,xb⟩,hG.more gr rd (by decide),fun i _ _ _ own ys h=>Hext.out i own ys _ _ gr h⟩
  case o11 =>
   rw[ddq (hD 10 rfl)]at hQo⊢;clear hD hI;go_wp2_with fail
   refine(pick_c _ _ _ _ hG.1.dg.2 (DG.small hk (by decide) (by decide) (by omega)) (by omega) (by omega)).mono ?_
   rintro e w4 ⟨xx,rfl,xa,xb,rd,gr⟩
   go_wp2;exact hK.out _ _ ⟨⟨xx,rfl,xa,by omega⟩,hG.more gr rd (by decide),fun i _ _ _ own ys h=>Hext.out i own ys _ _ gr h⟩
  case o12 =>
   have d11:∃ x:Int,(xs 11) = .int .i64 x∧0≤x∧x<9:=hD 11 rfl;clear hD hI;generalize xs 11=y11 at *;obtain⟨x11,rfl,x11a,x11b⟩:=d11;go_wp2;exact hK.out _ _ ⟨⟨_,rfl,by omega,by omega⟩,hG.step,kkp⟩
  case o13 =>
   rw[ddq (hD 9 rfl)]at hQo⊢;have d12:∃ x:Int,(xs 12) = .int .i64 x ∧ -1≤x∧x≤7:=hD 12 rfl;clear hD hI;generalize xs 12=y12 at *;obtain⟨x12,rfl,x12a,x12b⟩:=d12;have e5:=Ext.alloc wx (.cells #[.int .i64 0,.int .i64 y,.int .i64 x12] 3);go_wp2;exact hK.out _ _ ⟨⟨_,[0,y,x12],rfl,by have:=hG.1.dg.2.lt;omega,Sl_new _ _ _,by simp <;> omega⟩,hG.ext e5,fun i _ _ _ own ys h=>Hext.out i own ys _ _ (ext_gr e5) h⟩
  case o15 =>
   rw[ddq (hD 14 rfl)]at hQo⊢;clear hD hI;go_wp2_with fail
   refine(pick_c _ _ _ _ hG.1.dg.2 (DG.small hk (by decide) (by decide) (by omega)) (by omega) (by omega)).mono ?_
   rintro e w4 ⟨xx,rfl,xa,xb,rd,gr⟩
   go_wp2;exact hK.out _ _ ⟨⟨xx,rfl,xa,by omega⟩,hG.more gr rd (by decide),fun i _ _ _ own ys h=>Hext.out i own ys _ _ gr h⟩
  case o16 =>
   have d13:SlR wx (b+1) (xs 13) 3 (-1) (32):=hD 13 rfl;have d15:∃ x:Int,(xs 15) = .int .i64 x∧0≤x∧x<3:=hD 15 rfl;clear hD hI;generalize xs 13=y13 at *;generalize xs 15=y15 at *;obtain⟨g13,l13,rfl,n13,s13,r13⟩:=d13;obtain⟨x15,rfl,x15a,x15b⟩:=d15;go_wp2;exact hK.out _ _ ⟨SlR.at n13 s13 r13 (by omega),hG.step,kkp⟩
  case o17 =>
   have d16:PtR wx (b+1) (xs 16) (-1) (32):=hD 16 rfl;clear hD hI;generalize xs 16=y16 at *;obtain⟨g16,j16,y16,rfl,n16,c16,y16a,y16b⟩:=d16;go_wp2;exact hK.out _ _ ⟨⟨_,rfl,by omega,by omega⟩,hG.step,kkp⟩
  case o18 =>
   rw[ddq (hD 0 rfl)]at hQo⊢;clear hD hI;obtain⟨x0,y0,a0,n0,c0,hr⟩:=hG.1.res1;obtain⟨-,k0,k1,k2,f0,f1,f2⟩:=bx3 hr;go_wp2;have hst:∀(wy:World),wx.grownBy wy (some w.heap.size)→Stbn 25 18 [[],[],[],[],[2,3],[],[],[],[2,3,4,7],[],[],[2,3,4,7,8,10],[2,3,4,7,8,10,11],[2,3,4,7,8,9,10,11,12],[],[2,3,4,7,8,10,11,14],[2,3,4,7,8,9,10,11,12,13,14,15],[2,3,4,7,8,9,10,11,12,13,14,15,16],[0,2,3,4,7,8,10,11,14,15],[0,1,2,3,4,7,8,10,11,14,15,18],[0,1,2,3,4,7,8,10,11,14,15,18,19],[0,1,2,3,4,5,7,8,10,11,14,15,18,19,20],[0,1,2,3,4,5,6,7,8,10,11,14,15,18,19,20,21],[0,1,2,3,4,5,6,7,8,10,11,14,15,18,19,20,21,22],[0,1,2,3,4,5,6,7,8,9,10,11,12,13,14,15,16,17,18,19,20,21,22,23]] (fun i own ys wx=>match i with|0=>own= .agg #[.int .i64 p.w,.int .i64 p.h,.slice a n c]|1=>own= .agg #[.int .i64 q.w,.int .i64 q.h,.slice a2 n2 c2]|2=>own= .pointer (some ⟨b,0,none⟩)|3=>own= .agg #[.int .i64 p.w,.int .i64 p.h,.slice a n c]|4=>P3 b wx own|5=>own= .int .i64 x|6=>own= .int .i64 (y)|7=>own= .pointer (some ⟨b,0,none⟩)|8=>∃ x:Int,own= .int .i64 x ∧ -1≤x∧x≤16|9=>own= .int .i64 (y)|10=>own= .pointer (some ⟨b,0,none⟩)|11=>∃ x:Int,own= .int .i64 x∧0≤x∧x<9|12=>∃ x:Int,own= .int .i64 x ∧ -1≤x∧x≤7|13=>SlR wx (b+1) own 3 (-1) (32)|14=>own= .pointer (some ⟨b,0,none⟩)|15=>∃ x:Int,own= .int .i64 x∧0≤x∧x<3|16=>PtR wx (b+1) own (-1) (32)|17=>∃ x:Int,own= .int .i64 x ∧ -1≤x∧x≤32|18=>PBx wx w.heap.size p a n c|19=>PBx wx (w.heap.size+1) q a2 n2 c2|20=>P3x b (w.heap.size+2) wx|21=>own= .int .i64 x|22=>own= .int .i64 (y)|23=>∃ x:Int,own= .int .i64 x ∧ -1≤x∧x≤16|24=>∃ x:Int,own= .int .i64 x ∧ -1≤x∧x≤32|_=>True) wx wy:=by
    intro wy hy ii hii hne hc own ys h
    match ii,h with
    | 0,h|1,h|2,h|3,h|5,h|6,h|7,h|8,h|9,h|10,h|11,h|12,h|14,h|15,h|17,h=>exact h
    | 4,h=>exact h.gr hy (by omega)
    | 13,h|16,h=>exact h.grown hy (by omega)
    | 18,h=>exact absurd rfl hne
    | 19,h|20,h|21,h|22,h|23,h|24,h=>exact absurd hc (by decide)
    | _+25,_=>trivial
   have gB:=gr_set3 wx w.heap.size (.int .i64 p.w) (.int .i64 p.h) (.slice a n c);exact hQo undef _ (hK.out _ _ ⟨blk_set3 hr,⟨hG.1.put1 gB hr,hG.2.1.gr gB (by simp),hG.2.2⟩,hst _ gB⟩)
  case o19 =>
   rw[ddq (hD 1 rfl)]at hQo⊢;clear hD hI;obtain⟨x0,y0,a0,n0,c0,hr⟩:=hG.1.res2;obtain⟨-,k0,k1,k2,f0,f1,f2⟩:=bx3 hr;go_wp2;have hst:∀(wy:World),wx.grownBy wy (some (w.heap.size+1))→Stbn 25 19 [[],[],[],[],[2,3],[],[],[],[2,3,4,7],[],[],[2,3,4,7,8,10],[2,3,4,7,8,10,11],[2,3,4,7,8,9,10,11,12],[],[2,3,4,7,8,10,11,14],[2,3,4,7,8,9,10,11,12,13,14,15],[2,3,4,7,8,9,10,11,12,13,14,15,16],[0,2,3,4,7,8,10,11,14,15],[0,1,2,3,4,7,8,10,11,14,15,18],[0,1,2,3,4,7,8,10,11,14,15,18,19],[0,1,2,3,4,5,7,8,10,11,14,15,18,19,20],[0,1,2,3,4,5,6,7,8,10,11,14,15,18,19,20,21],[0,1,2,3,4,5,6,7,8,10,11,14,15,18,19,20,21,22],[0,1,2,3,4,5,6,7,8,9,10,11,12,13,14,15,16,17,18,19,20,21,22,23]] (fun i own ys wx=>match i with|0=>own= .agg #[.int .i64 p.w,.int .i64 p.h,.slice a n c]|1=>own= .agg #[.int .i64 q.w,.int .i64 q.h,.slice a2 n2 c2]|2=>own= .pointer (some ⟨b,0,none⟩)|3=>own= .agg #[.int .i64 p.w,.int .i64 p.h,.slice a n c]|4=>P3 b wx own|5=>own= .int .i64 x|6=>own= .int .i64 (y)|7=>own= .pointer (some ⟨b,0,none⟩)|8=>∃ x:Int,own= .int .i64 x ∧ -1≤x∧x≤16|9=>own= .int .i64 (y)|10=>own= .pointer (some ⟨b,0,none⟩)|11=>∃ x:Int,own= .int .i64 x∧0≤x∧x<9|12=>∃ x:Int,own= .int .i64 x ∧ -1≤x∧x≤7|13=>SlR wx (b+1) own 3 (-1) (32)|14=>own= .pointer (some ⟨b,0,none⟩)|15=>∃ x:Int,own= .int .i64 x∧0≤x∧x<3|16=>PtR wx (b+1) own (-1) (32)|17=>∃ x:Int,own= .int .i64 x ∧ -1≤x∧x≤32|18=>PBx wx w.heap.size p a n c|19=>PBx wx (w.heap.size+1) q a2 n2 c2|20=>P3x b (w.heap.size+2) wx|21=>own= .int .i64 x|22=>own= .int .i64 (y)|23=>∃ x:Int,own= .int .i64 x ∧ -1≤x∧x≤16|24=>∃ x:Int,own= .int .i64 x ∧ -1≤x∧x≤32|_=>True) wx wy:=by
    intro wy hy ii hii hne hc own ys h
    match ii,h with
    | 0,h|1,h|2,h|3,h|5,h|6,h|7,h|8,h|9,h|10,h|11,h|12,h|14,h|15,h|17,h=>exact h
    | 4,h=>exact h.gr hy (by omega)
    | 13,h|16,h=>exact h.grown hy (by omega)
    | 18,h=>exact PBx.gr h hy (by simp)
    | 19,h=>exact absurd rfl hne
    | 20,h|21,h|22,h|23,h|24,h=>exact absurd hc (by decide)
    | _+25,_=>trivial
   have gB:=gr_set3 wx (w.heap.size+1) (.int .i64 q.w) (.int .i64 q.h) (.slice a2 n2 c2);exact hQo undef _ (hK.out _ _ ⟨blk_set3 hr,⟨hG.1.put2 gB hr,hG.2.1.gr gB (by simp),hG.2.2⟩,hst _ gB⟩)
  case o20 =>
   have d4:P3 b wx (xs 4):=hD 4 rfl;clear hD hI;generalize xs 4=y4 at *;obtain⟨r4,a4,n4,c4,rfl,h4a,h4b,h4s,h4y⟩:=d4;obtain⟨x0,y0,a0,n0,c0,hr⟩:=hG.2.1;obtain⟨-,k0,k1,k2,f0,f1,f2⟩:=bx3 hr;go_wp2;have hst:∀(wy:World),wx.grownBy wy (some (w.heap.size+2))→Stbn 25 20 [[],[],[],[],[2,3],[],[],[],[2,3,4,7],[],[],[2,3,4,7,8,10],[2,3,4,7,8,10,11],[2,3,4,7,8,9,10,11,12],[],[2,3,4,7,8,10,11,14],[2,3,4,7,8,9,10,11,12,13,14,15],[2,3,4,7,8,9,10,11,12,13,14,15,16],[0,2,3,4,7,8,10,11,14,15],[0,1,2,3,4,7,8,10,11,14,15,18],[0,1,2,3,4,7,8,10,11,14,15,18,19],[0,1,2,3,4,5,7,8,10,11,14,15,18,19,20],[0,1,2,3,4,5,6,7,8,10,11,14,15,18,19,20,21],[0,1,2,3,4,5,6,7,8,10,11,14,15,18,19,20,21,22],[0,1,2,3,4,5,6,7,8,9,10,11,12,13,14,15,16,17,18,19,20,21,22,23]] (fun i own ys wx=>match i with|0=>own= .agg #[.int .i64 p.w,.int .i64 p.h,.slice a n c]|1=>own= .agg #[.int .i64 q.w,.int .i64 q.h,.slice a2 n2 c2]|2=>own= .pointer (some ⟨b,0,none⟩)|3=>own= .agg #[.int .i64 p.w,.int .i64 p.h,.slice a n c]|4=>P3 b wx own|5=>own= .int .i64 x|6=>own= .int .i64 (y)|7=>own= .pointer (some ⟨b,0,none⟩)|8=>∃ x:Int,own= .int .i64 x ∧ -1≤x∧x≤16|9=>own= .int .i64 (y)|10=>own= .pointer (some ⟨b,0,none⟩)|11=>∃ x:Int,own= .int .i64 x∧0≤x∧x<9|12=>∃ x:Int,own= .int .i64 x ∧ -1≤x∧x≤7|13=>SlR wx (b+1) own 3 (-1) (32)|14=>own= .pointer (some ⟨b,0,none⟩)|15=>∃ x:Int,own= .int .i64 x∧0≤x∧x<3|16=>PtR wx (b+1) own (-1) (32)|17=>∃ x:Int,own= .int .i64 x ∧ -1≤x∧x≤32|18=>PBx wx w.heap.size p a n c|19=>PBx wx (w.heap.size+1) q a2 n2 c2|20=>P3x b (w.heap.size+2) wx|21=>own= .int .i64 x|22=>own= .int .i64 (y)|23=>∃ x:Int,own= .int .i64 x ∧ -1≤x∧x≤16|24=>∃ x:Int,own= .int .i64 x ∧ -1≤x∧x≤32|_=>True) wx wy:=by
    intro wy hy ii hii hne hc own ys h
    match ii,h with
    | 0,h|1,h|2,h|3,h|5,h|6,h|7,h|8,h|9,h|10,h|11,h|12,h|14,h|15,h|17,h=>exact h
    | 4,h=>exact h.gr hy (by omega)
    | 13,h|16,h=>exact h.grown hy (by omega)
    | 18,h|19,h=>exact PBx.gr h hy (by simp)
    | 20,h=>exact absurd rfl hne
    | 21,h|22,h|23,h|24,h=>exact absurd hc (by decide)
    | _+25,_=>trivial
   have gB:=gr_set3 wx (w.heap.size+2) (.int .i64 r4.w) (.int .i64 r4.h) (.slice a4 n4 c4);exact hQo undef _ (hK.out _ _ ⟨⟨r4,a4,n4,c4,blk_set3 hr,h4a,h4b,h4s.grown gB (fun u hu=>by have:=h4y u hu;simp;omega),h4y⟩,⟨hG.1.low gB (by omega) (by omega) (hG.1.dg.2.setP3 hr (by omega)) (hG.1.res1.gr gB (by simp)) (hG.1.res2.gr gB (by simp)),⟨_,_,_,_,_,blk_set3 hr⟩,hG.2.2⟩,hst _ gB⟩)
  case o21 =>
   rw[ddq (hD 5 rfl)]at hQo⊢;clear hD hI;go_wp2;exact hK.out _ _ ⟨rfl,hG.step,kkp⟩
  case o22 =>
   rw[ddq (hD 6 rfl)]at hQo⊢;clear hD hI;go_wp2;exact hK.out _ _ ⟨rfl,hG.step,kkp⟩
  case o23 =>
   have d8:∃ x:Int,(xs 8) = .int .i64 x ∧ -1≤x∧x≤16:=hD 8 rfl;clear hD hI;generalize xs 8=y8 at *;obtain⟨x8,rfl,x8a,x8b⟩:=d8;go_wp2;exact hK.out _ _ ⟨⟨_,rfl,by omega,by omega⟩,hG.step,kkp⟩
  case o24 =>
   have d17:∃ x:Int,(xs 17) = .int .i64 x ∧ -1≤x∧x≤32:=hD 17 rfl;clear hD hI;generalize xs 17=y17 at *;obtain⟨x17,rfl,x17a,x17b⟩:=d17;go_wp2;exact hK.out _ _ ⟨⟨_,rfl,by omega,by omega⟩,hG.step,kkp⟩
  all_goals
   clear hD hI;go_wp2;exact hK.out _ _ ⟨rfl,hG.step,kkp⟩
 clear Hext;intro xs wx hV hG;have d18:PBx wx w.heap.size p a n c:=hV 18 (by decide);have d19:PBx wx (w.heap.size+1) q a2 n2 c2:=hV 19 (by decide);have d20:P3x b (w.heap.size+2) wx:=hV 20 (by decide);have d21:_=_:=hV 21 (by decide);have d22:_=_:=hV 22 (by decide);have d23:∃ x:Int,(xs 23) = .int .i64 x ∧ -1≤x∧x≤16:=hV 23 (by decide);have d24:∃ x:Int,(xs 24) = .int .i64 x ∧ -1≤x∧x≤32:=hV 24 (by decide);clear hV;simp only[patchS,Nat.reduceAdd,Nat.reduceEqDiff,↓reduceIte];generalize xs 0=y0,xs 1=y1,xs 2=y2,xs 3=y3,xs 4=y4,xs 5=y5,xs 6=y6,xs 7=y7,xs 8=y8,xs 9=y9,xs 10=y10,xs 11=y11,xs 12=y12,xs 13=y13,xs 14=y14,xs 15=y15,xs 16=y16,xs 17=y17,xs 18=y18,xs 19=y19,xs 20=y20,xs 21=y21,xs 22=y22,xs 23=y23,xs 24=y24 at *
 replace hG:DS5 w b 8100 2200 25 O p a n c Q q a2 n2 c2 wx:=hG
 obtain⟨r22,a22,n22,c22,d20,h22a,h22b,h22s,h22y⟩:=d20;subst d21 d22;obtain⟨x23,rfl,x23a,x23b⟩:=d23;obtain⟨x24,rfl,x24a,x24b⟩:=d24;go_wp2;refine bodyPost_ret (results_ccctttt rfl _ _ (w.heap.size) #[.int .i64 p.w,.int .i64 p.h,.slice a n c] rfl (run_loadVar_row _ _ 25 _ _ _ _ d18 Tryz.underlying25 rfl size_Picture) (w.heap.size+1) #[.int .i64 q.w,.int .i64 q.h,.slice a2 n2 c2] rfl (run_loadVar_row _ _ 25 _ _ _ _ d19 Tryz.underlying25 rfl size_Picture) (w.heap.size+2) #[.int .i64 r22.w,.int .i64 r22.h,.slice a22 n22 c22] rfl (run_loadVar_row _ _ 25 _ _ _ _ d20 Tryz.underlying25 rfl size_Picture)) rfl ?_;exact⟨p,q,r22,a,a2,a22,c,n,c2,n2,c22,n22,x,_,_,_,rfl,⟨x23a,x23b⟩,⟨HA.out.1,HA.out.2,hG.1.sl1⟩,⟨HB.out.1,HB.out.2,hG.1.sl2⟩,⟨h22a.out,h22b,h22s⟩,hG.1.lift⟩
end Go.Proofs.YtbnhaegidfbgbaaGreatDoor
namespace Go.Proofs.YtbnhaegidfbgbaaGreatDoor

def ab (x y:Int):Int:=max x (-x)+max y (-y)
/-- A vector comes ahead of another, or is it: by cost, by length, by row, by column. -/
def leV (c:Int→Int→Int) (x y u v:Int):Prop:=c x y<c u v∨(c x y=c u v∧(ab x y<ab u v∨(ab x y=ab u v∧(y<v∨(y=v∧x≤u)))))
def boxV (x y:Int):Prop := -4≤x∧x≤4 ∧ -4≤y∧y≤4
def IsBest (c:Int→Int→Int) (s:Int×Int):Prop:=boxV s.1 s.2∧∀ u v,boxV u v→leV c s.1 s.2 u v
theorem leV.anti {c:Int→Int→Int} {x y u v:Int} (h:leV c x y u v) (k:leV c u v x y):x=u∧y=v:=by
 unfold leV at *;omega
theorem leV.trans {c:Int→Int→Int} {x y u v s t:Int} (h:leV c x y u v) (k:leV c u v s t):leV c x y s t:=by
 unfold leV at *;omega
theorem leV.refl (c:Int→Int→Int) (x y:Int):leV c x y x y:=by
 unfold leV;omega
theorem IsBest.uniq {c:Int→Int→Int} {s t:Int×Int} (h:IsBest c s) (k:IsBest c t):s=t:=by
 have:=(h.2 _ _ k.1).anti (k.2 _ _ h.1);exact Prod.ext this.1 this.2
/-- The vectors of a row of the search. -/
def oneV (sum y:Int):List (Int×Int):=if sum-max y (-y)>4 then []else if sum-max y (-y)>0 then [(-(sum-max y (-y)),y),(sum-max y (-y),y)]else [(-(sum-max y (-y)),y)]
def rowV (s:Nat):Nat→List (Int×Int)
 | 0 => []
 | j+1=>rowV s j++oneV s (-(min (s:Int) 4)+j)
def vecS : Nat→List (Int×Int)
 | 0 => []
 | s+1=>vecS s++rowV s (2*min s 4+1)
def vecL : List (Int×Int):=vecS 9
def ltV (a b:Int×Int):Bool:=decide (ab a.1 a.2<ab b.1 b.2∨(ab a.1 a.2=ab b.1 b.2∧(a.2<b.2∨(a.2=b.2∧a.1<b.1))))
def srt : List (Int×Int)→Bool
 | []=>true
 | a::l=>l.all (ltV a) && srt l
theorem vecL_srt : srt vecL=true:=by decide +kernel
theorem vecL_has : (List.range 9).all (fun i=>(List.range 9).all fun j=>vecL.contains (((i:Nat):Int)-4,((j:Nat):Int)-4))=true:=by decide +kernel
theorem vecL_box : vecL.all (fun v=>decide (-4≤v.1∧v.1≤4 ∧ -4≤v.2∧v.2≤4))=true:=by decide +kernel
theorem vecL_mem {x y:Int} (h:boxV x y):(x,y)∈vecL:=by
 have h1:=List.all_eq_true.1 vecL_has (x+4).toNat (by unfold boxV at h;simp;omega);have h2:=List.all_eq_true.1 h1 (y+4).toNat (by unfold boxV at h;simp;omega);unfold boxV at h;rw[show(((x+4).toNat:Nat):Int)-4=x by omega,show(((y+4).toNat:Nat):Int)-4=y by omega]at h2
 simpa using h2
/-- The program's step: the first of the least cost. -/
def nxI (c:Int→Int→Int) (s:(Int×Int)×Int) (v:Int×Int):(Int×Int)×Int:=if s.2<0∨c v.1 v.2<s.2 then(v,c v.1 v.2)else s
def stI (c:Int→Int→Int) (l:List (Int×Int)):(Int×Int)×Int:=l.foldl (nxI c) ((0,0),-1)
theorem stI_snoc (c:Int→Int→Int) (l:List (Int×Int)) (v:Int×Int):stI c (l ++ [v])=nxI c (stI c l) v:=by simp[stI]
theorem fold_zero (c:Int→Int→Int) (h:∀ x y,0≤c x y) (l:List (Int×Int)) (s:(Int×Int)×Int) (hs:s.2=0):l.foldl (nxI c) s=s:=by
 induction l with
 | nil=>rfl
 | cons v l ih =>
  have:nxI c s v=s:=by
   unfold nxI;rw[if_neg (by have:=h v.1 v.2;omega)]
  rw[List.foldl_cons,this,ih]
theorem stI_stop (c:Int→Int→Int) (h:∀ x y,0≤c x y) {l m:List (Int×Int)} (hp:l <+: m) (hs:(stI c l).2=0):stI c m=stI c l:=by
 obtain⟨t,rfl⟩:=hp;unfold stI;rw[List.foldl_append];exact fold_zero c h t _ hs
theorem fold_best (c:Int→Int→Int) (h:∀ x y,0≤c x y) (l:List (Int×Int)) (b:Int×Int) (hb:l.all (ltV b)=true) (hs:srt l=true) :
 let r:=(l.foldl (nxI c) (b,c b.1 b.2)).1
 (r=b∨r∈l)∧leV c r.1 r.2 b.1 b.2∧∀ v∈l,leV c r.1 r.2 v.1 v.2:=by
 induction l generalizing b with
 | nil=>exact⟨.inl rfl,leV.refl _ _ _,by simp⟩
 | cons v l ih =>
  simp only[srt,Bool.and_eq_true,List.all_cons]at hs hb;have hbv:=of_decide_eq_true hb.1;rw[List.foldl_cons]
  by_cases hc:c v.1 v.2<c b.1 b.2
  ·have e:nxI c (b,c b.1 b.2) v=(v,c v.1 v.2):=by unfold nxI;exact if_pos (.inr hc)
   rw[e];obtain⟨h1,h2,h3⟩:=ih v hs.1 hs.2;refine⟨.inr (h1.elim (fun e=>List.mem_cons.2 (.inl e)) (List.mem_cons_of_mem _)),h2.trans (.inl hc),fun u hu => ?_⟩;rcases List.mem_cons.1 hu with rfl|hu
   ·exact h2
   ·exact h3 u hu
  ·have hn:=h b.1 b.2;have e:nxI c (b,c b.1 b.2) v=(b,c b.1 b.2):=by unfold nxI;exact if_neg (by simp only;omega)
   rw[e];obtain⟨h1,h2,h3⟩:=ih b hb.2 hs.2;refine⟨h1.imp id (List.mem_cons_of_mem _),h2,fun u hu => ?_⟩;rcases List.mem_cons.1 hu with rfl|hu
   ·refine h2.trans ?_;unfold leV;omega
   ·exact h3 u hu
theorem stI_best (c:Int→Int→Int) (h:∀ x y,0≤c x y):IsBest c (stI c vecL).1:=by
 obtain⟨v,l,hl⟩:∃ v l,vecL=v::l:=⟨_,_,rfl⟩;have hs:=vecL_srt;have hx:=vecL_box;have hm := @vecL_mem;rw[hl]at hs hx hm⊢;simp only[srt,Bool.and_eq_true]at hs;have e:stI c (v::l)=l.foldl (nxI c) (v,c v.1 v.2):=by
  unfold stI;rw[List.foldl_cons]
  congr 1
 rw[e];obtain⟨h1,h2,h3⟩:=fold_best c h l v hs.1 hs.2;refine⟨?_,fun x y hxy => ?_⟩
 ·have:∀ r,(r=v∨r∈l)→boxV r.1 r.2:=by
   intro r hr;have:=List.all_eq_true.1 hx r (by rcases hr with rfl|hr <;> simp[*]);exact of_decide_eq_true (p := -4≤r.1∧r.1≤4 ∧ -4≤r.2∧r.2≤4) this
  exact this _ h1
 ·rcases List.mem_cons.1 (hm hxy)with e|hu
  ·have e1:=congrArg Prod.fst e;have e2:=congrArg Prod.snd e;simp only at e1 e2;rw[e1,e2];exact h2
  ·exact h3 _ hu
/-- The reference's step. -/
def nxS (c:Int→Int→Int) (s:(Int×Int)×Int) (v:Int×Int):(Int×Int)×Int:=if c v.1 v.2<s.2∨(c v.1 v.2=s.2∧ab v.1 v.2<ab s.1.1 s.1.2)then(v,c v.1 v.2)else s
def vat (k:Nat):Int×Int:=(((k%9:Nat):Int)-4,((k/9:Nat):Int)-4)
def stS (c:Int→Int→Int):Nat→(Int×Int)×Int
 | 0=>((0,0),c 0 0)
 | k+1=>nxS c (stS c k) (vat k)
theorem stS_inv (c:Int→Int→Int) (k:Nat) (hk:k≤81) :
 (stS c k).2=c (stS c k).1.1 (stS c k).1.2∧boxV (stS c k).1.1 (stS c k).1.2∧((stS c k).1=(0,0)∨∃ m,m<k∧(stS c k).1=vat m)∧leV c (stS c k).1.1 (stS c k).1.2 0 0∧∀ m,m<k→leV c (stS c k).1.1 (stS c k).1.2 (vat m).1 (vat m).2:=by
 induction k with
 | zero=>exact⟨rfl,by unfold boxV;simp[stS],.inl rfl,leV.refl _ _ _,fun m hm=>by omega⟩
 | succ k ih =>
  obtain⟨h1,hb,h2,h3,h4⟩:=ih (by omega);have hbx:boxV (vat k).1 (vat k).2:=by
   have:k/9<9:=by omega
   unfold boxV vat;simp;omega
  unfold stS;unfold nxS;generalize stS c k=s at *;obtain⟨⟨bx,by'⟩,ls⟩:=s;simp only at h1 hb h2 h3 h4⊢;subst h1;obtain⟨v,hv⟩:∃ v,v=vat k:=⟨_,rfl⟩;rw[←hv]at hbx⊢
  by_cases hc:c v.1 v.2<c bx by'∨(c v.1 v.2=c bx by'∧ab v.1 v.2<ab bx by')
  ·rw[if_pos hc];have hl:leV c v.1 v.2 bx by':=by unfold leV;omega
   refine⟨rfl,hbx,.inr ⟨k,by omega,hv⟩,hl.trans h3,fun m hm => ?_⟩
   by_cases e:m=k
   ·subst e;rw[←hv];exact leV.refl _ _ _
   ·exact hl.trans (h4 m (by omega))
  ·rw[if_neg hc];refine⟨rfl,hb,h2.imp id (fun⟨m,h,e⟩=>⟨m,by omega,e⟩),h3,fun m hm => ?_⟩
   by_cases e:m=k
   ·subst e;rw[←hv];show leV c bx by' v.1 v.2
    rcases h2 with h2|⟨n,hn,h2⟩
    ·obtain⟨rfl,rfl⟩:=Prod.mk.inj h2;have h0:ab 0 0=0:=by decide
     have h5:0<ab v.1 v.2∨(v.1=0∧v.2=0):=by unfold ab;omega
     rcases h5 with h5|⟨e1,e2⟩
     ·unfold leV;omega
     ·rw[e1,e2];exact leV.refl _ _ _
    ·have e1:=congrArg Prod.fst h2;have e2:=congrArg Prod.snd h2;have e3:=congrArg Prod.fst hv;have e4:=congrArg Prod.snd hv;simp only[vat]at e1 e2 e3 e4;have:by'<v.2∨(by'=v.2∧bx≤v.1):=by omega
     unfold leV;omega
   ·exact h4 m (by omega)
theorem stS_best (c:Int→Int→Int):IsBest c (stS c 81).1:=by
 obtain⟨h1,hb,h2,h3,h4⟩:=stS_inv c 81 (Nat.le_refl _);refine⟨hb,fun u v hv => ?_⟩;unfold boxV at hv;have:=h4 (9*(v+4).toNat+(u+4).toNat) (by omega);have e:vat (9*(v+4).toNat+(u+4).toNat)=(u,v):=by
  unfold vat;refine Prod.ext ?_ ?_ <;> simp <;> omega
 rw[e]at this;exact this
theorem best_same (c:Int→Int→Int) (h:∀ x y,0≤c x y):(stS c 81).1=(stI c vecL).1:=(stS_best c).uniq (stI_best c h)
end Go.Proofs.YtbnhaegidfbgbaaGreatDoor
namespace Go.Proofs.YtbnhaegidfbgbaaGreatDoor
open Go.RowKit
theorem nth_blk0 (p:Pic) (x y:Int) {k:Nat} (h:k<64):nth (blkL p x y 0 0) k=pat p (x+(k%8:Nat)) (y+(k/8:Nat)):=by
 rw[nth_blkL p x y 0 0 h,Int.add_zero,Int.add_zero,hlf_two]
theorem l13Error_in (t D:Pic) (x y:Nat) (a b:Option Addr) (c d n l:Nat) (w:World) (htv:t.valid) (hDv:D.valid) (hn:n=t.px.length) (hl:l=D.px.length) (s:Sl w a n (t.px.map (Value.int .i64))) (u:Sl w b l (D.px.map (Value.int .i64))) (hx:x≤100) (hy:y≤100) :
 Calls Tryz.prog 97 #[.agg #[.int .i64 t.w,.int .i64 t.h,.slice a n c],.agg #[.int .i64 D.w,.int .i64 D.h,.slice b l d],.int .i64 (x:Nat),.int .i64 (y:Nat)] w fun e w'=>e= .returned (.int .i64 (sqS t D x y 64))∧Ext w w':=by
 have HN:=Lib.hid hn;have HL:=Lib.hid hl;clear hn hl;have Y0:=(Ext.alloc (w.alloc (.cells #[.int .i64 t.w,.int .i64 t.h,.slice a n c] 25)) (.cells #[.int .i64 D.w,.int .i64 D.h,.slice b l d] 25)).blk (blk_new w (.cells #[.int .i64 t.w,.int .i64 t.h,.slice a n c] 25));have Y1:=blk_new (w.alloc (.cells #[.int .i64 t.w,.int .i64 t.h,.slice a n c] 25)) (.cells #[.int .i64 D.w,.int .i64 D.h,.slice b l d] 25);have F1:=(Ext.alloc w (.cells #[.int .i64 t.w,.int .i64 t.h,.slice a n c] 25)).trans (Ext.alloc _ (.cells #[.int .i64 D.w,.int .i64 D.h,.slice b l d] 25));simp only[World.size_alloc]at Y1;obtain⟨B,hB⟩:∃ B,B=w.heap.size:=⟨_,rfl⟩;rw[←hB]at Y0 Y1;have HB:=Lib.hid hB;go_enter Tryz.func97,Tryz.ntmps97
 go_upto_region 1 with fail
 try simp only[World.size_alloc]
 rw[←hB];clear hB;generalize (w.alloc (.cells #[.int .i64 t.w,.int .i64 t.h,.slice a n c] 25)).alloc (.cells #[.int .i64 D.w,.int .i64 D.h,.slice b l d] 25)=w1 at *;obtain⟨-,k1,k2,k3,-⟩:=bx3 Y0;go_wp2_with fail
 refine(l7Block_any t x y 0 0 a c n _ htv HN.out (s.ext F1) (by omega) (by omega) (by omega) (by omega) (by omega) (by omega) (by omega) (by omega)).mono ?_
 rintro e w4 ⟨a4,c4,rfl,o4,e4⟩
 obtain⟨g4,rfl⟩:=own_ptr o4 (by omega);have S4:=Sl.of_owns o4;have G1:=e4.blk Y1;have F2:=F1.trans e4;clear Y0 Y1 F1 e4 o4 k1 k2 k3;obtain⟨-,k1,k2,k3,-⟩:=bx3 G1;go_wp2_with fail
 refine(l7Block_any D x y 0 0 b d l _ hDv HL.out (u.ext F2) (by omega) (by omega) (by omega) (by omega) (by omega) (by omega) (by omega) (by omega)).mono ?_
 rintro e w6 ⟨a6,c6,rfl,o6,e6⟩
 obtain⟨g6,rfl⟩:=own_ptr o6 (by omega);have S6:=Sl.of_owns o6;have S5:=S4.ext e6;have F3:=F2.trans e6;clear G1 F2 e6 o6 S4 k1 k2 k3;go_wp2_with fail
 go_loopw [11,12] (fun v i wr=>∃ k:Nat,k≤64∧i= .int .i64 k∧v= .int .i64 (sqS t D x y k)∧Ext w6 wr) (fun _ i _=>64-(intOf i).toNat)
 case atStart=>exact⟨0,by omega,rfl,by simp[sqS],Below.refl _ _⟩
 case round =>
  obtain⟨k,hk,rfl,rfl,Ek⟩:=hrel;have hsr:=sqS_rng htv hDv x y k
  by_cases hlt:k<64
  ·have hd:decide ((k:Int)<64)=true:=by simp;omega
   have hpd:=pd_rng htv hDv ((x:Int)+(k%8:Nat)) ((y:Int)+(k/8:Nat));have hsq:=sq_rng hpd.1 hpd.2;have Hnx:=Lib.hid (show sqS t D x y (k+1)=_ by rw[sqS]);obtain⟨u,hu⟩:∃ u,u=pat t ((x:Int)+(k%8:Nat)) ((y:Int)+(k/8:Nat)):=⟨_,rfl⟩;obtain⟨v,hv⟩:∃ v,v=pat D ((x:Int)+(k%8:Nat)) ((y:Int)+(k/8:Nat)):=⟨_,rfl⟩;have hp1:=pat_rng htv ((x:Int)+(k%8:Nat)) ((y:Int)+(k/8:Nat));have hp2:=pat_rng hDv ((x:Int)+(k%8:Nat)) ((y:Int)+(k/8:Nat));rw[←hu]at hp1;rw[←hv]at hp2;rw[←hu,←hv]at hpd hsq Hnx;obtain⟨S,hS⟩:∃ S,S=sqS t D x y k:=⟨_,rfl⟩;rw[←hS]at hsr Hnx;rw[←hS];have HcU:=Lib.hid (fun(wx:World) (h:Ext wr wx)=>cellP (S5.ext (Ek.trans h)) hlt ((nth_blk0 t x y hlt).trans hu.symm));have HcV:=Lib.hid (fun(wx:World) (h:Ext wr wx)=>cellP (S6.ext (Ek.trans h)) hlt ((nth_blk0 D x y hlt).trans hv.symm));obtain⟨P,hP⟩:∃ P,P=(u-v)*(u-v):=⟨_,rfl⟩;rw[←hP]at hsq Hnx;have HP:=Lib.hid (show(u-v)*(u-v)=P from hP.symm);have HPw:=Lib.hid (show wrap64 ((u-v)*(u-v))=P by rw[←hP];unfold wrap64;omega);clear hu hv hS hP;go_upto_region 7 with fail
   refine wp_region_inv2 (by kernel_rfl) [(11,21),(29,0),(30,1),(31,2),(32,3),(33,4),(34,5),(35,6),(36,7),(37,8),(38,9),(39,10),(40,11),(41,12),(42,13),(43,14),(44,15),(45,16),(46,17),(47,18),(48,19),(49,20)] [[],[],[],[1,2],[1,2,3],[],[],[5,6],[5,6,7],[1,2,3,4,5,6,7,8],[],[],[10,11],[10,11,12],[],[],[14,15],[14,15,16],[10,11,12,13,14,15,16,17],[1,2,3,4,5,6,7,8,9,10,11,12,13,14,15,16,17,18],[0,1,2,3,4,5,6,7,8,9,10,11,12,13,14,15,16,17,18,19],[0,1,2,3,4,5,6,7,8,9,10,11,12,13,14,15,16,17,18,19,20]] (fun i own ys wx=>match i with|0=>own= .int .i64 S|1=>own= .slice (some ⟨g4,0,none⟩) 64 c4|2=>own= .int .i64 (k:Nat)|3=>own= .pointer (some ⟨g4,k,none⟩)|4=>own= .int .i64 u|5=>own= .slice (some ⟨g6,0,none⟩) 64 c6|6=>own= .int .i64 (k:Nat)|7=>own= .pointer (some ⟨g6,k,none⟩)|8=>own= .int .i64 v|9=>own= .int .i64 (u-v)|10=>own= .slice (some ⟨g4,0,none⟩) 64 c4|11=>own= .int .i64 (k:Nat)|12=>own= .pointer (some ⟨g4,k,none⟩)|13=>own= .int .i64 u|14=>own= .slice (some ⟨g6,0,none⟩) 64 c6|15=>own= .int .i64 (k:Nat)|16=>own= .pointer (some ⟨g6,k,none⟩)|17=>own= .int .i64 v|18=>own= .int .i64 (u-v)|19=>own= .int .i64 P|20=>own= .int .i64 (S+P)|21=>own= .int .i64 (S+P)|_=>True) (fun kx wx=>Ext wr wx) (by kernel_rfl) (by kernel_rfl) (by kernel_rfl) ?g0_r1 ?gop_r1 ?gend_r1
   case g0_r1=>exact Ext.drewN _ 1
   case gop_r1 =>
    refine⟨?o0,?_,?_,?o3,?o4,?_,?_,?o7,?o8,?o9,?_,?_,?o12,?o13,?_,?_,?o16,?o17,?o18,?o19,?o20,?o21,trivial⟩ <;> (intro kx xs wx hk hG hD hI Qo Kx hK hQo;simp only[patchS,Nat.reduceAdd,Nat.reduceEqDiff,↓reduceIte]at hQo⊢)
    case o0 =>
     have i21:=hI 21 11 rfl rfl;simp only[List.getD_cons_succ,List.getD_cons_zero]at i21;clear hD hI;rw[i21]at hQo⊢;clear i21;go_wp2;exact hK.out _ _ ⟨rfl,hG,kkp⟩
    case o3 =>
     rw[ddq (hD 1 rfl),ddq (hD 2 rfl)]at hQo⊢;clear hD hI;go_wp2;exact hK.out _ _ ⟨rfl,hG,kkp⟩
    case o4 =>
     rw[ddq (hD 3 rfl)]at hQo⊢;clear hD hI;have cx:=HcU.out wx hG;go_wp2;exact hK.out _ _ ⟨rfl,hG,kkp⟩
    case o7 =>
     rw[ddq (hD 5 rfl),ddq (hD 6 rfl)]at hQo⊢;clear hD hI;go_wp2;exact hK.out _ _ ⟨rfl,hG,kkp⟩
    case o8 =>
     rw[ddq (hD 7 rfl)]at hQo⊢;clear hD hI;have cx:=HcV.out wx hG;go_wp2;exact hK.out _ _ ⟨rfl,hG,kkp⟩
    case o9 =>
     rw[ddq (hD 4 rfl),ddq (hD 8 rfl)]at hQo⊢;clear hD hI;go_wp2;exact hK.out _ _ ⟨rfl,hG,kkp⟩
    case o12 =>
     rw[ddq (hD 10 rfl),ddq (hD 11 rfl)]at hQo⊢;clear hD hI;go_wp2;exact hK.out _ _ ⟨rfl,hG,kkp⟩
    case o13 =>
     rw[ddq (hD 12 rfl)]at hQo⊢;clear hD hI;have cx:=HcU.out wx hG;go_wp2;exact hK.out _ _ ⟨rfl,hG,kkp⟩
    case o16 =>
     rw[ddq (hD 14 rfl),ddq (hD 15 rfl)]at hQo⊢;clear hD hI;go_wp2;exact hK.out _ _ ⟨rfl,hG,kkp⟩
    case o17 =>
     rw[ddq (hD 16 rfl)]at hQo⊢;clear hD hI;have cx:=HcV.out wx hG;go_wp2;exact hK.out _ _ ⟨rfl,hG,kkp⟩
    case o18 =>
     rw[ddq (hD 13 rfl),ddq (hD 17 rfl)]at hQo⊢;clear hD hI;go_wp2;exact hK.out _ _ ⟨rfl,hG,kkp⟩
    case o19 =>
     rw[ddq (hD 9 rfl),ddq (hD 18 rfl)]at hQo⊢;clear hD hI;go_wp2;exact hK.out _ _ ⟨by first|rw[HPw.out]|rw[HP.out],hG,fun _ _ _ _ _ _ h=>h⟩
    case o20 =>
     rw[ddq (hD 0 rfl),ddq (hD 19 rfl)]at hQo⊢;clear hD hI;go_wp2;exact hK.out _ _ ⟨rfl,hG,kkp⟩
    case o21 =>
     rw[ddq (hD 20 rfl)]at hQo⊢;clear hD hI;go_wp2;exact hK.out _ _ ⟨rfl,hG,kkp⟩
    all_goals
     clear hD hI;go_wp2;exact hK.out _ _ ⟨rfl,hG,kkp⟩
   intro xs wx hV hG;have d21:_=_:=hV 21 (by decide);clear hV;simp only[patchS,Nat.reduceAdd,Nat.reduceEqDiff,↓reduceIte];generalize xs 0=y0,xs 1=y1,xs 2=y2,xs 3=y3,xs 4=y4,xs 5=y5,xs 6=y6,xs 7=y7,xs 8=y8,xs 9=y9,xs 10=y10,xs 11=y11,xs 12=y12,xs 13=y13,xs 14=y14,xs 15=y15,xs 16=y16,xs 17=y17,xs 18=y18,xs 19=y19,xs 20=y20,xs 21=y21 at *
   replace hG:Ext wr wx:=hG
   subst d21;go_wp2;go_roundw
   case rel=>exact⟨k+1,by omega,by go_num,by rw[Hnx.out],Ek.trans hG⟩
   case measure=>simp[intOf];omega
  ·obtain rfl:k=64:=by omega
   obtain⟨S,hS⟩:∃ S,S=sqS t D x y 64:=⟨_,rfl⟩;rw[←hS]at hsr⊢;have HS:=Lib.hid hS;clear hS;go_wp2;go_ret
   exact⟨ret_int (by rw[←HS.out]),F3.trans Ek⟩
theorem spec_cost_in (t ref:Pic) (W H x y:Nat) (px:List Int) (m:Mac) (q:Nat) (top:Int) (at1 a b:Option Addr) (tc c d tn n l:Nat) (w:World) (htn:tn=t.px.length) (hn:n=ref.px.length) (hl:l=px.length) (nc:n≤9223372036854775807) (rt:Sl w at1 tn (t.px.map (Value.int .i64))) (r:Sl w a n (ref.px.map (Value.int .i64))) (s:Sl w b l (px.map (Value.int .i64))) (hm:m.ok) (htv:t.valid) (ho:okR ref ⟨W,H,px⟩ x y m q top) :
 Calls Tryz.prog 43 #[.agg #[.int .i64 t.w,.int .i64 t.h,.slice at1 tn tc],.agg #[.int .i64 ref.w,.int .i64 ref.h,.slice a n c],.agg #[.int .i64 W,.int .i64 H,.slice b l d],.int .i64 (x:Nat),.int .i64 (y:Nat),.agg (ic m.zs),.int .i64 q,.int .i64 top] w fun e w'=>e= .returned (.int .i64 (sqS t ⟨W,H,bldS ref ⟨W,H,px⟩ x y m q top 4⟩ x y 64+stp q*(macN m:Int)))∧Ext w w':=by
 have hlen:=Pic.len_le ho.1.1;simp only at hlen;rw[←hl]at hlen;obtain⟨bl,hbl⟩:∃ bl,bl=bldS ref ⟨W,H,px⟩ x y m q top 4:=⟨_,rfl⟩;have hDv:Pic.valid ⟨W,H,bl⟩:=by rw[hbl];exact bldS_valid ho.1.1 ref x y m q top 4
 have hxy:(x:Int)<40∧(y:Int)<40:=by
  have h1:=ho.1.1.1;have h2:=ho.1.1.2.1;have h3:=ho.1.2.2.1;have h4:=ho.1.2.2.2.2.2.1;simp only[side]at h1 h2 h3 h4;omega
 have HDn:=Lib.hid (show l=bl.length by rw[hbl,bldS_len];exact hl);have Hbl:=Lib.hid hbl;clear hbl;have hrt:=rate_rng hm ho.2.1 (show q<16 by have:=ho.2.2.1;omega);have Htn:=Lib.hid htn;have Hn:=Lib.hid hn;have HL:=Lib.hid hl;have Hm:=Lib.hid hm;have Hl:=Lib.hid (Mac.zs_len hm);have Hok:=Lib.hid ho;have HTV:=Lib.hid htv;have HDv:=Lib.hid hDv;have hq:q<16:=by have:=ho.2.2.1;omega
 have ht0:0≤top:=ho.2.2.2.1.1;clear hn hl hm ho htn htv hDv;have a2:=Ext.alloc (w.alloc (.cells #[.int .i64 t.w,.int .i64 t.h,.slice at1 tn tc] 25)) (.cells #[.int .i64 ref.w,.int .i64 ref.h,.slice a n c] 25);have a3:=Ext.alloc ((w.alloc (.cells #[.int .i64 t.w,.int .i64 t.h,.slice at1 tn tc] 25)).alloc (.cells #[.int .i64 ref.w,.int .i64 ref.h,.slice a n c] 25)) (.cells #[.int .i64 W,.int .i64 H,.slice b l d] 25);have a4:=Ext.alloc (((w.alloc (.cells #[.int .i64 t.w,.int .i64 t.h,.slice at1 tn tc] 25)).alloc (.cells #[.int .i64 ref.w,.int .i64 ref.h,.slice a n c] 25)).alloc (.cells #[.int .i64 W,.int .i64 H,.slice b l d] 25)) (.cells (ic m.zs) 32);have p0:=a4.blk (a3.blk (a2.blk (blk_new w (.cells #[.int .i64 t.w,.int .i64 t.h,.slice at1 tn tc] 25))));have p1:=a4.blk (a3.blk (blk_new (w.alloc (.cells #[.int .i64 t.w,.int .i64 t.h,.slice at1 tn tc] 25)) (.cells #[.int .i64 ref.w,.int .i64 ref.h,.slice a n c] 25)));have p2:=a4.blk (blk_new ((w.alloc (.cells #[.int .i64 t.w,.int .i64 t.h,.slice at1 tn tc] 25)).alloc (.cells #[.int .i64 ref.w,.int .i64 ref.h,.slice a n c] 25)) (.cells #[.int .i64 W,.int .i64 H,.slice b l d] 25));have p3:=IB.new (((w.alloc (.cells #[.int .i64 t.w,.int .i64 t.h,.slice at1 tn tc] 25)).alloc (.cells #[.int .i64 ref.w,.int .i64 ref.h,.slice a n c] 25)).alloc (.cells #[.int .i64 W,.int .i64 H,.slice b l d] 25)) 32 m.zs;have E1:=(((Ext.alloc w (.cells #[.int .i64 t.w,.int .i64 t.h,.slice at1 tn tc] 25)).trans a2).trans a3).trans a4;simp only[World.size_alloc]at p1 p2 p3;clear a2 a3 a4;obtain⟨B,hB⟩:∃ B,B=w.heap.size:=⟨_,rfl⟩;rw[←hB]at p0 p1 p2 p3;have hwB:w.heap.size≤B:=by omega
 have HB:=Lib.hid hB;have hb1:=p3.lt;go_enter Tryz.func43,Tryz.ntmps43
 go_upto_region 1 with fail
 try simp only[World.size_alloc]
 rw[←hB];clear hB;generalize (((w.alloc (.cells #[.int .i64 t.w,.int .i64 t.h,.slice at1 tn tc] 25)).alloc (.cells #[.int .i64 ref.w,.int .i64 ref.h,.slice a n c] 25)).alloc (.cells #[.int .i64 W,.int .i64 H,.slice b l d] 25)).alloc (.cells (ic m.zs) 32)=w1 at *;obtain⟨-,i0,i1,i2,-⟩:=bx3 p2;go_wp2_with fail
 refine(l8Copy_any W H b d l px _ (by omega) (by omega) (s.ext E1)).mono ?_
 rintro e wa ⟨a1,c1,rfl,own1,e2⟩
 have r0:=e2.blk p0;have r1:=e2.blk p1;have r2:=e2.blk p2;have r3:=p3.ext e2;have E2:=E1.trans e2;clear p0 p1 p2 p3 E1 e2 i0 i1 i2;have hgo:∃ g,a1=some ⟨g,0,none⟩∧g<wa.heap.size∧w1.heap.size≤g:=by
  rcases own1.2 with⟨-,h0⟩|⟨g,cc,cur,hv,hb,hb2,-⟩
  ·omega
  ·simp only[Value.slice.injEq]at hv;exact⟨g,hv.1,lt_of_block hb2,hb⟩
 obtain⟨g,rfl,hg1,hg2⟩:=hgo;have a5:=Ext.alloc wa (.cells #[.int .i64 W,.int .i64 H,.slice (some ⟨g,0,none⟩) l c1] 25);have z0:=a5.blk r0;have z1:=a5.blk r1;have z3:=r3.ext a5;have z4:=blk_new wa (.cells #[.int .i64 W,.int .i64 H,.slice (some ⟨g,0,none⟩) l c1] 25);have own2:=owns_ext own1 a5;have E3:=E2.trans a5;have hO:=r3.lt;obtain⟨O,hOe⟩:∃ O,O=wa.heap.size:=⟨_,rfl⟩;rw[←hOe]at z4 hg1 hO;have HO2:=Lib.hid hOe;clear r0 r1 r2 r3 own1 E2 a5;obtain⟨-,i0,i1,i2,-⟩:=bx3 z1;obtain⟨-,o0,o1,o2,-⟩:=bx3 z4;have hOlt:=lt_of_block z4;go_upto_region 2 with fail
 rw[←hOe];clear hOe;generalize wa.alloc (.cells #[.int .i64 W,.int .i64 H,.slice (some ⟨g,0,none⟩) l c1] 25)=w2 at *;go_wp2_with (refine wpList_iload 32 _ rfl rfl z3 0 71 rfl _ Tryz.underlying32 rfl size_Macro (by rw[Hl.out];omega) _ (by rw[sub_all _ _ Hl.out]) ?_)
 have hrz : ¬ m.kind=2→∀ z,a=some z→z.block≠g:=fun hk z hz=>by
  have h9:=Pic.len_le (okR_ref Hok.out hk);rw[←Hn.out]at h9;have:=sl_bound r z hz (by omega);omega
 refine(l8Build_any ref W H x y px m q top a n c w1.heap.size g l c1 _ own2 Hok.out.1 Hm.out Hok.out.2.1 hq ht0 (fun hk=>okR_ref Hok.out hk) Hn.out (r.ext E3) hrz).mono ?_
 rintro e w3 ⟨rfl,own3,g3⟩
 rw[←Hbl.out]at own3;have u0:=blk_gr z0 g3 (by simp;omega);have u3:=z3.gr g3 (by simp;omega);have u4:=blk_gr z4 g3 (by simp;omega);have hs1:B≤w1.heap.size:=by omega
 have E4:Ext w w3:=Ext.grown E3 g3 (fun k e=>by cases e;omega);have SD:=Sl.of_owns own3;clear z0 z1 z3 z4 own2 own3 E3 g3 i0 i1 i2 o0 o1 o2;have RT:=rt.ext E4;obtain⟨s0,hs0⟩:∃ s0,s0=stp q:=⟨_,rfl⟩;obtain⟨N0,hN0⟩:∃ N0,N0=macN m:=⟨_,rfl⟩;obtain⟨C,hC⟩:∃ C,C=stp q*(macN m:Int):=⟨_,rfl⟩;rw[←hC]at hrt;have HC:=Lib.hid (show s0*(N0:Int)=C by rw[hs0,hN0,hC]);have HW:=Lib.hid (show wrap64 (s0*(N0:Int))=C by rw[hs0,hN0,←hC];unfold wrap64;omega);have HS0:=Lib.hid hs0;have HN0:=Lib.hid hN0;have HC0:=Lib.hid hC;have hs0r:=stp_rng hq;rw[←hs0]at hs0r;have hN0r:=macN_le Hm.out Hok.out.2.1;rw[←hN0]at hN0r;obtain⟨S,hS⟩:∃ S,S=sqS t ⟨W,H,bl⟩ x y 64:=⟨_,rfl⟩;have hsr:=sqS_rng HTV.out HDv.out x y 64;rw[←hS]at hsr;have HS:=Lib.hid hS;clear hS hs0 hN0 hC;go_upto_region 3 with fail
 refine wp_region_inv2 (by kernel_rfl) [(16,12),(28,0),(29,1),(30,2),(31,3),(32,4),(33,5),(34,6),(35,7),(36,8),(37,9),(38,10),(39,11)] [[],[],[],[],[0,1,2,3],[],[0,1,2,3,4,5],[],[0,1,2,3,4,5,6,7],[0,1,2,3,4,5,6,7,8],[0,1,2,3,4,5,6,7,8,9],[0,1,2,3,4,5,6,7,8,9,10],[0,1,2,3,4,5,6,7,8,9,10,11]] (fun i own ys wx=>match i with|0=>own= .agg #[.int .i64 t.w,.int .i64 t.h,.slice at1 tn tc]|1=>own= .agg #[.int .i64 W,.int .i64 H,.slice (some ⟨g,0,none⟩) l c1]|2=>own= .int .i64 (x:Nat)|3=>own= .int .i64 (y:Nat)|4=>own= .int .i64 S|5=>own= .int .i64 (q:Nat)|6=>own= .int .i64 s0|7=>own= .agg (ic m.zs)|8=>∃(a3:Option Addr) (c3:Nat),own= .slice a3 N0 c3|9=>own= .int .i64 (N0:Nat)|10=>own= .int .i64 C|11=>own= .int .i64 (S+C)|12=>own= .int .i64 (S+C)|_=>True) (fun kx wx=>Ext w3 wx) (by kernel_rfl) (by kernel_rfl) (by kernel_rfl) ?g0_r2 ?gop_r2 ?gend_r2
 case g0_r2=>exact Ext.drewN _ 1
 case gop_r2 =>
  refine⟨?o0,?o1,?_,?_,?o4,?_,?o6,?o7,?o8,?o9,?o10,?o11,?o12,trivial⟩ <;> (intro kx xs wx hk hG hD hI Qo Kx hK hQo;simp only[patchS,Nat.reduceAdd,Nat.reduceEqDiff,↓reduceIte]at hQo⊢)
  case o0 =>
   clear hD hI;obtain⟨-,k0,k1,k2,-⟩:=bx3 (hG.blk u0);go_wp2;exact hK.out _ _ ⟨rfl,hG,kkp⟩
  case o1 =>
   clear hD hI;obtain⟨-,k0,k1,k2,-⟩:=bx3 (hG.blk u4);go_wp2;exact hK.out _ _ ⟨rfl,hG,kkp⟩
  case o4 =>
   rw[ddq (hD 0 rfl),ddq (hD 1 rfl),ddq (hD 2 rfl),ddq (hD 3 rfl)]at hQo⊢;clear hD hI;go_wp2_with fail
   refine(l13Error_in t ⟨W,H,bl⟩ x y at1 (some ⟨g,0,none⟩) tc c1 tn l _ HTV.out HDv.out Htn.out HDn.out (RT.ext hG) (SD.ext hG) (by omega) (by omega)).mono ?_
   rintro e wz ⟨rfl,ez⟩
   rw[←HS.out];go_wp2;exact hK.out _ _ ⟨rfl,hG.trans ez,fun _ _ _ _ _ _ h=>h⟩
  case o6 =>
   rw[ddq (hD 5 rfl)]at hQo⊢;clear hD hI;go_wp2_with fail
   refine(spec_QuantStep_in q _ hq).mono ?_
   rintro e wz ⟨rfl,ez⟩
   rw[←HS0.out];go_wp2;exact hK.out _ _ ⟨rfl,hG.trans ez,fun _ _ _ _ _ _ h=>h⟩
  case o7 =>
   clear hD hI;go_wp2_with (refine wpList_iload 32 _ rfl rfl (u3.ext hG) 0 71 rfl _ Tryz.underlying32 rfl size_Macro (by rw[Hl.out];omega) _ (by rw[sub_all _ _ Hl.out]) ?_)
   exact hK.out _ _ ⟨rfl,hG,kkp⟩
  case o8 =>
   rw[ddq (hD 7 rfl)]at hQo⊢;clear hD hI;go_wp2_with fail
   refine(l10Macro_any m _ Hm.out Hok.out.2.1).mono ?_
   rintro e wz ⟨az,cz,rfl,-,ez⟩
   rw[←HN0.out];go_wp2;exact hK.out _ _ ⟨⟨az,cz,rfl⟩,hG.trans ez,fun _ _ _ _ _ _ h=>h⟩
  case o9 =>
   have d8:∃(a3:Option Addr) (c3:Nat),(xs 8) = .slice a3 N0 c3:=hD 8 rfl;clear hD hI;generalize xs 8=y8 at *;obtain⟨a3,c3,rfl⟩:=d8;go_wp2;exact hK.out _ _ ⟨rfl,hG,kkp⟩
  case o10 =>
   rw[ddq (hD 6 rfl),ddq (hD 9 rfl)]at hQo⊢;clear hD hI;go_wp2;exact hK.out _ _ ⟨by first|rw[HW.out]|rw[HC.out],hG,fun _ _ _ _ _ _ h=>h⟩
  case o11 =>
   rw[ddq (hD 4 rfl),ddq (hD 10 rfl)]at hQo⊢;clear hD hI;go_wp2;exact hK.out _ _ ⟨rfl,hG,kkp⟩
  case o12 =>
   rw[ddq (hD 11 rfl)]at hQo⊢;clear hD hI;go_wp2;exact hK.out _ _ ⟨rfl,hG,kkp⟩
  all_goals
   clear hD hI;go_wp2;exact hK.out _ _ ⟨rfl,hG,kkp⟩
 intro xs wx hV hG;have d12:_=_:=hV 12 (by decide);clear hV;simp only[patchS,Nat.reduceAdd,Nat.reduceEqDiff,↓reduceIte];generalize xs 0=y0,xs 1=y1,xs 2=y2,xs 3=y3,xs 4=y4,xs 5=y5,xs 6=y6,xs 7=y7,xs 8=y8,xs 9=y9,xs 10=y10,xs 11=y11,xs 12=y12 at *
 replace hG:Ext w3 wx:=hG
 subst d12;go_wp2;go_ret
 exact⟨ret_int (by rw[←Hbl.out,←HS.out,←HC0.out]),E4.trans hG⟩
end Go.Proofs.YtbnhaegidfbgbaaGreatDoor
