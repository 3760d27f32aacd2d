/- The search for the best vector: the reference's walk. | InterMacro, both sides. -/
import Derived.Test.YtbnhaegidfbgbaaGreatDoorQr13
set_option linter.unusedVariables false
set_option linter.unusedSimpArgs false
set_option maxRecDepth 100000
set_option maxHeartbeats 4000000
namespace Go.Proofs.YtbnhaegidfbgbaaGreatDoor
open Go.RowKit
/-- The sum of the absolute differences of k numbers. -/
def sadS (a b:List Int):Nat→Int
 | 0=>0
 | k+1=>sadS a b k+max (nth a k-nth b k) (nth b k-nth a k)
theorem sadS_rng {a b:List Int} (ha:smp a) (hb:smp b) (la:a.length=64) (lb:b.length=64) {k:Nat} (hk:k≤64):0≤sadS a b k∧sadS a b k≤255*k:=by
 induction k with
 | zero=>simp[sadS]
 | succ k ih =>
  have h:=ih (by omega);have h1:=smp_nth ha (i:=k) (by omega);have h2:=smp_nth hb (i:=k) (by omega);unfold sadS;omega
/-- The cost of a vector. -/
def cV (t r:Pic) (x y:Int) (vx vy:Int):Int:=sadS (blkL t x y 0 0) (blkL r x y vx vy) 64
theorem cV_rng {t r:Pic} (ht:t.valid) (hr:r.valid) (x y vx vy:Int):0≤cV t r x y vx vy∧cV t r x y vx vy≤16320 :=
 sadS_rng (blkL_smp ht x y 0 0) (blkL_smp hr x y vx vy) (blkL_len _ _ _ _ _) (blkL_len _ _ _ _ _) (Nat.le_refl 64)
theorem stS_c {c:Int→Int→Int} {k:Nat} (hk:k≤81):(stS c k).2=c (stS c k).1.1 (stS c k).1.2∧boxV (stS c k).1.1 (stS c k).1.2:=⟨(stS_inv c k hk).1,(stS_inv c k hk).2.1⟩
theorem l7Cost_in (xs ys:List Int) (g4 g6 c4 c6:Nat) (w:World) (S5:Sl w (some ⟨g4,0,none⟩) 64 (xs.map (Value.int .i64))) (S6:Sl w (some ⟨g6,0,none⟩) 64 (ys.map (Value.int .i64))) (hx:smp xs) (hy:smp ys) (lx:xs.length=64) (ly:ys.length=64) :
 Calls Tryz.prog 152 #[.slice (some ⟨g4,0,none⟩) 64 c4,.slice (some ⟨g6,0,none⟩) 64 c6] w fun e w'=>e= .returned (.int .i64 (sadS xs ys 64))∧Ext w w':=by
 have HS:=Lib.hid (fun k (hk:k≤64)=>sadS_rng hx hy lx ly hk);have HX:=Lib.hid (fun k (hk:k<64)=>smp_nth hx (i:=k) (by omega));have HY:=Lib.hid (fun k (hk:k<64)=>smp_nth hy (i:=k) (by omega));clear hx hy lx ly;go_enter Tryz.func152,Tryz.ntmps152
 go_wp2_with fail
 go_loopw [5,6] (fun v i wr=>∃ k:Nat,k≤64∧i= .int .i64 k∧v= .int .i64 (sadS xs ys k)∧Ext w wr) (fun _ i _=>64-(intOf i).toNat)
 case atStart=>exact⟨0,by omega,rfl,by simp[sadS],Below.refl _ _⟩
 case round =>
  obtain⟨k,hk,rfl,rfl,Ek⟩:=hrel;have hsr:=HS.out k hk
  by_cases hlt:k<64
  ·have hd:decide ((k:Int)<64)=true:=by simp;omega
   have hp1:=HX.out k hlt;have hp2:=HY.out k hlt;have Hnx:=Lib.hid (show sadS xs ys (k+1)=_ by rw[sadS]);obtain⟨u,hu⟩:∃ u,u=nth xs k:=⟨_,rfl⟩;obtain⟨v,hv⟩:∃ v,v=nth ys k:=⟨_,rfl⟩;rw[←hu]at hp1;rw[←hv]at hp2;rw[←hu,←hv]at Hnx;obtain⟨S,hS⟩:∃ S,S=sadS xs ys k:=⟨_,rfl⟩;rw[←hS]at hsr Hnx;rw[←hS];have HcU:=Lib.hid (fun(wx:World) (h:Ext wr wx)=>cellP (S5.ext (Ek.trans h)) hlt hu.symm);have HcV:=Lib.hid (fun(wx:World) (h:Ext wr wx)=>cellP (S6.ext (Ek.trans h)) hlt hv.symm);obtain⟨P,hP⟩:∃ P,P=max (u-v) (v-u):=⟨_,rfl⟩;rw[←hP]at Hnx;have hPr:0≤P∧P≤255:=by omega
   have HP:=Lib.hid hP;clear hu hv hS hP;go_upto_region 5 with fail
   refine wp_region_inv2 (by kernel_rfl) [(5,21),(13,0),(14,1),(15,2),(16,3),(17,4),(18,5),(19,6),(20,7),(21,8),(22,9),(23,10),(24,11),(25,12),(26,13),(27,14),(28,15),(29,16),(30,17),(31,18),(32,19),(33,20)] [[],[],[],[1,2],[1,2,3],[],[],[5,6],[5,6,7],[1,2,3,4,5,6,7,8],[],[],[10,11],[10,11,12],[],[],[14,15],[14,15,16],[10,11,12,13,14,15,16,17],[1,2,3,4,5,6,7,8,9,10,11,12,13,14,15,16,17,18],[0,1,2,3,4,5,6,7,8,9,10,11,12,13,14,15,16,17,18,19],[0,1,2,3,4,5,6,7,8,9,10,11,12,13,14,15,16,17,18,19,20]] (fun i own ys wx=>match i with|0=>own= .int .i64 S|1=>own= .slice (some ⟨g4,0,none⟩) 64 c4|2=>own= .int .i64 (k:Nat)|3=>own= .pointer (some ⟨g4,k,none⟩)|4=>own= .int .i64 u|5=>own= .slice (some ⟨g6,0,none⟩) 64 c6|6=>own= .int .i64 (k:Nat)|7=>own= .pointer (some ⟨g6,k,none⟩)|8=>own= .int .i64 v|9=>own= .int .i64 (u-v)|10=>own= .slice (some ⟨g6,0,none⟩) 64 c6|11=>own= .int .i64 (k:Nat)|12=>own= .pointer (some ⟨g6,k,none⟩)|13=>own= .int .i64 v|14=>own= .slice (some ⟨g4,0,none⟩) 64 c4|15=>own= .int .i64 (k:Nat)|16=>own= .pointer (some ⟨g4,k,none⟩)|17=>own= .int .i64 u|18=>own= .int .i64 (v-u)|19=>own= .int .i64 P|20=>own= .int .i64 (S+P)|21=>own= .int .i64 (S+P)|_=>True) (fun kx wx=>Ext wr wx) (by kernel_rfl) (by kernel_rfl) (by kernel_rfl) ?g0_r1 ?gop_r1 ?gend_r1
   case g0_r1=>exact Ext.drewN _ 1
   case gop_r1 =>
    refine⟨?o0,?_,?_,?o3,?o4,?_,?_,?o7,?o8,?o9,?_,?_,?o12,?o13,?_,?_,?o16,?o17,?o18,?o19,?o20,?o21,trivial⟩ <;> (intro kx xs wx hk hG hD hI Qo Kx hK hQo;simp only[patchS,Nat.reduceAdd,Nat.reduceEqDiff,↓reduceIte]at hQo⊢)
    case o0 =>
     have i21:=hI 21 5 rfl rfl;simp only[List.getD_cons_succ,List.getD_cons_zero]at i21;clear hD hI;rw[i21]at hQo⊢;clear i21;go_wp2;exact hK.out _ _ ⟨rfl,hG,kkp⟩
    case o3 =>
     rw[ddq (hD 1 rfl),ddq (hD 2 rfl)]at hQo⊢;clear hD hI;go_wp2;exact hK.out _ _ ⟨rfl,hG,kkp⟩
    case o4 =>
     rw[ddq (hD 3 rfl)]at hQo⊢;clear hD hI;have cx:=HcU.out wx hG;go_wp2;exact hK.out _ _ ⟨rfl,hG,kkp⟩
    case o7 =>
     rw[ddq (hD 5 rfl),ddq (hD 6 rfl)]at hQo⊢;clear hD hI;go_wp2;exact hK.out _ _ ⟨rfl,hG,kkp⟩
    case o8 =>
     rw[ddq (hD 7 rfl)]at hQo⊢;clear hD hI;have cx:=HcV.out wx hG;go_wp2;exact hK.out _ _ ⟨rfl,hG,kkp⟩
    case o9 =>
     rw[ddq (hD 4 rfl),ddq (hD 8 rfl)]at hQo⊢;clear hD hI;go_wp2;exact hK.out _ _ ⟨rfl,hG,kkp⟩
    case o12 =>
     rw[ddq (hD 10 rfl),ddq (hD 11 rfl)]at hQo⊢;clear hD hI;go_wp2;exact hK.out _ _ ⟨rfl,hG,kkp⟩
    case o13 =>
     rw[ddq (hD 12 rfl)]at hQo⊢;clear hD hI;have cx:=HcV.out wx hG;go_wp2;exact hK.out _ _ ⟨rfl,hG,kkp⟩
    case o16 =>
     rw[ddq (hD 14 rfl),ddq (hD 15 rfl)]at hQo⊢;clear hD hI;go_wp2;exact hK.out _ _ ⟨rfl,hG,kkp⟩
    case o17 =>
     rw[ddq (hD 16 rfl)]at hQo⊢;clear hD hI;have cx:=HcU.out wx hG;go_wp2;exact hK.out _ _ ⟨rfl,hG,kkp⟩
    case o18 =>
     rw[ddq (hD 13 rfl),ddq (hD 17 rfl)]at hQo⊢;clear hD hI;go_wp2;exact hK.out _ _ ⟨rfl,hG,kkp⟩
    case o19 =>
     rw[ddq (hD 9 rfl),ddq (hD 18 rfl)]at hQo⊢;clear hD hI;go_wp2;all_goals exact hK.out _ _ ⟨by have:=HP.out;congr 1 <;> omega,hG,fun _ _ _ _ _ _ h=>h⟩
    case o20 =>
     rw[ddq (hD 0 rfl),ddq (hD 19 rfl)]at hQo⊢;clear hD hI;go_wp2;exact hK.out _ _ ⟨rfl,hG,kkp⟩
    case o21 =>
     rw[ddq (hD 20 rfl)]at hQo⊢;clear hD hI;go_wp2;exact hK.out _ _ ⟨rfl,hG,kkp⟩
    all_goals
     clear hD hI;go_wp2;exact hK.out _ _ ⟨rfl,hG,kkp⟩
   intro xs wx hV hG;have d21:_=_:=hV 21 (by decide);clear hV;simp only[patchS,Nat.reduceAdd,Nat.reduceEqDiff,↓reduceIte];generalize xs 0=y0,xs 1=y1,xs 2=y2,xs 3=y3,xs 4=y4,xs 5=y5,xs 6=y6,xs 7=y7,xs 8=y8,xs 9=y9,xs 10=y10,xs 11=y11,xs 12=y12,xs 13=y13,xs 14=y14,xs 15=y15,xs 16=y16,xs 17=y17,xs 18=y18,xs 19=y19,xs 20=y20,xs 21=y21 at *
   replace hG:Ext wr wx:=hG
   subst d21;go_wp2;go_roundw
   case rel=>exact⟨k+1,by omega,by go_num,by rw[Hnx.out],Ek.trans hG⟩
   case measure=>simp[intOf];omega
  ·obtain rfl:k=64:=by omega
   obtain⟨S,hS⟩:∃ S,S=sadS xs ys 64:=⟨_,rfl⟩;rw[←hS]at hsr⊢;have HS2:=Lib.hid hS;clear hS;go_wp2;go_ret
   exact⟨ret_int (by rw[←HS2.out]),Ek⟩
theorem l7Abs_any (x y:Int) (w:World) (x1 : -16≤x) (x2:x≤16) (y1 : -16≤y) (y2:y≤16) :
 Calls Tryz.prog 153 #[.agg #[.int .i64 x,.int .i64 y]] w fun e w'=>e= .returned (.int .i64 (ab x y))∧Ext w w':=by
 have p0:=blk_new w (.cells #[.int .i64 x,.int .i64 y] 27);have E0:=Ext.alloc w (.cells #[.int .i64 x,.int .i64 y] 27);obtain⟨-,k0,k1,-⟩:=bx2 p0;go_enter Tryz.func153,Tryz.ntmps153
 go_wp2;all_goals
  go_ret
  exact⟨ret_int (by unfold ab;omega),E0⟩
/-- What the search has: the reference picture, the best vector, the wanted samples. -/
structure SV (w : World) (B Q g4 : Nat) (r : Pic) (b : Option Addr) (l d : Nat) (T : List Int) (z : Int × Int) (wx : World) : Prop where
 ex:Ext w wx
 rf:wx.heap[B+1]?=some (.cells #[.int .i64 r.w,.int .i64 r.h,.slice b l d] 25 (0,0))
 rs:wx.heap[B+1+1]?=some (.cells #[.int .i64 0,.int .i64 0] 27 (0,0))
 be:wx.heap[Q]?=some (.cells #[.int .i64 z.1,.int .i64 z.2] 27 (0,0))
 sl:Sl wx (some ⟨g4,0,none⟩) 64 (T.map (Value.int .i64))
theorem SV.e {w wx wy:World} {B Q g4:Nat} {r:Pic} {b:Option Addr} {l d:Nat} {T:List Int} {z:Int×Int} (h:SV w B Q g4 r b l d T z wx) (e:Ext wx wy):SV w B Q g4 r b l d T z wy :=
 ⟨h.ex.trans e,e.blk h.rf,e.blk h.rs,e.blk h.be,h.sl.ext e⟩
theorem SV.set {w wx:World} {B Q g4:Nat} {r:Pic} {b:Option Addr} {l d:Nat} {T:List Int} {z:Int×Int} (h:SV w B Q g4 r b l d T z wx) (u v:Int) (h1:w.heap.size≤Q) (h2:B+1+1<Q) (h3:g4≠Q) :
 SV w B Q g4 r b l d T (u,v) ((wx.setCell ⟨Q,0,none⟩ (.int .i64 u)).setCell ⟨Q,1,none⟩ (.int .i64 v)) :=
 ⟨Ext.grown (Ext.grown h.ex (gr_set _ _ _ _) (fun k e=>by cases e;exact h1)) (gr_set _ _ _ _) (fun k e=>by cases e;exact h1),
  blk_set_other (blk_set_other h.rf (by omega)) (by omega),blk_set_other (blk_set_other h.rs (by omega)) (by omega),blk_set2 h.be,
  (h.sl.grown (gr_set _ _ _ _) (fun y hy e=>by cases hy;simp at e;omega)).grown (gr_set _ _ _ _) (fun y hy e=>by cases hy;simp at e;omega)⟩
theorem vat_at {J I:Nat} (hI:I<9):vat (9*J+I)=((I:Int)-4,(J:Int)-4):=by
 unfold vat;rw[show(9*J+I)%9=I by omega,show(9*J+I)/9=J by omega]
theorem l7Search_in (t r:Pic) (x y:Nat) (a b:Option Addr) (c d n l:Nat) (w:World) (htv:t.valid) (hrv:r.valid) (hn:n=t.px.length) (hl:l=r.px.length) (s:Sl w a n (t.px.map (Value.int .i64))) (su:Sl w b l (r.px.map (Value.int .i64))) (hx:x≤100) (hy:y≤100) :
 Calls Tryz.prog 111 #[.agg #[.int .i64 t.w,.int .i64 t.h,.slice a n c],.agg #[.int .i64 r.w,.int .i64 r.h,.slice b l d],.int .i64 (x:Nat),.int .i64 (y:Nat),.int .i64 4] w fun e w'=>e= .returned (.agg #[.int .i64 (stS (cV t r x y) 81).1.1,.int .i64 (stS (cV t r x y) 81).1.2])∧Ext w w':=by
 have HN:=Lib.hid hn;have HL:=Lib.hid hl;have HC:=Lib.hid (fun k (hk:k≤81)=>stS_c (c:=cV t r x y) hk);have HR:=Lib.hid (fun vx vy=>cV_rng htv hrv (x:Int) (y:Int) vx vy);have smT:=Lib.hid (blkL_smp htv (x:Int) (y:Int) 0 0);have smR:=Lib.hid (fun vx vy=>blkL_smp hrv (x:Int) (y:Int) vx vy);clear hn hl;have Y0:=(Ext.alloc ((w.alloc (.cells #[.int .i64 t.w,.int .i64 t.h,.slice a n c] 25)).alloc (.cells #[.int .i64 r.w,.int .i64 r.h,.slice b l d] 25)) (.cells #[.int .i64 0,.int .i64 0] 27)).blk ((Ext.alloc (w.alloc (.cells #[.int .i64 t.w,.int .i64 t.h,.slice a n c] 25)) (.cells #[.int .i64 r.w,.int .i64 r.h,.slice b l d] 25)).blk (blk_new w (.cells #[.int .i64 t.w,.int .i64 t.h,.slice a n c] 25)));have Y1:=(Ext.alloc ((w.alloc (.cells #[.int .i64 t.w,.int .i64 t.h,.slice a n c] 25)).alloc (.cells #[.int .i64 r.w,.int .i64 r.h,.slice b l d] 25)) (.cells #[.int .i64 0,.int .i64 0] 27)).blk (blk_new (w.alloc (.cells #[.int .i64 t.w,.int .i64 t.h,.slice a n c] 25)) (.cells #[.int .i64 r.w,.int .i64 r.h,.slice b l d] 25));have Y2:=blk_new ((w.alloc (.cells #[.int .i64 t.w,.int .i64 t.h,.slice a n c] 25)).alloc (.cells #[.int .i64 r.w,.int .i64 r.h,.slice b l d] 25)) (.cells #[.int .i64 0,.int .i64 0] 27);have F1:=((Ext.alloc w (.cells #[.int .i64 t.w,.int .i64 t.h,.slice a n c] 25)).trans (Ext.alloc _ (.cells #[.int .i64 r.w,.int .i64 r.h,.slice b l d] 25))).trans (Ext.alloc _ (.cells #[.int .i64 0,.int .i64 0] 27));simp only[World.size_alloc]at Y1 Y2;obtain⟨B,hB⟩:∃ B,B=w.heap.size:=⟨_,rfl⟩;rw[←hB]at Y0 Y1 Y2;have hwB:w.heap.size≤B:=by omega
 have hb1:=lt_of_block Y2;go_enter Tryz.func111,Tryz.ntmps111
 go_upto_region 1 with fail
 try simp only[World.size_alloc]
 rw[←hB];clear hB;generalize ((w.alloc (.cells #[.int .i64 t.w,.int .i64 t.h,.slice a n c] 25)).alloc (.cells #[.int .i64 r.w,.int .i64 r.h,.slice b l d] 25)).alloc (.cells #[.int .i64 0,.int .i64 0] 27)=w1 at *;obtain⟨-,k1,k2,k3,-⟩:=bx3 Y0;go_wp2_with fail
 refine(l7Block_any t x y 0 0 a c n _ htv HN.out (s.ext F1) (by omega) (by omega) (by omega) (by omega) (by omega) (by omega) (by omega) (by omega)).mono ?_
 rintro e w4 ⟨a4,c4,rfl,o4,e4⟩
 obtain⟨g4,rfl⟩:=own_ptr o4 (by omega);have S4:=Sl.of_owns o4;have ho4:=(o4.lt g4 rfl).1;have G1:=e4.blk Y1;have G2:=e4.blk Y2;have F2:=F1.trans e4;have hb2:=Nat.lt_of_lt_of_le hb1 e4.size;have h4b:B+1+1<g4:=by omega
 clear Y0 Y1 Y2 F1 e4 o4 k1 k2 k3 hb1 ho4;have b0:=blk_new w4 (.cells #[.int .i64 0,.int .i64 0] 27);have ea:=Ext.alloc w4 (.cells #[.int .i64 0,.int .i64 0] 27);have S5:=S4.ext ea;have G3:=ea.blk G1;have G4:=ea.blk G2;have F3:=F2.trans ea;obtain⟨Q,hQ⟩:∃ Q,Q=w4.heap.size:=⟨_,rfl⟩;have hg4:=sl_bound S4 _ rfl (by omega);rw[←hQ]at b0 hb2 hg4;go_upto_region 3 with fail
 rw[←hQ];generalize w4.alloc (.cells #[.int .i64 0,.int .i64 0] 27)=w5 at *;clear hQ;have V5:SV w B Q g4 r b l d (blkL t x y 0 0) (0,0) w5:=⟨F3,G3,G4,b0,S5⟩;have hwQ:w.heap.size≤Q:=by omega
 have hgQ:g4≠Q:=by omega
 have hBQ:=hb2;clear S4 G1 G2 F2 ea S5 G3 G4 F3 b0 hg4 hb2 h4b;obtain⟨-,k1,k2,k3,-⟩:=bx3 V5.rf;obtain⟨-,q0,q1,-⟩:=bx2 V5.be;go_wp2_with fail
 refine(l7Block_any r x y 0 0 b d l _ hrv HL.out (su.ext V5.ex) (by omega) (by omega) (by omega) (by omega) (by omega) (by omega) (by omega) (by omega)).mono ?_
 rintro e w6 ⟨a6,c6,rfl,o6,e6⟩
 obtain⟨g6,rfl⟩:=own_ptr o6 (by omega);have V6:=V5.e e6;clear V5 e6 k1 k2 k3 q0 q1;go_wp2_with fail
 refine(l7Cost_in _ _ g4 g6 c4 c6 _ V6.sl (Sl.of_owns o6) smT.out (smR.out 0 0) (blkL_len _ _ _ _ _) (blkL_len _ _ _ _ _)).mono ?_
 rintro e w7 ⟨rfl,e7⟩
 rw[show sadS (blkL t x y 0 0) (blkL r x y 0 0) 64=(stS (cV t r x y) 0).2 from rfl];have V7:=V6.e e7;clear V6 e7 o6;obtain⟨ls0,hls0⟩:∃ z,z=(stS (cV t r x y) 0).2:=⟨_,rfl⟩;rw[←hls0];have Hls0:=Lib.hid hls0;clear hls0;go_wp2_with fail
 go_loopw [14,13] (fun j ls wr=>∃ J:Nat,J≤9∧j= .int .i64 ((J:Int)-4)∧ls= .int .i64 (stS (cV t r x y) (9*J)).2∧SV w B Q g4 r b l d (blkL t x y 0 0) (stS (cV t r x y) (9*J)).1 wr) (fun j _ _=>(5-intOf j).toNat)
 case atStart=>exact⟨0,by omega,by congr 1,by rw[Hls0.out],V7⟩
 case round =>
  obtain⟨J,hJ,rfl,rfl,V8⟩:=hrel;clear V7 Hls0;obtain⟨ls1,hls1⟩:∃ z,z=(stS (cV t r x y) (9*J)).2:=⟨_,rfl⟩;rw[←hls1];have Hls1:=Lib.hid hls1;clear hls1
  by_cases hlt:J<9
  ·have hd:decide ((J:Int)-4≤4)=true:=by simp;omega
   go_wp2_with fail
   go_loopw [15,13] (fun i ls wr=>∃ I:Nat,I≤9∧i= .int .i64 ((I:Int)-4)∧ls= .int .i64 (stS (cV t r x y) (9*J+I)).2∧SV w B Q g4 r b l d (blkL t x y 0 0) (stS (cV t r x y) (9*J+I)).1 wr) (fun i _ _=>(5-intOf i).toNat)
   case atStart=>exact⟨0,by omega,by congr 1,by rw[Hls1.out];rfl,V8⟩
   case round =>
    obtain⟨I,hI,rfl,rfl,VJ⟩:=hrel;clear V8 Hls1
    by_cases hli:I<9
    ·have hdi:decide ((I:Int)-4≤4)=true:=by simp;omega
     obtain⟨hsc,hbx⟩:=HC.out (9*J+I) (by omega);have hnx:stS (cV t r x y) (9*J+I+1)=nxS (cV t r x y) (stS (cV t r x y) (9*J+I)) (vat (9*J+I)):=rfl;rw[vat_at hli]at hnx;obtain⟨⟨⟨bu,bv⟩,ls⟩,hst⟩:∃ s,s=stS (cV t r x y) (9*J+I):=⟨_,rfl⟩;rw[←hst]at hsc hbx hnx VJ⊢;simp only at hsc hbx VJ⊢;obtain⟨u,hu⟩:∃ u:Int,u=(I:Int)-4:=⟨_,rfl⟩;obtain⟨v,hv⟩:∃ v:Int,v=(J:Int)-4:=⟨_,rfl⟩;rw[←hu,←hv]at hnx;rw[←hu,←hv];rw[←hu]at hdi;have hur : -4≤u∧u≤4:=by omega
     have hvr : -4≤v∧v≤4:=by omega
     unfold boxV at hbx;have hls:=HR.out bu bv;rw[←hsc]at hls;have hC:=HR.out u v;have HCd:=Lib.hid (show sadS (blkL t x y 0 0) (blkL r x y u v) 64=cV t r x y u v from rfl);unfold nxS at hnx;simp only at hnx;obtain⟨C,hC0⟩:∃ C,C=cV t r x y u v:=⟨_,rfl⟩;rw[←hC0]at hC hnx HCd;have Hu:=Lib.hid hu;have Hv:=Lib.hid hv;clear hst hsc hu hv hC0;have HNX:=Lib.hid hnx;clear hnx;have b1:=blk_new wr (.cells #[.int .i64 u,.int .i64 v] 27);have ea:=Ext.alloc wr (.cells #[.int .i64 u,.int .i64 v] 27);have V9:=VJ.e ea;obtain⟨VB,hVB⟩:∃ q,q=wr.heap.size:=⟨_,rfl⟩;rw[←hVB]at b1;go_upto_region 11 with fail
     rw[←hVB];clear hVB;generalize wr.alloc (.cells #[.int .i64 u,.int .i64 v] 27)=w9 at *;obtain⟨-,k1,k2,k3,-⟩:=bx3 V9.rf;obtain⟨-,r0,r1,-⟩:=bx2 b1;go_wp2_with fail
     refine(l7Block_any r x y u v b d l _ hrv HL.out (su.ext V9.ex) (by omega) (by omega) (by omega) (by omega) (by omega) (by omega) (by omega) (by omega)).mono ?_
     rintro e w10 ⟨a6,c6,rfl,o6,e6⟩
     obtain⟨g6,rfl⟩:=own_ptr o6 (by omega);have V10:=V9.e e6;have E10:=ea.trans e6;have b2:=e6.blk b1;clear V9 e6 k1 k2 k3 r0 r1 ea b1;go_wp2_with fail
     refine(l7Cost_in _ _ g4 g6 c4 c6 _ V10.sl (Sl.of_owns o6) smT.out (smR.out u v) (blkL_len _ _ _ _ _) (blkL_len _ _ _ _ _)).mono ?_
     rintro e w11 ⟨rfl,e7⟩
     rw[HCd.out];have V11:=V10.e e7;have HVb:=Lib.hid (e7.blk b2);clear V10 VJ e7 o6 E10 b2 HCd
     by_cases h1:C<ls
     ·have Hnx:=Lib.hid (HNX.out.trans (if_pos (.inl h1)));have f1:decide (C<ls)=true:=by simpa using h1
      clear HNX;go_upto_region 12 with fail
      refine wp_region_inv2 (by kernel_rfl) [(55,0),(56,1),(57,2),(58,3),(59,4),(60,5),(61,6),(62,7),(63,8),(64,9),(65,10),(66,11),(67,12),(68,13),(69,14)] [[],[],[0,1],[0,1,2],[0,1,2,3],[0,1,2,3],[0,1,2,3,4,5],[0,1,2,3,4,5,6],[0,1,2,3,4,5,6,7],[0,1,2,3,4,5,6,7,8],[0,1,2,3,4,5,6,7],[0,1,2,3,4,5,6,7,8,9,10],[0,1,2,3,4,5,6,7,8,9,10,11],[0,1,2,3,4,5,6,7,8,9,10,11,12],[0,1,2,3,4,5,6,7,8,9,10,11,12,13]] (fun i own ys wx=>match i with|0=>own= .int .i64 C|1=>own= .int .i64 ls|2=>own= .bool true|3=>own= .bool true|4=>True|5=>True|6=>True|7=>own=undef|8=>True|9=>True|10=>True|11=>True|12=>True|13=>True|14=>own= .bool true|_=>True) (fun kx wx=>Ext w11 wx) (by kernel_rfl) (by kernel_rfl) (by kernel_rfl) ?g0_r2 ?gop_r2 ?gend_r2
      case g0_r2=>exact Ext.drewN _ 1
      case gop_r2 =>
       refine⟨?_,?_,?o2,?o3,?o4,?o5,?o6,?o7,?o8,?o9,?o10,?o11,?o12,?o13,?o14,trivial⟩ <;> (intro kx xs wx hk hG hD hI Qo Kx hK hQo;simp only[patchS,Nat.reduceAdd,Nat.reduceEqDiff,↓reduceIte]at hQo⊢)
       case o2 =>
        rw[ddq (hD 0 rfl),ddq (hD 1 rfl)]at hQo⊢;clear hD hI;go_wp2;exact hK.out _ _ ⟨rfl,hG,kkp⟩
       case o3 =>
        rw[ddq (hD 2 rfl)]at hQo⊢;clear hD hI;go_wp2;exact hK.out _ _ ⟨rfl,hG,kkp⟩
       case o4 =>
        rw[ddq (hD 3 rfl)]at hQo⊢;clear hD hI;go_wp2;exact hK.out _ _ ⟨trivial,hG,fun _ _ _ _ _ _ h=>h⟩
       case o5 =>
        rw[ddq (hD 3 rfl)]at hQo⊢;clear hD hI;go_wp2;exact hK.out _ _ ⟨trivial,hG,fun _ _ _ _ _ _ h=>h⟩
       case o6 =>
        rw[ddq (hD 3 rfl)]at hQo⊢;have d4:True:=hD 4 rfl;have d5:True:=hD 5 rfl;clear hD hI;generalize xs 4=y4 at *;generalize xs 5=y5 at *;go_wp2;exact hK.out _ _ ⟨trivial,hG,fun _ _ _ _ _ _ h=>h⟩
       case o7 =>
        rw[ddq (hD 3 rfl)]at hQo⊢;have d6:True:=hD 6 rfl;clear hD hI;generalize xs 6=y6 at *;go_wp2;exact hK.out _ _ ⟨rfl,hG,kkp⟩
       case o8 =>
        rw[ddq (hD 7 rfl)]at hQo⊢;clear hD hI;go_wp2;exact hK.out _ _ ⟨trivial,hG,fun _ _ _ _ _ _ h=>h⟩
       case o9 =>
        rw[ddq (hD 7 rfl)]at hQo⊢;have d8:True:=hD 8 rfl;clear hD hI;generalize xs 8=y8 at *;go_wp2;exact hK.out _ _ ⟨trivial,hG,fun _ _ _ _ _ _ h=>h⟩
       case o10 =>
        rw[ddq (hD 7 rfl)]at hQo⊢;clear hD hI;go_wp2;exact hK.out _ _ ⟨trivial,hG,fun _ _ _ _ _ _ h=>h⟩
       case o11 =>
        rw[ddq (hD 7 rfl)]at hQo⊢;have d10:True:=hD 10 rfl;clear hD hI;generalize xs 10=y10 at *;go_wp2;exact hK.out _ _ ⟨trivial,hG,fun _ _ _ _ _ _ h=>h⟩
       case o12 =>
        rw[ddq (hD 7 rfl)]at hQo⊢;have d9:True:=hD 9 rfl;have d11:True:=hD 11 rfl;clear hD hI;generalize xs 9=y9 at *;generalize xs 11=y11 at *;go_wp2;exact hK.out _ _ ⟨trivial,hG,fun _ _ _ _ _ _ h=>h⟩
       case o13 =>
        rw[ddq (hD 7 rfl),ddq (hD 3 rfl)]at hQo⊢;have d12:True:=hD 12 rfl;clear hD hI;generalize xs 12=y12 at *;go_wp2;exact hK.out _ _ ⟨trivial,hG,fun _ _ _ _ _ _ h=>h⟩
       case o14 =>
        rw[ddq (hD 3 rfl)]at hQo⊢;have d13:True:=hD 13 rfl;clear hD hI;generalize xs 13=y13 at *;go_wp2;exact hK.out _ _ ⟨rfl,hG,kkp⟩
       all_goals
        clear hD hI;go_wp2;exact hK.out _ _ ⟨rfl,hG,kkp⟩
      intro xs wx hV hG;have d14:_=_:=hV 14 (by decide);clear hV;simp only[patchS,Nat.reduceAdd,Nat.reduceEqDiff,↓reduceIte];generalize xs 0=y0,xs 1=y1,xs 2=y2,xs 3=y3,xs 4=y4,xs 5=y5,xs 6=y6,xs 7=y7,xs 8=y8,xs 9=y9,xs 10=y10,xs 11=y11,xs 12=y12,xs 13=y13,xs 14=y14 at *
      replace hG:Ext w11 wx:=hG
      subst d14;have VK:=V11.e hG;obtain⟨-,q0,q1,p0,p1⟩:=bx2 VK.be;obtain⟨-,r0,r1,-⟩:=bx2 (hG.blk HVb.out);have VN:=VK.set u v hwQ hBQ hgQ;go_wp2;go_roundw
      case rel=>exact⟨I+1,by omega,by have:=Hu.out;congr 1;omega,by rw[←Nat.add_assoc,Hnx.out],by rw[←Nat.add_assoc,Hnx.out];exact VN⟩
      case measure=>simp[intOf];omega
     ·have f1:decide (C<ls)=false:=by simpa using h1
      by_cases h2:C=ls
      ·have f2:(C == ls)=true:=by simpa using h2
       by_cases h3:ab u v<ab bu bv
       ·have Hnx:=Lib.hid (HNX.out.trans (if_pos (.inr ⟨h2,h3⟩)));have Hab:=Lib.hid (show decide (ab u v<ab bu bv)=true by simpa using h3);clear HNX h2 h3;go_upto_region 12 with fail
        refine wp_region_inv2 (by kernel_rfl) [(55,0),(56,1),(57,2),(58,3),(59,4),(60,5),(61,6),(62,7),(63,8),(64,9),(65,10),(66,11),(67,12),(68,13),(69,14)] [[],[],[0,1],[0,1,2],[0,1,2,3],[0,1,2,3],[0,1,2,3,4,5],[0,1,2,3,4,5,6],[0,1,2,3,4,5,6,7],[0,1,2,3,4,5,6,7,8],[0,1,2,3,4,5,6,7],[0,1,2,3,4,5,6,7,8,9,10],[0,1,2,3,4,5,6,7,8,9,10,11],[0,1,2,3,4,5,6,7,8,9,10,11,12],[0,1,2,3,4,5,6,7,8,9,10,11,12,13]] (fun i own ys wx=>match i with|0=>own= .int .i64 C|1=>own= .int .i64 ls|2=>own= .bool false|3=>own= .bool false|4=>own= .int .i64 C|5=>own= .int .i64 ls|6=>own= .bool true|7=>own= .bool true|8=>own= .agg #[.int .i64 u,.int .i64 v]|9=>own= .int .i64 (ab u v)|10=>own= .agg #[.int .i64 bu,.int .i64 bv]|11=>own= .int .i64 (ab bu bv)|12=>own= .bool true|13=>own= .bool true|14=>own= .bool true|_=>True) (fun kx wx=>Ext w11 wx) (by kernel_rfl) (by kernel_rfl) (by kernel_rfl) ?g0_r3 ?gop_r3 ?gend_r3
        case g0_r3=>exact Ext.drewN _ 1
        case gop_r3 =>
         refine⟨?_,?_,?o2,?o3,?o4,?o5,?o6,?o7,?o8,?o9,?o10,?o11,?o12,?o13,?o14,trivial⟩ <;> (intro kx xs wx hk hG hD hI Qo Kx hK hQo;simp only[patchS,Nat.reduceAdd,Nat.reduceEqDiff,↓reduceIte]at hQo⊢)
         case o2 =>
          rw[ddq (hD 0 rfl),ddq (hD 1 rfl)]at hQo⊢;clear hD hI;go_wp2;exact hK.out _ _ ⟨rfl,hG,kkp⟩
         case o3 =>
          rw[ddq (hD 2 rfl)]at hQo⊢;clear hD hI;go_wp2;exact hK.out _ _ ⟨rfl,hG,kkp⟩
         case o4 =>
          rw[ddq (hD 3 rfl)]at hQo⊢;clear hD hI;go_wp2;exact hK.out _ _ ⟨rfl,hG,kkp⟩
         case o5 =>
          rw[ddq (hD 3 rfl)]at hQo⊢;clear hD hI;go_wp2;exact hK.out _ _ ⟨rfl,hG,kkp⟩
         case o6 =>
          rw[ddq (hD 4 rfl),ddq (hD 5 rfl),ddq (hD 3 rfl)]at hQo⊢;clear hD hI;go_wp2;exact hK.out _ _ ⟨rfl,hG,kkp⟩
         case o7 =>
          rw[ddq (hD 6 rfl),ddq (hD 3 rfl)]at hQo⊢;clear hD hI;go_wp2;exact hK.out _ _ ⟨rfl,hG,kkp⟩
         case o8 =>
          rw[ddq (hD 7 rfl)]at hQo⊢;clear hD hI;obtain⟨-,q0,q1,-⟩:=bx2 (hG.blk HVb.out);go_wp2;exact hK.out _ _ ⟨rfl,hG,kkp⟩
         case o9 =>
          rw[ddq (hD 8 rfl),ddq (hD 7 rfl)]at hQo⊢;clear hD hI;go_wp2_with fail
          refine(l7Abs_any u v _ (by omega) (by omega) (by omega) (by omega)).mono ?_
          rintro e wz ⟨rfl,ez⟩
          go_wp2;exact hK.out _ _ ⟨rfl,hG.trans ez,fun _ _ _ _ _ _ h=>h⟩
         case o10 =>
          rw[ddq (hD 7 rfl)]at hQo⊢;clear hD hI;obtain⟨-,q0,q1,-⟩:=bx2 ((V11.e hG).be);go_wp2;exact hK.out _ _ ⟨rfl,hG,kkp⟩
         case o11 =>
          rw[ddq (hD 10 rfl),ddq (hD 7 rfl)]at hQo⊢;clear hD hI;go_wp2_with fail
          refine(l7Abs_any bu bv _ (by omega) (by omega) (by omega) (by omega)).mono ?_
          rintro e wz ⟨rfl,ez⟩
          go_wp2;exact hK.out _ _ ⟨rfl,hG.trans ez,fun _ _ _ _ _ _ h=>h⟩
         case o12 =>
          rw[ddq (hD 9 rfl),ddq (hD 11 rfl),ddq (hD 7 rfl)]at hQo⊢;clear hD hI;go_wp2;exact hK.out _ _ ⟨by rw[Hab.out],hG,fun _ _ _ _ _ _ h=>h⟩
         case o13 =>
          rw[ddq (hD 7 rfl),ddq (hD 12 rfl),ddq (hD 3 rfl)]at hQo⊢;clear hD hI;go_wp2;exact hK.out _ _ ⟨rfl,hG,kkp⟩
         case o14 =>
          rw[ddq (hD 3 rfl),ddq (hD 13 rfl)]at hQo⊢;clear hD hI;go_wp2;exact hK.out _ _ ⟨rfl,hG,kkp⟩
         all_goals
          clear hD hI;go_wp2;exact hK.out _ _ ⟨rfl,hG,kkp⟩
        intro xs wx hV hG;have d14:_=_:=hV 14 (by decide);clear hV;simp only[patchS,Nat.reduceAdd,Nat.reduceEqDiff,↓reduceIte];generalize xs 0=y0,xs 1=y1,xs 2=y2,xs 3=y3,xs 4=y4,xs 5=y5,xs 6=y6,xs 7=y7,xs 8=y8,xs 9=y9,xs 10=y10,xs 11=y11,xs 12=y12,xs 13=y13,xs 14=y14 at *
        replace hG:Ext w11 wx:=hG
        subst d14;have VK:=V11.e hG;obtain⟨-,q0,q1,p0,p1⟩:=bx2 VK.be;obtain⟨-,r0,r1,-⟩:=bx2 (hG.blk HVb.out);have VN:=VK.set u v hwQ hBQ hgQ;go_wp2;go_roundw
        case rel=>exact⟨I+1,by omega,by have:=Hu.out;congr 1;omega,by rw[←Nat.add_assoc,Hnx.out],by rw[←Nat.add_assoc,Hnx.out];exact VN⟩
        case measure=>simp[intOf];omega
       ·have Hnx:=Lib.hid (HNX.out.trans (if_neg (fun h=>h.elim h1 (fun h=>h3 h.2))));have Hab:=Lib.hid (show decide (ab u v<ab bu bv)=false by simpa using h3);clear HNX h2 h3;go_upto_region 12 with fail
        refine wp_region_inv2 (by kernel_rfl) [(55,0),(56,1),(57,2),(58,3),(59,4),(60,5),(61,6),(62,7),(63,8),(64,9),(65,10),(66,11),(67,12),(68,13),(69,14)] [[],[],[0,1],[0,1,2],[0,1,2,3],[0,1,2,3],[0,1,2,3,4,5],[0,1,2,3,4,5,6],[0,1,2,3,4,5,6,7],[0,1,2,3,4,5,6,7,8],[0,1,2,3,4,5,6,7],[0,1,2,3,4,5,6,7,8,9,10],[0,1,2,3,4,5,6,7,8,9,10,11],[0,1,2,3,4,5,6,7,8,9,10,11,12],[0,1,2,3,4,5,6,7,8,9,10,11,12,13]] (fun i own ys wx=>match i with|0=>own= .int .i64 C|1=>own= .int .i64 ls|2=>own= .bool false|3=>own= .bool false|4=>own= .int .i64 C|5=>own= .int .i64 ls|6=>own= .bool true|7=>own= .bool true|8=>own= .agg #[.int .i64 u,.int .i64 v]|9=>own= .int .i64 (ab u v)|10=>own= .agg #[.int .i64 bu,.int .i64 bv]|11=>own= .int .i64 (ab bu bv)|12=>own= .bool false|13=>own= .bool false|14=>own= .bool false|_=>True) (fun kx wx=>Ext w11 wx) (by kernel_rfl) (by kernel_rfl) (by kernel_rfl) ?g0_r4 ?gop_r4 ?gend_r4
        case g0_r4=>exact Ext.drewN _ 1
        case gop_r4 =>
         refine⟨?_,?_,?o2,?o3,?o4,?o5,?o6,?o7,?o8,?o9,?o10,?o11,?o12,?o13,?o14,trivial⟩ <;> (intro kx xs wx hk hG hD hI Qo Kx hK hQo;simp only[patchS,Nat.reduceAdd,Nat.reduceEqDiff,↓reduceIte]at hQo⊢)
         case o2 =>
          rw[ddq (hD 0 rfl),ddq (hD 1 rfl)]at hQo⊢;clear hD hI;go_wp2;exact hK.out _ _ ⟨rfl,hG,kkp⟩
         case o3 =>
          rw[ddq (hD 2 rfl)]at hQo⊢;clear hD hI;go_wp2;exact hK.out _ _ ⟨rfl,hG,kkp⟩
         case o4 =>
          rw[ddq (hD 3 rfl)]at hQo⊢;clear hD hI;go_wp2;exact hK.out _ _ ⟨rfl,hG,kkp⟩
         case o5 =>
          rw[ddq (hD 3 rfl)]at hQo⊢;clear hD hI;go_wp2;exact hK.out _ _ ⟨rfl,hG,kkp⟩
         case o6 =>
          rw[ddq (hD 4 rfl),ddq (hD 5 rfl),ddq (hD 3 rfl)]at hQo⊢;clear hD hI;go_wp2;exact hK.out _ _ ⟨rfl,hG,kkp⟩
         case o7 =>
          rw[ddq (hD 6 rfl),ddq (hD 3 rfl)]at hQo⊢;clear hD hI;go_wp2;exact hK.out _ _ ⟨rfl,hG,kkp⟩
         case o8 =>
          rw[ddq (hD 7 rfl)]at hQo⊢;clear hD hI;obtain⟨-,q0,q1,-⟩:=bx2 (hG.blk HVb.out);go_wp2;exact hK.out _ _ ⟨rfl,hG,kkp⟩
         case o9 =>
          rw[ddq (hD 8 rfl),ddq (hD 7 rfl)]at hQo⊢;clear hD hI;go_wp2_with fail
          refine(l7Abs_any u v _ (by omega) (by omega) (by omega) (by omega)).mono ?_
          rintro e wz ⟨rfl,ez⟩
          go_wp2;exact hK.out _ _ ⟨rfl,hG.trans ez,fun _ _ _ _ _ _ h=>h⟩
         case o10 =>
          rw[ddq (hD 7 rfl)]at hQo⊢;clear hD hI;obtain⟨-,q0,q1,-⟩:=bx2 ((V11.e hG).be);go_wp2;exact hK.out _ _ ⟨rfl,hG,kkp⟩
         case o11 =>
          rw[ddq (hD 10 rfl),ddq (hD 7 rfl)]at hQo⊢;clear hD hI;go_wp2_with fail
          refine(l7Abs_any bu bv _ (by omega) (by omega) (by omega) (by omega)).mono ?_
          rintro e wz ⟨rfl,ez⟩
          go_wp2;exact hK.out _ _ ⟨rfl,hG.trans ez,fun _ _ _ _ _ _ h=>h⟩
         case o12 =>
          rw[ddq (hD 9 rfl),ddq (hD 11 rfl),ddq (hD 7 rfl)]at hQo⊢;clear hD hI;go_wp2;exact hK.out _ _ ⟨by rw[Hab.out],hG,fun _ _ _ _ _ _ h=>h⟩
         case o13 =>
          rw[ddq (hD 7 rfl),ddq (hD 12 rfl),ddq (hD 3 rfl)]at hQo⊢;clear hD hI;go_wp2;exact hK.out _ _ ⟨rfl,hG,kkp⟩
         case o14 =>
          rw[ddq (hD 3 rfl),ddq (hD 13 rfl)]at hQo⊢;clear hD hI;go_wp2;exact hK.out _ _ ⟨rfl,hG,kkp⟩
         all_goals
          clear hD hI;go_wp2;exact hK.out _ _ ⟨rfl,hG,kkp⟩
        intro xs wx hV hG;have d14:_=_:=hV 14 (by decide);clear hV;simp only[patchS,Nat.reduceAdd,Nat.reduceEqDiff,↓reduceIte];generalize xs 0=y0,xs 1=y1,xs 2=y2,xs 3=y3,xs 4=y4,xs 5=y5,xs 6=y6,xs 7=y7,xs 8=y8,xs 9=y9,xs 10=y10,xs 11=y11,xs 12=y12,xs 13=y13,xs 14=y14 at *
        replace hG:Ext w11 wx:=hG
        subst d14;have VK:=V11.e hG;go_wp2;go_roundw
        case rel=>exact⟨I+1,by omega,by have:=Hu.out;congr 1;omega,by rw[←Nat.add_assoc,Hnx.out],by rw[←Nat.add_assoc,Hnx.out];exact VK⟩
        case measure=>simp[intOf];omega
      ·have f2:(C == ls)=false:=by simpa using h2
       have Hnx:=Lib.hid (HNX.out.trans (if_neg (fun h=>h.elim h1 (fun h=>h2 h.1))));clear HNX h2;go_upto_region 12 with fail
       refine wp_region_inv2 (by kernel_rfl) [(55,0),(56,1),(57,2),(58,3),(59,4),(60,5),(61,6),(62,7),(63,8),(64,9),(65,10),(66,11),(67,12),(68,13),(69,14)] [[],[],[0,1],[0,1,2],[0,1,2,3],[0,1,2,3],[0,1,2,3,4,5],[0,1,2,3,4,5,6],[0,1,2,3,4,5,6,7],[0,1,2,3,4,5,6,7,8],[0,1,2,3,4,5,6,7],[0,1,2,3,4,5,6,7,8,9,10],[0,1,2,3,4,5,6,7,8,9,10,11],[0,1,2,3,4,5,6,7,8,9,10,11,12],[0,1,2,3,4,5,6,7,8,9,10,11,12,13]] (fun i own ys wx=>match i with|0=>own= .int .i64 C|1=>own= .int .i64 ls|2=>own= .bool false|3=>own= .bool false|4=>own= .int .i64 C|5=>own= .int .i64 ls|6=>own= .bool false|7=>own= .bool false|8=>True|9=>True|10=>True|11=>True|12=>True|13=>own= .bool false|14=>own= .bool false|_=>True) (fun kx wx=>Ext w11 wx) (by kernel_rfl) (by kernel_rfl) (by kernel_rfl) ?g0_r5 ?gop_r5 ?gend_r5
       case g0_r5=>exact Ext.drewN _ 1
       case gop_r5 =>
        refine⟨?_,?_,?o2,?o3,?o4,?o5,?o6,?o7,?o8,?o9,?o10,?o11,?o12,?o13,?o14,trivial⟩ <;> (intro kx xs wx hk hG hD hI Qo Kx hK hQo;simp only[patchS,Nat.reduceAdd,Nat.reduceEqDiff,↓reduceIte]at hQo⊢)
        case o2 =>
         rw[ddq (hD 0 rfl),ddq (hD 1 rfl)]at hQo⊢;clear hD hI;go_wp2;exact hK.out _ _ ⟨rfl,hG,kkp⟩
        case o3 =>
         rw[ddq (hD 2 rfl)]at hQo⊢;clear hD hI;go_wp2;exact hK.out _ _ ⟨rfl,hG,kkp⟩
        case o4 =>
         rw[ddq (hD 3 rfl)]at hQo⊢;clear hD hI;go_wp2;exact hK.out _ _ ⟨rfl,hG,kkp⟩
        case o5 =>
         rw[ddq (hD 3 rfl)]at hQo⊢;clear hD hI;go_wp2;exact hK.out _ _ ⟨rfl,hG,kkp⟩
        case o6 =>
         rw[ddq (hD 4 rfl),ddq (hD 5 rfl),ddq (hD 3 rfl)]at hQo⊢;clear hD hI;go_wp2;exact hK.out _ _ ⟨rfl,hG,kkp⟩
        case o7 =>
         rw[ddq (hD 6 rfl),ddq (hD 3 rfl)]at hQo⊢;clear hD hI;go_wp2;exact hK.out _ _ ⟨rfl,hG,kkp⟩
        case o8 =>
         rw[ddq (hD 7 rfl)]at hQo⊢;clear hD hI;go_wp2;exact hK.out _ _ ⟨trivial,hG,fun _ _ _ _ _ _ h=>h⟩
        case o9 =>
         rw[ddq (hD 7 rfl)]at hQo⊢;have d8:True:=hD 8 rfl;clear hD hI;generalize xs 8=y8 at *;go_wp2;exact hK.out _ _ ⟨trivial,hG,fun _ _ _ _ _ _ h=>h⟩
        case o10 =>
         rw[ddq (hD 7 rfl)]at hQo⊢;clear hD hI;go_wp2;exact hK.out _ _ ⟨trivial,hG,fun _ _ _ _ _ _ h=>h⟩
        case o11 =>
         rw[ddq (hD 7 rfl)]at hQo⊢;have d10:True:=hD 10 rfl;clear hD hI;generalize xs 10=y10 at *;go_wp2;exact hK.out _ _ ⟨trivial,hG,fun _ _ _ _ _ _ h=>h⟩
        case o12 =>
         rw[ddq (hD 7 rfl)]at hQo⊢;have d9:True:=hD 9 rfl;have d11:True:=hD 11 rfl;clear hD hI;generalize xs 9=y9 at *;generalize xs 11=y11 at *;go_wp2;exact hK.out _ _ ⟨trivial,hG,fun _ _ _ _ _ _ h=>h⟩
        case o13 =>
         rw[ddq (hD 7 rfl),ddq (hD 3 rfl)]at hQo⊢;have d12:True:=hD 12 rfl;clear hD hI;generalize xs 12=y12 at *;go_wp2;exact hK.out _ _ ⟨rfl,hG,kkp⟩
        case o14 =>
         rw[ddq (hD 3 rfl),ddq (hD 13 rfl)]at hQo⊢;clear hD hI;go_wp2;exact hK.out _ _ ⟨rfl,hG,kkp⟩
        all_goals
         clear hD hI;go_wp2;exact hK.out _ _ ⟨rfl,hG,kkp⟩
       intro xs wx hV hG;have d14:_=_:=hV 14 (by decide);clear hV;simp only[patchS,Nat.reduceAdd,Nat.reduceEqDiff,↓reduceIte];generalize xs 0=y0,xs 1=y1,xs 2=y2,xs 3=y3,xs 4=y4,xs 5=y5,xs 6=y6,xs 7=y7,xs 8=y8,xs 9=y9,xs 10=y10,xs 11=y11,xs 12=y12,xs 13=y13,xs 14=y14 at *
       replace hG:Ext w11 wx:=hG
       subst d14;have VK:=V11.e hG;go_wp2;go_roundw
       case rel=>exact⟨I+1,by omega,by have:=Hu.out;congr 1;omega,by rw[←Nat.add_assoc,Hnx.out],by rw[←Nat.add_assoc,Hnx.out];exact VK⟩
       case measure=>simp[intOf];omega
    ·obtain rfl:I=9:=by omega
     have hdi:decide (((9:Nat):Int)-4≤4)=false:=by decide
     have h9:9*J+9=9*(J+1):=by omega
     rw[h9]at VJ⊢;obtain⟨ls2,hls2⟩:∃ z,z=(stS (cV t r x y) (9*(J+1))).2:=⟨_,rfl⟩;rw[←hls2];have Hls2:=Lib.hid hls2;clear hls2;go_wp2;go_roundw
     case rel=>exact⟨J+1,by omega,by congr 1;omega,by rw[Hls2.out],VJ⟩
     case measure=>simp[intOf];omega
  ·obtain rfl:J=9:=by omega
   have hd:decide (((9:Nat):Int)-4≤4)=false:=by decide
   obtain⟨z,hz⟩:∃ z,z=(stS (cV t r x y) 81).1:=⟨_,rfl⟩;rw[show 9*9=81 from rfl,←hz]at V8;have Hz:=Lib.hid hz;clear hz;obtain⟨-,q0,q1,-⟩:=bx2 V8.be;obtain⟨-,r0,r1,p0,p1⟩:=bx2 V8.rs;have hres:=blk_set2 (x' := .int .i64 z.1) (y' := .int .i64 z.2) V8.rs;have hext:=Ext.grown (Ext.grown V8.ex (gr_set _ (B+1+1) 0 (.int .i64 z.1)) (fun k e=>by cases e;omega)) (gr_set _ (B+1+1) 1 (.int .i64 z.2)) (fun k e=>by cases e;omega);go_wp2;exact bodyPost_ret (v := .agg #[.int .i64 z.1,.int .i64 z.2]) (results_cell_row rfl _ _ (B+1+1) 27 #[.int .i64 z.1,.int .i64 z.2] (0,0) _ rfl hres Tryz.underlying27 rfl size_Vector) rfl ⟨by rw[Hz.out],hext⟩
theorem spl_pre (pre L ys:List Int) (j:Nat):spl (pre++L) (pre.length+j) ys=pre++spl L j ys:=by
 unfold spl;rw[List.take_length_add_append,Nat.add_assoc,List.drop_length_add_append];simp
theorem Mac.spl_lv {m:Mac} (h:m.ok) (j:Nat) (ys:List Int):spl m.zs (7+j) ys=Mac.zs { m with lv:=spl m.lv j ys } := by
 have e:m.zs=(m.kind::m.x::m.y::m.modes)++m.lv:=by simp[Mac.zs]
 have l:(m.kind::m.x::m.y::m.modes).length=7:=by simp[h.modes]
 rw[e,←l,spl_pre];simp[Mac.zs]
theorem zeroq_M : (Tryz.prog.info? 32).map (·.zero)=some (some (.agg (ic (zl 71)))):=by kernel_rfl
theorem zeroc_M : Tryz.zeroCells32=ic (zl 71):=by kernel_rfl
theorem mac0_zz : mac0.zs=zl 71:=by decide
/-- The levels of an inter macroblock, of the first k blocks. -/
def intL (t r:Pic) (x y:Nat) (vx vy:Int) (q:Nat):Nat→List Int
 | 0=>zl 64
 | k+1=>spl (intL t r x y vx vy q k) (k*16) (cod (dif (prt t ((x+k%2*4:Nat):Int) ((y+k/2*4:Nat):Int)) (pof (blkL r x y vx vy) (k%2*4) (k/2*4))) q)
theorem intL_len (t r:Pic) (x y:Nat) (vx vy:Int) (q:Nat) {k:Nat} (hk:k≤4):(intL t r x y vx vy q k).length=64:=by
 induction k with
 | zero=>exact zl_len 64
 | succ k ih =>
  have h:=ih (by omega);unfold intL;rw[spl_len (by rw[cod_len,h];omega),h]
/-- The arguments of InterMacro are valid. -/
def okI (t r:Pic) (x y vx vy q:Int):Prop:=alikeP t r∧placeP t x y∧vv vx vy∧(0≤q∧q≤15)
noncomputable instance (t r : Pic) (x y vx vy q : Int) : Decidable (okI t r x y vx vy q) := Classical.propDecidable _
noncomputable def interP (t r : Pic) (x y vx vy q : Int) : Mac := if okI t r x y vx vy q then ⟨1, vx, vy, zero4, intL t r x.toNat y.toNat vx vy q.toNat 4⟩ else mac0
theorem interP_yes {t r:Pic} {x y vx vy q:Int} (h:okI t r x y vx vy q):interP t r x y vx vy q=⟨1,vx,vy,zero4,intL t r x.toNat y.toNat vx vy q.toNat 4⟩:=if_pos h
theorem interP_no {t r:Pic} {x y vx vy q:Int} (h : ¬ okI t r x y vx vy q):interP t r x y vx vy q=mac0:=if_neg h
theorem interP_ok (t r:Pic) (x y vx vy q:Int):(interP t r x y vx vy q).ok:=by
 by_cases h:okI t r x y vx vy q
 ·rw[interP_yes h];exact⟨rfl,intL_len _ _ _ _ _ _ _ (Nat.le_refl _)⟩
 ·rw[interP_no h];exact mac0_ok
def macI (vx vy:Int) (L:List Int):Mac:=⟨1,vx,vy,zero4,L⟩
theorem macI_build (vx vy:Int):((Tryz.zeroCells32.setIfInBounds 0 (.int .i64 1)).setIfInBounds 1 (.int .i64 vx)).setIfInBounds 2 (.int .i64 vy)=ic (macI vx vy (zl 64)).zs:=by kernel_rfl
theorem macI_ok (vx vy:Int) {L:List Int} (h:L.length=64):(macI vx vy L).ok:=⟨rfl,h⟩
theorem impl_InterMacro_no_0 (t r:Pic) (x y vx vy q:Int) (a b:Option Addr) (c d n l:Nat) (w:World) (hn:n=t.px.length) (hl:l=r.px.length) (nc:n≤9223372036854775807) (lc:l≤9223372036854775807) (s:Sl w a n (t.px.map (Value.int .i64))) (u:Sl w b l (r.px.map (Value.int .i64)))  (h0 : ¬ (alikeP t r)) :
 Calls Tryz.prog 22 #[.agg #[.int .i64 t.w,.int .i64 t.h,.slice a n c],.agg #[.int .i64 r.w,.int .i64 r.h,.slice b l d],.int .i64 x,.int .i64 y,.agg #[.int .i64 vx,.int .i64 vy],.int .i64 q] w fun e w'=>e= .returned (.agg (ic (zl 71)))∧Ext w w':=by
 have HN:=Lib.hid hn;have HL:=Lib.hid hl;clear hn hl;have D0:=Lib.hid (show decide (alikeP t r)=false from decide_eq_false h0);have a0_1:=Ext.alloc (w.alloc (.cells #[.int .i64 t.w,.int .i64 t.h,.slice a n c] 25)) (.cells #[.int .i64 r.w,.int .i64 r.h,.slice b l d] 25);have a0_2:=Ext.alloc ((w.alloc (.cells #[.int .i64 t.w,.int .i64 t.h,.slice a n c] 25)).alloc (.cells #[.int .i64 r.w,.int .i64 r.h,.slice b l d] 25)) (.cells #[.int .i64 vx,.int .i64 vy] 27);have a0_3:=Ext.alloc (((w.alloc (.cells #[.int .i64 t.w,.int .i64 t.h,.slice a n c] 25)).alloc (.cells #[.int .i64 r.w,.int .i64 r.h,.slice b l d] 25)).alloc (.cells #[.int .i64 vx,.int .i64 vy] 27)) (.cells (ic (zl 71)) 32);have X0_0:=a0_3.blk (a0_2.blk (a0_1.blk (blk_new w (.cells #[.int .i64 t.w,.int .i64 t.h,.slice a n c] 25))));have a1_2:=Ext.alloc ((w.alloc (.cells #[.int .i64 t.w,.int .i64 t.h,.slice a n c] 25)).alloc (.cells #[.int .i64 r.w,.int .i64 r.h,.slice b l d] 25)) (.cells #[.int .i64 vx,.int .i64 vy] 27);have a1_3:=Ext.alloc (((w.alloc (.cells #[.int .i64 t.w,.int .i64 t.h,.slice a n c] 25)).alloc (.cells #[.int .i64 r.w,.int .i64 r.h,.slice b l d] 25)).alloc (.cells #[.int .i64 vx,.int .i64 vy] 27)) (.cells (ic (zl 71)) 32);have X1_0:=a1_3.blk (a1_2.blk (blk_new (w.alloc (.cells #[.int .i64 t.w,.int .i64 t.h,.slice a n c] 25)) (.cells #[.int .i64 r.w,.int .i64 r.h,.slice b l d] 25)));have a2_3:=Ext.alloc (((w.alloc (.cells #[.int .i64 t.w,.int .i64 t.h,.slice a n c] 25)).alloc (.cells #[.int .i64 r.w,.int .i64 r.h,.slice b l d] 25)).alloc (.cells #[.int .i64 vx,.int .i64 vy] 27)) (.cells (ic (zl 71)) 32);have X2_0:=a2_3.blk (blk_new ((w.alloc (.cells #[.int .i64 t.w,.int .i64 t.h,.slice a n c] 25)).alloc (.cells #[.int .i64 r.w,.int .i64 r.h,.slice b l d] 25)) (.cells #[.int .i64 vx,.int .i64 vy] 27));have X3_0:=IB.new (((w.alloc (.cells #[.int .i64 t.w,.int .i64 t.h,.slice a n c] 25)).alloc (.cells #[.int .i64 r.w,.int .i64 r.h,.slice b l d] 25)).alloc (.cells #[.int .i64 vx,.int .i64 vy] 27)) 32 (zl 71);have E_0:=(((Ext.alloc w (.cells #[.int .i64 t.w,.int .i64 t.h,.slice a n c] 25)).trans (Ext.alloc (w.alloc (.cells #[.int .i64 t.w,.int .i64 t.h,.slice a n c] 25)) (.cells #[.int .i64 r.w,.int .i64 r.h,.slice b l d] 25))).trans (Ext.alloc ((w.alloc (.cells #[.int .i64 t.w,.int .i64 t.h,.slice a n c] 25)).alloc (.cells #[.int .i64 r.w,.int .i64 r.h,.slice b l d] 25)) (.cells #[.int .i64 vx,.int .i64 vy] 27))).trans (Ext.alloc (((w.alloc (.cells #[.int .i64 t.w,.int .i64 t.h,.slice a n c] 25)).alloc (.cells #[.int .i64 r.w,.int .i64 r.h,.slice b l d] 25)).alloc (.cells #[.int .i64 vx,.int .i64 vy] 27)) (.cells (ic (zl 71)) 32));simp only[World.size_alloc]at X1_0 X2_0 X3_0;clear a0_1 a0_2 a0_3 a1_2 a1_3 a2_3 h0;obtain⟨-,k0_0,k0_1,k0_2,-⟩:=bx3 X0_0;obtain⟨-,k1_0,k1_1,k1_2,-⟩:=bx3 X1_0;obtain⟨-,k2_0,k2_1,-⟩:=bx2 X2_0;go_enter Tryz.func22,Tryz.ntmps22
 go_wp2_with (refine wpList_iallocz 32 rfl rfl 71 zeroq_M ?_;(try simp only[World.size_alloc]))
 refine(alike_at t r a b c d n l _ HN.out HL.out nc lc (s.ext E_0) (u.ext E_0)).mono ?_;rw[D0.out]
 rintro e w_1 ⟨rfl,e_1⟩
 have X0_1:=e_1.blk X0_0;have X1_1:=e_1.blk X1_0;have X2_1:=e_1.blk X2_0;have X3_1:=X3_0.ext e_1;have E_1:=E_0.trans e_1;clear k0_0 k0_1 k0_2 X0_0 k1_0 k1_1 k1_2 X1_0 k2_0 k2_1 X2_0 X3_0 E_0 e_1;obtain⟨-,k0_0,k0_1,k0_2,-⟩:=bx3 X0_1;obtain⟨-,k1_0,k1_1,k1_2,-⟩:=bx3 X1_1;obtain⟨-,k2_0,k2_1,-⟩:=bx2 X2_1;have hbz:=X3_1.lt;go_wp2_with (refine wpList_istore 32 _ _ rfl rfl X3_1 0 71 rfl _ rfl (zl 71) zeroc_M size_Macro (zl_len 71) (by simp[zl]) ?_;intro wf pf gf;refine Hid.out ?_)
 rw[spl_all (by rw[zl_len])]at pf;have Ef:Ext w wf:=Ext.grown E_1 gf (fun q hq=>by cases hq;omega);refine Lib.hid ?_;go_wp2;exact bodyPost_ret (v := .agg (ic (zl 71))) (results_cell_row rfl _ _ (w.heap.size+1+1+1) 32 (ic (zl 71)) (0,0) _ rfl pf Tryz.underlying32 rfl (by rw[ic_size,zl_len];exact size_Macro)) rfl ⟨rfl,Ef⟩
theorem impl_InterMacro_no_1 (t r:Pic) (x y vx vy q:Int) (a b:Option Addr) (c d n l:Nat) (w:World) (hn:n=t.px.length) (hl:l=r.px.length) (nc:n≤9223372036854775807) (lc:l≤9223372036854775807) (s:Sl w a n (t.px.map (Value.int .i64))) (u:Sl w b l (r.px.map (Value.int .i64))) (h0:alikeP t r) (h1 : ¬ ((0≤x)∧(x<t.w)∧(x%8=0)∧(0≤y)∧(y<t.h)∧(y%8=0))) :
 Calls Tryz.prog 22 #[.agg #[.int .i64 t.w,.int .i64 t.h,.slice a n c],.agg #[.int .i64 r.w,.int .i64 r.h,.slice b l d],.int .i64 x,.int .i64 y,.agg #[.int .i64 vx,.int .i64 vy],.int .i64 q] w fun e w'=>e= .returned (.agg (ic (zl 71)))∧Ext w w':=by
 have HN:=Lib.hid hn;have HL:=Lib.hid hl;clear hn hl;have D0:=Lib.hid (show decide (alikeP t r)=true from decide_eq_true h0);have D1:=Lib.hid (show decide ((0≤x)∧(x<t.w)∧(x%8=0)∧(0≤y)∧(y<t.h)∧(y%8=0))=false from decide_eq_false h1);have a0_1:=Ext.alloc (w.alloc (.cells #[.int .i64 t.w,.int .i64 t.h,.slice a n c] 25)) (.cells #[.int .i64 r.w,.int .i64 r.h,.slice b l d] 25);have a0_2:=Ext.alloc ((w.alloc (.cells #[.int .i64 t.w,.int .i64 t.h,.slice a n c] 25)).alloc (.cells #[.int .i64 r.w,.int .i64 r.h,.slice b l d] 25)) (.cells #[.int .i64 vx,.int .i64 vy] 27);have a0_3:=Ext.alloc (((w.alloc (.cells #[.int .i64 t.w,.int .i64 t.h,.slice a n c] 25)).alloc (.cells #[.int .i64 r.w,.int .i64 r.h,.slice b l d] 25)).alloc (.cells #[.int .i64 vx,.int .i64 vy] 27)) (.cells (ic (zl 71)) 32);have X0_0:=a0_3.blk (a0_2.blk (a0_1.blk (blk_new w (.cells #[.int .i64 t.w,.int .i64 t.h,.slice a n c] 25))));have a1_2:=Ext.alloc ((w.alloc (.cells #[.int .i64 t.w,.int .i64 t.h,.slice a n c] 25)).alloc (.cells #[.int .i64 r.w,.int .i64 r.h,.slice b l d] 25)) (.cells #[.int .i64 vx,.int .i64 vy] 27);have a1_3:=Ext.alloc (((w.alloc (.cells #[.int .i64 t.w,.int .i64 t.h,.slice a n c] 25)).alloc (.cells #[.int .i64 r.w,.int .i64 r.h,.slice b l d] 25)).alloc (.cells #[.int .i64 vx,.int .i64 vy] 27)) (.cells (ic (zl 71)) 32);have X1_0:=a1_3.blk (a1_2.blk (blk_new (w.alloc (.cells #[.int .i64 t.w,.int .i64 t.h,.slice a n c] 25)) (.cells #[.int .i64 r.w,.int .i64 r.h,.slice b l d] 25)));have a2_3:=Ext.alloc (((w.alloc (.cells #[.int .i64 t.w,.int .i64 t.h,.slice a n c] 25)).alloc (.cells #[.int .i64 r.w,.int .i64 r.h,.slice b l d] 25)).alloc (.cells #[.int .i64 vx,.int .i64 vy] 27)) (.cells (ic (zl 71)) 32);have X2_0:=a2_3.blk (blk_new ((w.alloc (.cells #[.int .i64 t.w,.int .i64 t.h,.slice a n c] 25)).alloc (.cells #[.int .i64 r.w,.int .i64 r.h,.slice b l d] 25)) (.cells #[.int .i64 vx,.int .i64 vy] 27));have X3_0:=IB.new (((w.alloc (.cells #[.int .i64 t.w,.int .i64 t.h,.slice a n c] 25)).alloc (.cells #[.int .i64 r.w,.int .i64 r.h,.slice b l d] 25)).alloc (.cells #[.int .i64 vx,.int .i64 vy] 27)) 32 (zl 71);have E_0:=(((Ext.alloc w (.cells #[.int .i64 t.w,.int .i64 t.h,.slice a n c] 25)).trans (Ext.alloc (w.alloc (.cells #[.int .i64 t.w,.int .i64 t.h,.slice a n c] 25)) (.cells #[.int .i64 r.w,.int .i64 r.h,.slice b l d] 25))).trans (Ext.alloc ((w.alloc (.cells #[.int .i64 t.w,.int .i64 t.h,.slice a n c] 25)).alloc (.cells #[.int .i64 r.w,.int .i64 r.h,.slice b l d] 25)) (.cells #[.int .i64 vx,.int .i64 vy] 27))).trans (Ext.alloc (((w.alloc (.cells #[.int .i64 t.w,.int .i64 t.h,.slice a n c] 25)).alloc (.cells #[.int .i64 r.w,.int .i64 r.h,.slice b l d] 25)).alloc (.cells #[.int .i64 vx,.int .i64 vy] 27)) (.cells (ic (zl 71)) 32));simp only[World.size_alloc]at X1_0 X2_0 X3_0;clear a0_1 a0_2 a0_3 a1_2 a1_3 a2_3 h0 h1;obtain⟨-,k0_0,k0_1,k0_2,-⟩:=bx3 X0_0;obtain⟨-,k1_0,k1_1,k1_2,-⟩:=bx3 X1_0;obtain⟨-,k2_0,k2_1,-⟩:=bx2 X2_0;go_enter Tryz.func22,Tryz.ntmps22
 go_wp2_with (refine wpList_iallocz 32 rfl rfl 71 zeroq_M ?_;(try simp only[World.size_alloc]))
 refine(alike_at t r a b c d n l _ HN.out HL.out nc lc (s.ext E_0) (u.ext E_0)).mono ?_;rw[D0.out]
 rintro e w_1 ⟨rfl,e_1⟩
 have X0_1:=e_1.blk X0_0;have X1_1:=e_1.blk X1_0;have X2_1:=e_1.blk X2_0;have X3_1:=X3_0.ext e_1;have E_1:=E_0.trans e_1;clear k0_0 k0_1 k0_2 X0_0 k1_0 k1_1 k1_2 X1_0 k2_0 k2_1 X2_0 X3_0 E_0 e_1;obtain⟨-,k0_0,k0_1,k0_2,-⟩:=bx3 X0_1;obtain⟨-,k1_0,k1_1,k1_2,-⟩:=bx3 X1_1;obtain⟨-,k2_0,k2_1,-⟩:=bx2 X2_1;go_wp2_with fail
 refine(begins_any t x y a c n _).mono ?_;rw[D1.out]
 rintro e w_2 ⟨rfl,e_2⟩
 have X0_2:=e_2.blk X0_1;have X1_2:=e_2.blk X1_1;have X2_2:=e_2.blk X2_1;have X3_2:=X3_1.ext e_2;have E_2:=E_1.trans e_2;clear k0_0 k0_1 k0_2 X0_1 k1_0 k1_1 k1_2 X1_1 k2_0 k2_1 X2_1 X3_1 E_1 e_2;obtain⟨-,k0_0,k0_1,k0_2,-⟩:=bx3 X0_2;obtain⟨-,k1_0,k1_1,k1_2,-⟩:=bx3 X1_2;obtain⟨-,k2_0,k2_1,-⟩:=bx2 X2_2;have hbz:=X3_2.lt;go_wp2_with (refine wpList_istore 32 _ _ rfl rfl X3_2 0 71 rfl _ rfl (zl 71) zeroc_M size_Macro (zl_len 71) (by simp[zl]) ?_;intro wf pf gf;refine Hid.out ?_)
 rw[spl_all (by rw[zl_len])]at pf;have Ef:Ext w wf:=Ext.grown E_2 gf (fun q hq=>by cases hq;omega);refine Lib.hid ?_;go_wp2;exact bodyPost_ret (v := .agg (ic (zl 71))) (results_cell_row rfl _ _ (w.heap.size+1+1+1) 32 (ic (zl 71)) (0,0) _ rfl pf Tryz.underlying32 rfl (by rw[ic_size,zl_len];exact size_Macro)) rfl ⟨rfl,Ef⟩
theorem impl_InterMacro_no_2 (t r:Pic) (x y vx vy q:Int) (a b:Option Addr) (c d n l:Nat) (w:World) (hn:n=t.px.length) (hl:l=r.px.length) (nc:n≤9223372036854775807) (lc:l≤9223372036854775807) (s:Sl w a n (t.px.map (Value.int .i64))) (u:Sl w b l (r.px.map (Value.int .i64))) (h0:alikeP t r) (h1:(0≤x)∧(x<t.w)∧(x%8=0)∧(0≤y)∧(y<t.h)∧(y%8=0)) (h2 : ¬ (vv vx vy)) :
 Calls Tryz.prog 22 #[.agg #[.int .i64 t.w,.int .i64 t.h,.slice a n c],.agg #[.int .i64 r.w,.int .i64 r.h,.slice b l d],.int .i64 x,.int .i64 y,.agg #[.int .i64 vx,.int .i64 vy],.int .i64 q] w fun e w'=>e= .returned (.agg (ic (zl 71)))∧Ext w w':=by
 have HN:=Lib.hid hn;have HL:=Lib.hid hl;clear hn hl;have D0:=Lib.hid (show decide (alikeP t r)=true from decide_eq_true h0);have D1:=Lib.hid (show decide ((0≤x)∧(x<t.w)∧(x%8=0)∧(0≤y)∧(y<t.h)∧(y%8=0))=true from decide_eq_true h1);have V2:=Lib.hid h2;have a0_1:=Ext.alloc (w.alloc (.cells #[.int .i64 t.w,.int .i64 t.h,.slice a n c] 25)) (.cells #[.int .i64 r.w,.int .i64 r.h,.slice b l d] 25);have a0_2:=Ext.alloc ((w.alloc (.cells #[.int .i64 t.w,.int .i64 t.h,.slice a n c] 25)).alloc (.cells #[.int .i64 r.w,.int .i64 r.h,.slice b l d] 25)) (.cells #[.int .i64 vx,.int .i64 vy] 27);have a0_3:=Ext.alloc (((w.alloc (.cells #[.int .i64 t.w,.int .i64 t.h,.slice a n c] 25)).alloc (.cells #[.int .i64 r.w,.int .i64 r.h,.slice b l d] 25)).alloc (.cells #[.int .i64 vx,.int .i64 vy] 27)) (.cells (ic (zl 71)) 32);have X0_0:=a0_3.blk (a0_2.blk (a0_1.blk (blk_new w (.cells #[.int .i64 t.w,.int .i64 t.h,.slice a n c] 25))));have a1_2:=Ext.alloc ((w.alloc (.cells #[.int .i64 t.w,.int .i64 t.h,.slice a n c] 25)).alloc (.cells #[.int .i64 r.w,.int .i64 r.h,.slice b l d] 25)) (.cells #[.int .i64 vx,.int .i64 vy] 27);have a1_3:=Ext.alloc (((w.alloc (.cells #[.int .i64 t.w,.int .i64 t.h,.slice a n c] 25)).alloc (.cells #[.int .i64 r.w,.int .i64 r.h,.slice b l d] 25)).alloc (.cells #[.int .i64 vx,.int .i64 vy] 27)) (.cells (ic (zl 71)) 32);have X1_0:=a1_3.blk (a1_2.blk (blk_new (w.alloc (.cells #[.int .i64 t.w,.int .i64 t.h,.slice a n c] 25)) (.cells #[.int .i64 r.w,.int .i64 r.h,.slice b l d] 25)));have a2_3:=Ext.alloc (((w.alloc (.cells #[.int .i64 t.w,.int .i64 t.h,.slice a n c] 25)).alloc (.cells #[.int .i64 r.w,.int .i64 r.h,.slice b l d] 25)).alloc (.cells #[.int .i64 vx,.int .i64 vy] 27)) (.cells (ic (zl 71)) 32);have X2_0:=a2_3.blk (blk_new ((w.alloc (.cells #[.int .i64 t.w,.int .i64 t.h,.slice a n c] 25)).alloc (.cells #[.int .i64 r.w,.int .i64 r.h,.slice b l d] 25)) (.cells #[.int .i64 vx,.int .i64 vy] 27));have X3_0:=IB.new (((w.alloc (.cells #[.int .i64 t.w,.int .i64 t.h,.slice a n c] 25)).alloc (.cells #[.int .i64 r.w,.int .i64 r.h,.slice b l d] 25)).alloc (.cells #[.int .i64 vx,.int .i64 vy] 27)) 32 (zl 71);have E_0:=(((Ext.alloc w (.cells #[.int .i64 t.w,.int .i64 t.h,.slice a n c] 25)).trans (Ext.alloc (w.alloc (.cells #[.int .i64 t.w,.int .i64 t.h,.slice a n c] 25)) (.cells #[.int .i64 r.w,.int .i64 r.h,.slice b l d] 25))).trans (Ext.alloc ((w.alloc (.cells #[.int .i64 t.w,.int .i64 t.h,.slice a n c] 25)).alloc (.cells #[.int .i64 r.w,.int .i64 r.h,.slice b l d] 25)) (.cells #[.int .i64 vx,.int .i64 vy] 27))).trans (Ext.alloc (((w.alloc (.cells #[.int .i64 t.w,.int .i64 t.h,.slice a n c] 25)).alloc (.cells #[.int .i64 r.w,.int .i64 r.h,.slice b l d] 25)).alloc (.cells #[.int .i64 vx,.int .i64 vy] 27)) (.cells (ic (zl 71)) 32));simp only[World.size_alloc]at X1_0 X2_0 X3_0;clear a0_1 a0_2 a0_3 a1_2 a1_3 a2_3 h0 h1 h2;obtain⟨-,k0_0,k0_1,k0_2,-⟩:=bx3 X0_0;obtain⟨-,k1_0,k1_1,k1_2,-⟩:=bx3 X1_0;obtain⟨-,k2_0,k2_1,-⟩:=bx2 X2_0;go_enter Tryz.func22,Tryz.ntmps22
 go_wp2_with (refine wpList_iallocz 32 rfl rfl 71 zeroq_M ?_;(try simp only[World.size_alloc]))
 refine(alike_at t r a b c d n l _ HN.out HL.out nc lc (s.ext E_0) (u.ext E_0)).mono ?_;rw[D0.out]
 rintro e w_1 ⟨rfl,e_1⟩
 have X0_1:=e_1.blk X0_0;have X1_1:=e_1.blk X1_0;have X2_1:=e_1.blk X2_0;have X3_1:=X3_0.ext e_1;have E_1:=E_0.trans e_1;clear k0_0 k0_1 k0_2 X0_0 k1_0 k1_1 k1_2 X1_0 k2_0 k2_1 X2_0 X3_0 E_0 e_1;obtain⟨-,k0_0,k0_1,k0_2,-⟩:=bx3 X0_1;obtain⟨-,k1_0,k1_1,k1_2,-⟩:=bx3 X1_1;obtain⟨-,k2_0,k2_1,-⟩:=bx2 X2_1;go_wp2_with fail
 refine(begins_any t x y a c n _).mono ?_;rw[D1.out]
 rintro e w_2 ⟨rfl,e_2⟩
 have X0_2:=e_2.blk X0_1;have X1_2:=e_2.blk X1_1;have X2_2:=e_2.blk X2_1;have X3_2:=X3_1.ext e_2;have E_2:=E_1.trans e_2;clear k0_0 k0_1 k0_2 X0_1 k1_0 k1_1 k1_2 X1_1 k2_0 k2_1 X2_1 X3_1 E_1 e_2;obtain⟨-,k0_0,k0_1,k0_2,-⟩:=bx3 X0_2;obtain⟨-,k1_0,k1_1,k1_2,-⟩:=bx3 X1_2;obtain⟨-,k2_0,k2_1,-⟩:=bx2 X2_2;go_wp2_with fail
 refine(impl_VectorValid_no vx vy _ V2.out).mono ?_
 rintro e w_3 ⟨rfl,e_3⟩
 have X0_3:=e_3.blk X0_2;have X1_3:=e_3.blk X1_2;have X2_3:=e_3.blk X2_2;have X3_3:=X3_2.ext e_3;have E_3:=E_2.trans e_3;clear k0_0 k0_1 k0_2 X0_2 k1_0 k1_1 k1_2 X1_2 k2_0 k2_1 X2_2 X3_2 E_2 e_3;obtain⟨-,k0_0,k0_1,k0_2,-⟩:=bx3 X0_3;obtain⟨-,k1_0,k1_1,k1_2,-⟩:=bx3 X1_3;obtain⟨-,k2_0,k2_1,-⟩:=bx2 X2_3;have hbz:=X3_3.lt;go_wp2_with (refine wpList_istore 32 _ _ rfl rfl X3_3 0 71 rfl _ rfl (zl 71) zeroc_M size_Macro (zl_len 71) (by simp[zl]) ?_;intro wf pf gf;refine Hid.out ?_)
 rw[spl_all (by rw[zl_len])]at pf;have Ef:Ext w wf:=Ext.grown E_3 gf (fun q hq=>by cases hq;omega);refine Lib.hid ?_;go_wp2;exact bodyPost_ret (v := .agg (ic (zl 71))) (results_cell_row rfl _ _ (w.heap.size+1+1+1) 32 (ic (zl 71)) (0,0) _ rfl pf Tryz.underlying32 rfl (by rw[ic_size,zl_len];exact size_Macro)) rfl ⟨rfl,Ef⟩
theorem impl_InterMacro_no_3 (t r:Pic) (x y vx vy q:Int) (a b:Option Addr) (c d n l:Nat) (w:World) (hn:n=t.px.length) (hl:l=r.px.length) (nc:n≤9223372036854775807) (lc:l≤9223372036854775807) (s:Sl w a n (t.px.map (Value.int .i64))) (u:Sl w b l (r.px.map (Value.int .i64))) (h0:alikeP t r) (h1:(0≤x)∧(x<t.w)∧(x%8=0)∧(0≤y)∧(y<t.h)∧(y%8=0)) (h2:vv vx vy) (h3 : ¬ (0≤q∧q≤15)) :
 Calls Tryz.prog 22 #[.agg #[.int .i64 t.w,.int .i64 t.h,.slice a n c],.agg #[.int .i64 r.w,.int .i64 r.h,.slice b l d],.int .i64 x,.int .i64 y,.agg #[.int .i64 vx,.int .i64 vy],.int .i64 q] w fun e w'=>e= .returned (.agg (ic (zl 71)))∧Ext w w':=by
 have HN:=Lib.hid hn;have HL:=Lib.hid hl;clear hn hl;have D0:=Lib.hid (show decide (alikeP t r)=true from decide_eq_true h0);have D1:=Lib.hid (show decide ((0≤x)∧(x<t.w)∧(x%8=0)∧(0≤y)∧(y<t.h)∧(y%8=0))=true from decide_eq_true h1);have V2:=Lib.hid h2;have Q3:=Lib.hid h3;have a0_1:=Ext.alloc (w.alloc (.cells #[.int .i64 t.w,.int .i64 t.h,.slice a n c] 25)) (.cells #[.int .i64 r.w,.int .i64 r.h,.slice b l d] 25);have a0_2:=Ext.alloc ((w.alloc (.cells #[.int .i64 t.w,.int .i64 t.h,.slice a n c] 25)).alloc (.cells #[.int .i64 r.w,.int .i64 r.h,.slice b l d] 25)) (.cells #[.int .i64 vx,.int .i64 vy] 27);have a0_3:=Ext.alloc (((w.alloc (.cells #[.int .i64 t.w,.int .i64 t.h,.slice a n c] 25)).alloc (.cells #[.int .i64 r.w,.int .i64 r.h,.slice b l d] 25)).alloc (.cells #[.int .i64 vx,.int .i64 vy] 27)) (.cells (ic (zl 71)) 32);have X0_0:=a0_3.blk (a0_2.blk (a0_1.blk (blk_new w (.cells #[.int .i64 t.w,.int .i64 t.h,.slice a n c] 25))));have a1_2:=Ext.alloc ((w.alloc (.cells #[.int .i64 t.w,.int .i64 t.h,.slice a n c] 25)).alloc (.cells #[.int .i64 r.w,.int .i64 r.h,.slice b l d] 25)) (.cells #[.int .i64 vx,.int .i64 vy] 27);have a1_3:=Ext.alloc (((w.alloc (.cells #[.int .i64 t.w,.int .i64 t.h,.slice a n c] 25)).alloc (.cells #[.int .i64 r.w,.int .i64 r.h,.slice b l d] 25)).alloc (.cells #[.int .i64 vx,.int .i64 vy] 27)) (.cells (ic (zl 71)) 32);have X1_0:=a1_3.blk (a1_2.blk (blk_new (w.alloc (.cells #[.int .i64 t.w,.int .i64 t.h,.slice a n c] 25)) (.cells #[.int .i64 r.w,.int .i64 r.h,.slice b l d] 25)));have a2_3:=Ext.alloc (((w.alloc (.cells #[.int .i64 t.w,.int .i64 t.h,.slice a n c] 25)).alloc (.cells #[.int .i64 r.w,.int .i64 r.h,.slice b l d] 25)).alloc (.cells #[.int .i64 vx,.int .i64 vy] 27)) (.cells (ic (zl 71)) 32);have X2_0:=a2_3.blk (blk_new ((w.alloc (.cells #[.int .i64 t.w,.int .i64 t.h,.slice a n c] 25)).alloc (.cells #[.int .i64 r.w,.int .i64 r.h,.slice b l d] 25)) (.cells #[.int .i64 vx,.int .i64 vy] 27));have X3_0:=IB.new (((w.alloc (.cells #[.int .i64 t.w,.int .i64 t.h,.slice a n c] 25)).alloc (.cells #[.int .i64 r.w,.int .i64 r.h,.slice b l d] 25)).alloc (.cells #[.int .i64 vx,.int .i64 vy] 27)) 32 (zl 71);have E_0:=(((Ext.alloc w (.cells #[.int .i64 t.w,.int .i64 t.h,.slice a n c] 25)).trans (Ext.alloc (w.alloc (.cells #[.int .i64 t.w,.int .i64 t.h,.slice a n c] 25)) (.cells #[.int .i64 r.w,.int .i64 r.h,.slice b l d] 25))).trans (Ext.alloc ((w.alloc (.cells #[.int .i64 t.w,.int .i64 t.h,.slice a n c] 25)).alloc (.cells #[.int .i64 r.w,.int .i64 r.h,.slice b l d] 25)) (.cells #[.int .i64 vx,.int .i64 vy] 27))).trans (Ext.alloc (((w.alloc (.cells #[.int .i64 t.w,.int .i64 t.h,.slice a n c] 25)).alloc (.cells #[.int .i64 r.w,.int .i64 r.h,.slice b l d] 25)).alloc (.cells #[.int .i64 vx,.int .i64 vy] 27)) (.cells (ic (zl 71)) 32));simp only[World.size_alloc]at X1_0 X2_0 X3_0;clear a0_1 a0_2 a0_3 a1_2 a1_3 a2_3 h0 h1 h2 h3;obtain⟨-,k0_0,k0_1,k0_2,-⟩:=bx3 X0_0;obtain⟨-,k1_0,k1_1,k1_2,-⟩:=bx3 X1_0;obtain⟨-,k2_0,k2_1,-⟩:=bx2 X2_0;go_enter Tryz.func22,Tryz.ntmps22
 go_wp2_with (refine wpList_iallocz 32 rfl rfl 71 zeroq_M ?_;(try simp only[World.size_alloc]))
 refine(alike_at t r a b c d n l _ HN.out HL.out nc lc (s.ext E_0) (u.ext E_0)).mono ?_;rw[D0.out]
 rintro e w_1 ⟨rfl,e_1⟩
 have X0_1:=e_1.blk X0_0;have X1_1:=e_1.blk X1_0;have X2_1:=e_1.blk X2_0;have X3_1:=X3_0.ext e_1;have E_1:=E_0.trans e_1;clear k0_0 k0_1 k0_2 X0_0 k1_0 k1_1 k1_2 X1_0 k2_0 k2_1 X2_0 X3_0 E_0 e_1;obtain⟨-,k0_0,k0_1,k0_2,-⟩:=bx3 X0_1;obtain⟨-,k1_0,k1_1,k1_2,-⟩:=bx3 X1_1;obtain⟨-,k2_0,k2_1,-⟩:=bx2 X2_1;go_wp2_with fail
 refine(begins_any t x y a c n _).mono ?_;rw[D1.out]
 rintro e w_2 ⟨rfl,e_2⟩
 have X0_2:=e_2.blk X0_1;have X1_2:=e_2.blk X1_1;have X2_2:=e_2.blk X2_1;have X3_2:=X3_1.ext e_2;have E_2:=E_1.trans e_2;clear k0_0 k0_1 k0_2 X0_1 k1_0 k1_1 k1_2 X1_1 k2_0 k2_1 X2_1 X3_1 E_1 e_2;obtain⟨-,k0_0,k0_1,k0_2,-⟩:=bx3 X0_2;obtain⟨-,k1_0,k1_1,k1_2,-⟩:=bx3 X1_2;obtain⟨-,k2_0,k2_1,-⟩:=bx2 X2_2;go_wp2_with fail
 refine(impl_VectorValid_yes vx vy _ V2.out).mono ?_
 rintro e w_3 ⟨rfl,e_3⟩
 have X0_3:=e_3.blk X0_2;have X1_3:=e_3.blk X1_2;have X2_3:=e_3.blk X2_2;have X3_3:=X3_2.ext e_3;have E_3:=E_2.trans e_3;clear k0_0 k0_1 k0_2 X0_2 k1_0 k1_1 k1_2 X1_2 k2_0 k2_1 X2_2 X3_2 E_2 e_3;obtain⟨-,k0_0,k0_1,k0_2,-⟩:=bx3 X0_3;obtain⟨-,k1_0,k1_1,k1_2,-⟩:=bx3 X1_3;obtain⟨-,k2_0,k2_1,-⟩:=bx2 X2_3;go_wp2_with fail
 refine(qV_out q _ Q3.out).mono ?_
 rintro e w_s3 ⟨rfl,rfl⟩
 have hbz:=X3_3.lt;go_wp2_with (refine wpList_istore 32 _ _ rfl rfl X3_3 0 71 rfl _ rfl (zl 71) zeroc_M size_Macro (zl_len 71) (by simp[zl]) ?_;intro wf pf gf;refine Hid.out ?_)
 rw[spl_all (by rw[zl_len])]at pf;have Ef:Ext w wf:=Ext.grown E_3 gf (fun q hq=>by cases hq;omega);refine Lib.hid ?_;go_wp2;exact bodyPost_ret (v := .agg (ic (zl 71))) (results_cell_row rfl _ _ (w.heap.size+1+1+1) 32 (ic (zl 71)) (0,0) _ rfl pf Tryz.underlying32 rfl (by rw[ic_size,zl_len];exact size_Macro)) rfl ⟨rfl,Ef⟩
theorem impl_InterMacro_yes_4 (t r:Pic) (x y:Nat) (vx vy:Int) (q:Nat) (a b:Option Addr) (c d n l:Nat) (w:World) (hT:TabQ w) (hn:n=t.px.length) (hl:l=r.px.length) (nc:n≤9223372036854775807) (lc:l≤9223372036854775807) (s:Sl w a n (t.px.map (Value.int .i64))) (u:Sl w b l (r.px.map (Value.int .i64))) (hrv:r.valid) (htv:t.valid) (hxx:x≤24) (hyy:y≤24) (hvv:vv vx vy) (hq:q<16) (h0:alikeP t r) (h1:(0≤(x:Int))∧((x:Int)<t.w)∧((x:Int)%8=0)∧(0≤(y:Int))∧((y:Int)<t.h)∧((y:Int)%8=0)) (h2:vv vx vy) (h3:0≤(q:Int)∧(q:Int)≤15) :
 Calls Tryz.prog 22 #[.agg #[.int .i64 t.w,.int .i64 t.h,.slice a n c],.agg #[.int .i64 r.w,.int .i64 r.h,.slice b l d],.int .i64 (x:Nat),.int .i64 (y:Nat),.agg #[.int .i64 vx,.int .i64 vy],.int .i64 (q:Nat)] w fun e w'=>e= .returned (.agg (ic (macI vx vy (intL t r x y vx vy q 4)).zs))∧Ext w w':=by
 have HN:=Lib.hid hn;have HL:=Lib.hid hl;clear hn hl;have D0:=Lib.hid (show decide (alikeP t r)=true from decide_eq_true h0);have D1:=Lib.hid (show decide ((0≤(x:Int))∧((x:Int)<t.w)∧((x:Int)%8=0)∧(0≤(y:Int))∧((y:Int)<t.h)∧((y:Int)%8=0))=true from decide_eq_true h1);have V2:=Lib.hid h2;have Q3:=Lib.hid h3;have a0_1:=Ext.alloc (w.alloc (.cells #[.int .i64 t.w,.int .i64 t.h,.slice a n c] 25)) (.cells #[.int .i64 r.w,.int .i64 r.h,.slice b l d] 25);have a0_2:=Ext.alloc ((w.alloc (.cells #[.int .i64 t.w,.int .i64 t.h,.slice a n c] 25)).alloc (.cells #[.int .i64 r.w,.int .i64 r.h,.slice b l d] 25)) (.cells #[.int .i64 vx,.int .i64 vy] 27);have a0_3:=Ext.alloc (((w.alloc (.cells #[.int .i64 t.w,.int .i64 t.h,.slice a n c] 25)).alloc (.cells #[.int .i64 r.w,.int .i64 r.h,.slice b l d] 25)).alloc (.cells #[.int .i64 vx,.int .i64 vy] 27)) (.cells (ic (zl 71)) 32);have X0_0:=a0_3.blk (a0_2.blk (a0_1.blk (blk_new w (.cells #[.int .i64 t.w,.int .i64 t.h,.slice a n c] 25))));have a1_2:=Ext.alloc ((w.alloc (.cells #[.int .i64 t.w,.int .i64 t.h,.slice a n c] 25)).alloc (.cells #[.int .i64 r.w,.int .i64 r.h,.slice b l d] 25)) (.cells #[.int .i64 vx,.int .i64 vy] 27);have a1_3:=Ext.alloc (((w.alloc (.cells #[.int .i64 t.w,.int .i64 t.h,.slice a n c] 25)).alloc (.cells #[.int .i64 r.w,.int .i64 r.h,.slice b l d] 25)).alloc (.cells #[.int .i64 vx,.int .i64 vy] 27)) (.cells (ic (zl 71)) 32);have X1_0:=a1_3.blk (a1_2.blk (blk_new (w.alloc (.cells #[.int .i64 t.w,.int .i64 t.h,.slice a n c] 25)) (.cells #[.int .i64 r.w,.int .i64 r.h,.slice b l d] 25)));have a2_3:=Ext.alloc (((w.alloc (.cells #[.int .i64 t.w,.int .i64 t.h,.slice a n c] 25)).alloc (.cells #[.int .i64 r.w,.int .i64 r.h,.slice b l d] 25)).alloc (.cells #[.int .i64 vx,.int .i64 vy] 27)) (.cells (ic (zl 71)) 32);have X2_0:=a2_3.blk (blk_new ((w.alloc (.cells #[.int .i64 t.w,.int .i64 t.h,.slice a n c] 25)).alloc (.cells #[.int .i64 r.w,.int .i64 r.h,.slice b l d] 25)) (.cells #[.int .i64 vx,.int .i64 vy] 27));have X3_0:=IB.new (((w.alloc (.cells #[.int .i64 t.w,.int .i64 t.h,.slice a n c] 25)).alloc (.cells #[.int .i64 r.w,.int .i64 r.h,.slice b l d] 25)).alloc (.cells #[.int .i64 vx,.int .i64 vy] 27)) 32 (zl 71);have E_0:=(((Ext.alloc w (.cells #[.int .i64 t.w,.int .i64 t.h,.slice a n c] 25)).trans (Ext.alloc (w.alloc (.cells #[.int .i64 t.w,.int .i64 t.h,.slice a n c] 25)) (.cells #[.int .i64 r.w,.int .i64 r.h,.slice b l d] 25))).trans (Ext.alloc ((w.alloc (.cells #[.int .i64 t.w,.int .i64 t.h,.slice a n c] 25)).alloc (.cells #[.int .i64 r.w,.int .i64 r.h,.slice b l d] 25)) (.cells #[.int .i64 vx,.int .i64 vy] 27))).trans (Ext.alloc (((w.alloc (.cells #[.int .i64 t.w,.int .i64 t.h,.slice a n c] 25)).alloc (.cells #[.int .i64 r.w,.int .i64 r.h,.slice b l d] 25)).alloc (.cells #[.int .i64 vx,.int .i64 vy] 27)) (.cells (ic (zl 71)) 32));simp only[World.size_alloc]at X1_0 X2_0 X3_0;clear a0_1 a0_2 a0_3 a1_2 a1_3 a2_3 h0 h1 h2 h3;obtain⟨-,k0_0,k0_1,k0_2,-⟩:=bx3 X0_0;obtain⟨-,k1_0,k1_1,k1_2,-⟩:=bx3 X1_0;obtain⟨-,k2_0,k2_1,-⟩:=bx2 X2_0;go_enter Tryz.func22,Tryz.ntmps22
 go_wp2_with (refine wpList_iallocz 32 rfl rfl 71 zeroq_M ?_;(try simp only[World.size_alloc]))
 refine(alike_at t r a b c d n l _ HN.out HL.out nc lc (s.ext E_0) (u.ext E_0)).mono ?_;rw[D0.out]
 rintro e w_1 ⟨rfl,e_1⟩
 have X0_1:=e_1.blk X0_0;have X1_1:=e_1.blk X1_0;have X2_1:=e_1.blk X2_0;have X3_1:=X3_0.ext e_1;have E_1:=E_0.trans e_1;clear k0_0 k0_1 k0_2 X0_0 k1_0 k1_1 k1_2 X1_0 k2_0 k2_1 X2_0 X3_0 E_0 e_1;obtain⟨-,k0_0,k0_1,k0_2,-⟩:=bx3 X0_1;obtain⟨-,k1_0,k1_1,k1_2,-⟩:=bx3 X1_1;obtain⟨-,k2_0,k2_1,-⟩:=bx2 X2_1;go_wp2_with fail
 refine(begins_any t x y a c n _).mono ?_;rw[D1.out]
 rintro e w_2 ⟨rfl,e_2⟩
 have X0_2:=e_2.blk X0_1;have X1_2:=e_2.blk X1_1;have X2_2:=e_2.blk X2_1;have X3_2:=X3_1.ext e_2;have E_2:=E_1.trans e_2;clear k0_0 k0_1 k0_2 X0_1 k1_0 k1_1 k1_2 X1_1 k2_0 k2_1 X2_1 X3_1 E_1 e_2;obtain⟨-,k0_0,k0_1,k0_2,-⟩:=bx3 X0_2;obtain⟨-,k1_0,k1_1,k1_2,-⟩:=bx3 X1_2;obtain⟨-,k2_0,k2_1,-⟩:=bx2 X2_2;go_wp2_with fail
 refine(impl_VectorValid_yes vx vy _ V2.out).mono ?_
 rintro e w_3 ⟨rfl,e_3⟩
 have X0_3:=e_3.blk X0_2;have X1_3:=e_3.blk X1_2;have X2_3:=e_3.blk X2_2;have X3_3:=X3_2.ext e_3;have E_3:=E_2.trans e_3;clear k0_0 k0_1 k0_2 X0_2 k1_0 k1_1 k1_2 X1_2 k2_0 k2_1 X2_2 X3_2 E_2 e_3;obtain⟨-,k0_0,k0_1,k0_2,-⟩:=bx3 X0_3;obtain⟨-,k1_0,k1_1,k1_2,-⟩:=bx3 X1_3;obtain⟨-,k2_0,k2_1,-⟩:=bx2 X2_3;go_wp2_with fail
 refine(qV_in q _ Q3.out).mono ?_
 rintro e w_s3 ⟨rfl,rfl⟩
 have hlo:=X3_3.lt;obtain⟨B,hB⟩:∃ B,B=w.heap.size:=⟨_,rfl⟩;rw[←hB]at X0_3 X1_3 X2_3 X3_3 hlo⊢;have hwB:w.heap.size≤B:=by omega
 have HB:=Lib.hid hB;clear hB k2_0 k2_1;obtain⟨-,k2_0,k2_1,-⟩:=bx2 X2_3;have ia:=IB.new w_3 32 (zl 71);have ea:=Ext.alloc w_3 (.cells (ic (zl 71)) 32);have Y0:=ea.blk X0_3;have Y1:=ea.blk X1_3;have Y2:=ea.blk X2_3;have Y3:=X3_3.ext ea;have F0:=E_3.trans ea;clear X0_3 X1_3 X2_3 X3_3 E_3 ea k0_0 k0_1 k0_2 k1_0 k1_1 k1_2;obtain⟨O,hO⟩:∃ O,O=w_3.heap.size:=⟨_,rfl⟩;go_wp2_with (first|(refine wpList_iallocz 32 rfl rfl 71 zeroq_M ?_;(try simp only[World.size_alloc]))|(refine wpList_istore 32 _ _ rfl rfl ia 0 71 rfl _ rfl (macI vx vy (zl 64)).zs (by exact macI_build vx vy) size_Macro (Mac.zs_len (macI_ok vx vy (zl_len 64))) (by simp[zl]) ?_;intro w5 i5 g5;refine Hid.out ?_))
 rw[spl_all (by rw[Mac.zs_len (macI_ok vx vy (zl_len 64)),zl_len])]at i5;rw[←hO]at i5 g5 hlo⊢;have HO:=Lib.hid hO;clear hO ia;have Z0:=blk_gr Y0 g5 (by simp;omega);have Z1:=blk_gr Y1 g5 (by simp;omega);have Z2:=blk_gr Y2 g5 (by simp;omega);have Z3:=Y3.gr g5 (by simp;omega);have F1:Ext w w5:=Ext.grown F0 g5 (fun k e=>by cases e;omega);clear Y0 Y1 Y2 Y3 F0 g5 k2_0 k2_1;refine Lib.hid ?_;obtain⟨-,k1,k2,k3,-⟩:=bx3 Z1;obtain⟨-,k4,k5,-⟩:=bx2 Z2;go_wp2_with fail
 refine(moved_any r x y vx vy b d l _ hrv HL.out (u.ext F1) (by omega) (by omega) (by omega) (by omega) hvv.1 hvv.2.1 hvv.2.2.1 hvv.2.2.2).mono ?_
 rintro e w6 ⟨a6,c6,rfl,o6,e6⟩
 have hO5:=i5.lt;have S6ne:∀ z,a6=some z→z.block≠O:=fun z hz=>by have:=(o6.lt z.block (by rw[hz];rfl)).1;omega
 have hBO:B+1+1+1<O:=hlo;have S6:=Sl.of_owns o6;have G0:=e6.blk Z0;have G3:=Z3.ext e6;have j6:=i5.ext e6;have F2:=F1.trans e6;clear Z0 Z1 Z2 Z3 F1 i5 e6 o6 k1 k2 k3 k4 k5 hvv hlo;go_wp2_with fail
 go_loopw [47] (fun i wr=>∃ k:Nat,k≤4∧i= .int .i64 k∧Ext w wr∧Hid (wr.heap[B]?=some (.cells #[.int .i64 t.w,.int .i64 t.h,.slice a n c] 25 (0,0)))∧IB wr (B+1+1+1) 32 (zl 71)∧IB wr O 32 (macI vx vy (intL t r x y vx vy q k)).zs∧Hid (Sl wr a6 64 ((blkL r x y vx vy).map (Value.int .i64)))) (fun i _=>4-(intOf i).toNat)
 case atStart=>exact⟨0,by omega,rfl,F2,Lib.hid G0,G3,j6,Lib.hid S6⟩
 case round =>
  obtain⟨k,hk,rfl,F3,H0,H3,jk,Sk⟩:=hrel;clear F2 G0 G3 j6 S6;have hLl:=intL_len t r x y vx vy q hk;have Hzl:=Lib.hid (Mac.zs_len (macI_ok vx vy hLl))
  by_cases hlt:k<4
  ·have hd:decide ((k:Int)<4)=true:=by simp;omega
   have hst:=Mac.spl_lv (macI_ok vx vy hLl) (k*16) (cod (dif (prt t ((x+k%2*4:Nat):Int) ((y+k/2*4:Nat):Int)) (pof (blkL r x y vx vy) (k%2*4) (k/2*4))) q);have Hst:=Lib.hid (show spl (macI vx vy (intL t r x y vx vy q k)).zs (7+k*16) (cod (dif (prt t ((x+k%2*4:Nat):Int) ((y+k/2*4:Nat):Int)) (pof (blkL r x y vx vy) (k%2*4) (k/2*4))) q)=(macI vx vy (intL t r x y vx vy q (k+1))).zs from hst);have hxi:(x:Int)+(k:Int)%2*4=((x+k%2*4:Nat):Int):=by omega
   have hyj:(y:Int)+(k:Int)/2*4=((y+k/2*4:Nat):Int):=by omega
   obtain⟨xi,hxie⟩:∃ v,v=x+k%2*4:=⟨_,rfl⟩;obtain⟨yj,hyje⟩:∃ v,v=y+k/2*4:=⟨_,rfl⟩;rw[←hxie]at hxi Hst;rw[←hyje]at hyj Hst;have hxb:xi≤100:=by omega
   have hyb:yj≤100:=by omega
   have Hxi:=Lib.hid hxi;have Hyj:=Lib.hid hyj;clear hst hxi hyj hxie hyje hLl;obtain⟨-,k1,k2,k3,-⟩:=bx3 H0.out;go_wp2_with fail
   refine(partAt_any k _ hlt).mono ?_
   rintro e wx1 ⟨rfl,rfl⟩
   go_wp2_with fail
   rw[Hxi.out,Hyj.out];refine(part_any t (xi:Int) (yj:Int) a c n _ htv HN.out (s.ext F3) (by omega) (by omega) (by omega) (by omega)).mono ?_
   rintro e w7 ⟨rfl,e7⟩
   have F4:=F3.trans e7;have L0:=e7.blk H0.out;have L3:=H3.ext e7;have jl:=jk.ext e7;have Sl7:=Sk.out.ext e7;clear F3 H0 H3 jk Sk e7 k1 k2 k3;go_wp2_with fail
   refine(partOf_any (blkL r x y vx vy) (k%2*4) (k/2*4) (by omega) (by omega) a6 c6 _ Sl7).mono ?_
   rintro e w8 ⟨rfl,e8⟩
   have F5:=F4.trans e8;have M0:=e8.blk L0;have M3:=L3.ext e8;have jm:=jl.ext e8;have Sl8:=Sl7.ext e8;clear F4 L0 L3 jl Sl7 e8;have hsp:=prt_smp htv (xi:Int) (yj:Int);have hsq:=pof_smp (blkL_smp hrv x y vx vy) (blkL_len r x y vx vy) (i:=k%2*4) (j:=k/2*4) (by omega) (by omega);have hl1:=prt_len t (xi:Int) (yj:Int);have hl2:=pof_len (blkL r x y vx vy) (k%2*4) (k/2*4);obtain⟨U,hU⟩:∃ U,U=prt t (xi:Int) (yj:Int):=⟨_,rfl⟩;obtain⟨V,hV⟩:∃ V,V=pof (blkL r x y vx vy) (k%2*4) (k/2*4):=⟨_,rfl⟩;rw[←hU]at hsp hl1 Hst⊢;rw[←hV]at hsq hl2 Hst⊢;have Hsp:=Lib.hid hsp;have Hsq:=Lib.hid hsq;have Hl1:=Lib.hid hl1;have Hl2:=Lib.hid hl2;clear hU hV hsp hsq hl1 hl2;go_wp2_with fail
   refine(difference_any U V _ Hl1.out Hl2.out (smp_bd Hsp.out) (smp_bd Hsq.out)).mono ?_
   rintro e w9 ⟨rfl,e9⟩
   have F6:=F5.trans e9;have N0:=e9.blk M0;have N3:=M3.ext e9;have jn:=jm.ext e9;have Sl9:=Sl8.ext e9;clear F5 M0 M3 jm Sl8 e9;go_wp2_with fail
   refine(impl_CodeBlock_any (dif U V) q _ (hT.ext F6) (dif_len _ _) (dif_rng Hsp.out Hsq.out Hl1.out Hl2.out) hq).mono ?_
   rintro e wa ⟨rfl,ea⟩
   have F7:=F6.trans ea;have P0:=ea.blk N0;have P3:=N3.ext ea;have jp:=jn.ext ea;have Sla:=Sl9.ext ea;clear F6 N0 N3 jn Sl9 ea;have Hcl:=Lib.hid (cod_len (dif U V) q);go_wp2_with (refine wpList_istore 29 _ _ rfl rfl jp (7+k*16) 16 rfl _ rfl (cod (dif U V) q) rfl size_A16 Hcl.out (by rw[Hzl.out];omega) ?_;intro wb jb gb;refine Hid.out ?_)
   rw[Hst.out]at jb;have hOB:B+1+1+1<O:=hBO;have F8:Ext w wb:=Ext.grown F7 gb (fun q hq=>by cases hq;omega);have R0:=blk_gr P0 gb (by simp;omega);have R3:=P3.gr gb (by simp;omega);have Slb:=Sla.grown gb (fun z hz=>by have:=S6ne z hz;intro e;exact this (by simpa using e));clear F7 P0 P3 jp Sla gb;refine Lib.hid ?_;go_wp2;go_roundw
   case rel=>exact⟨k+1,by omega,by go_num,F8,Lib.hid R0,R3,jb,Lib.hid Slb⟩
   case measure=>simp[intOf];omega
  ·obtain rfl:k=4:=by omega
   go_wp2_with (first|(refine wpList_iload 32 _ rfl rfl jk 0 71 rfl _ Tryz.underlying32 rfl size_Macro (by rw[Hzl.out];omega) _ (by rw[sub_all _ _ (Hzl.out)]) ?_)|(refine wpList_istore 32 _ _ rfl rfl H3 0 71 rfl _ rfl (macI vx vy (intL t r x y vx vy q 4)).zs rfl size_Macro (Hzl.out) (by simp[zl]) ?_;intro w6 p6 g6;refine Hid.out ?_))
   rw[spl_all (by rw[Hzl.out,zl_len])]at p6;have E6:Ext w w6:=Ext.grown F3 g6 (fun q hq=>by cases hq;omega);refine Lib.hid ?_;go_wp2;exact bodyPost_ret (v := .agg (ic (macI vx vy (intL t r x y vx vy q 4)).zs)) (results_cell_row rfl _ _ (B+1+1+1) 32 (ic (macI vx vy (intL t r x y vx vy q 4)).zs) (0,0) _ rfl p6 Tryz.underlying32 rfl (by rw[ic_size,Hzl.out];exact size_Macro)) rfl ⟨rfl,E6⟩
theorem impl_InterMacro_any (t r:Pic) (x y vx vy q:Int) (a b:Option Addr) (c d n l:Nat) (w:World) (hT:TabQ w) (hn:n=t.px.length) (hl:l=r.px.length) (nc:n≤9223372036854775807) (lc:l≤9223372036854775807) (s:Sl w a n (t.px.map (Value.int .i64))) (u:Sl w b l (r.px.map (Value.int .i64))) :
 Calls Tryz.prog 22 #[.agg #[.int .i64 t.w,.int .i64 t.h,.slice a n c],.agg #[.int .i64 r.w,.int .i64 r.h,.slice b l d],.int .i64 x,.int .i64 y,.agg #[.int .i64 vx,.int .i64 vy],.int .i64 q] w fun e w'=>e= .returned (.agg (ic (interP t r x y vx vy q).zs))∧Ext w w':=by
 by_cases h0:alikeP t r
 ·by_cases h1:(0≤x)∧(x<t.w)∧(x%8=0)∧(0≤y)∧(y<t.h)∧(y%8=0)
  ·by_cases h2:vv vx vy
   ·by_cases h3:0≤q∧q≤15
    ·have ho:okI t r x y vx vy q:=⟨h0,⟨h0.1,h1⟩,h2,h3⟩;rw[interP_yes ho];have hx:=h1.2.2.1;have hw:=h0.1.1;have hh:=h0.1.2.1;have h:=impl_InterMacro_yes_4 t r x.toNat y.toNat vx vy q.toNat a b c d n l w hT hn hl nc lc s u h0.2.1 h0.1 (by have:=hw.2.1;omega) (by have:=hh.2.1;omega) h2 (by omega) h0 (by rw[show((x.toNat:Nat):Int)=x by omega,show((y.toNat:Nat):Int)=y by omega];exact h1) h2 (by omega);rw[show((x.toNat:Nat):Int)=x by omega,show((y.toNat:Nat):Int)=y by omega,show((q.toNat:Nat):Int)=q by omega]at h;exact h
    ·rw[interP_no (fun h=>h3 h.2.2.2),mac0_zz];exact impl_InterMacro_no_3 t r x y vx vy q a b c d n l w hn hl nc lc s u h0 h1 h2 h3
   ·rw[interP_no (fun h=>h2 h.2.2.1),mac0_zz];exact impl_InterMacro_no_2 t r x y vx vy q a b c d n l w hn hl nc lc s u h0 h1 h2
  ·rw[interP_no (fun h=>h1 h.2.1.2),mac0_zz];exact impl_InterMacro_no_1 t r x y vx vy q a b c d n l w hn hl nc lc s u h0 h1
 ·rw[interP_no (fun h=>h0 h.1),mac0_zz];exact impl_InterMacro_no_0 t r x y vx vy q a b c d n l w hn hl nc lc s u h0
theorem l8Inter_yes (t r:Pic) (x y:Nat) (vx vy:Int) (q:Nat) (a b:Option Addr) (c d n l:Nat) (w:World) (hn:n=t.px.length) (hl:l=r.px.length) (nc:n≤9223372036854775807) (lc:l≤9223372036854775807) (s:Sl w a n (t.px.map (Value.int .i64))) (u:Sl w b l (r.px.map (Value.int .i64))) (hrv:r.valid) (htv:t.valid) (hxx:x≤24) (hyy:y≤24) (hvv:vv vx vy) (hq:q<16) :
 Calls Tryz.prog 110 #[.agg #[.int .i64 t.w,.int .i64 t.h,.slice a n c],.agg #[.int .i64 r.w,.int .i64 r.h,.slice b l d],.int .i64 (x:Nat),.int .i64 (y:Nat),.agg #[.int .i64 vx,.int .i64 vy],.int .i64 (q:Nat)] w fun e w'=>e= .returned (.agg (ic (macI vx vy (intL t r x y vx vy q 4)).zs))∧Ext w w':=by
 have HN:=Lib.hid hn;have HL:=Lib.hid hl;have hvv0:=hvv;clear hn hl;have a0_1:=Ext.alloc (w.alloc (.cells #[.int .i64 t.w,.int .i64 t.h,.slice a n c] 25)) (.cells #[.int .i64 r.w,.int .i64 r.h,.slice b l d] 25);have a0_2:=Ext.alloc ((w.alloc (.cells #[.int .i64 t.w,.int .i64 t.h,.slice a n c] 25)).alloc (.cells #[.int .i64 r.w,.int .i64 r.h,.slice b l d] 25)) (.cells #[.int .i64 vx,.int .i64 vy] 27);have a0_3:=Ext.alloc (((w.alloc (.cells #[.int .i64 t.w,.int .i64 t.h,.slice a n c] 25)).alloc (.cells #[.int .i64 r.w,.int .i64 r.h,.slice b l d] 25)).alloc (.cells #[.int .i64 vx,.int .i64 vy] 27)) (.cells (ic (zl 71)) 32);have X0_0:=a0_3.blk (a0_2.blk (a0_1.blk (blk_new w (.cells #[.int .i64 t.w,.int .i64 t.h,.slice a n c] 25))));have a1_2:=Ext.alloc ((w.alloc (.cells #[.int .i64 t.w,.int .i64 t.h,.slice a n c] 25)).alloc (.cells #[.int .i64 r.w,.int .i64 r.h,.slice b l d] 25)) (.cells #[.int .i64 vx,.int .i64 vy] 27);have a1_3:=Ext.alloc (((w.alloc (.cells #[.int .i64 t.w,.int .i64 t.h,.slice a n c] 25)).alloc (.cells #[.int .i64 r.w,.int .i64 r.h,.slice b l d] 25)).alloc (.cells #[.int .i64 vx,.int .i64 vy] 27)) (.cells (ic (zl 71)) 32);have X1_0:=a1_3.blk (a1_2.blk (blk_new (w.alloc (.cells #[.int .i64 t.w,.int .i64 t.h,.slice a n c] 25)) (.cells #[.int .i64 r.w,.int .i64 r.h,.slice b l d] 25)));have a2_3:=Ext.alloc (((w.alloc (.cells #[.int .i64 t.w,.int .i64 t.h,.slice a n c] 25)).alloc (.cells #[.int .i64 r.w,.int .i64 r.h,.slice b l d] 25)).alloc (.cells #[.int .i64 vx,.int .i64 vy] 27)) (.cells (ic (zl 71)) 32);have X2_0:=a2_3.blk (blk_new ((w.alloc (.cells #[.int .i64 t.w,.int .i64 t.h,.slice a n c] 25)).alloc (.cells #[.int .i64 r.w,.int .i64 r.h,.slice b l d] 25)) (.cells #[.int .i64 vx,.int .i64 vy] 27));have X3_0:=IB.new (((w.alloc (.cells #[.int .i64 t.w,.int .i64 t.h,.slice a n c] 25)).alloc (.cells #[.int .i64 r.w,.int .i64 r.h,.slice b l d] 25)).alloc (.cells #[.int .i64 vx,.int .i64 vy] 27)) 32 (zl 71);have E_0:=(((Ext.alloc w (.cells #[.int .i64 t.w,.int .i64 t.h,.slice a n c] 25)).trans (Ext.alloc (w.alloc (.cells #[.int .i64 t.w,.int .i64 t.h,.slice a n c] 25)) (.cells #[.int .i64 r.w,.int .i64 r.h,.slice b l d] 25))).trans (Ext.alloc ((w.alloc (.cells #[.int .i64 t.w,.int .i64 t.h,.slice a n c] 25)).alloc (.cells #[.int .i64 r.w,.int .i64 r.h,.slice b l d] 25)) (.cells #[.int .i64 vx,.int .i64 vy] 27))).trans (Ext.alloc (((w.alloc (.cells #[.int .i64 t.w,.int .i64 t.h,.slice a n c] 25)).alloc (.cells #[.int .i64 r.w,.int .i64 r.h,.slice b l d] 25)).alloc (.cells #[.int .i64 vx,.int .i64 vy] 27)) (.cells (ic (zl 71)) 32));simp only[World.size_alloc]at X1_0 X2_0 X3_0;clear a0_1 a0_2 a0_3 a1_2 a1_3 a2_3;obtain⟨B,hB⟩:∃ B,B=w.heap.size:=⟨_,rfl⟩;have ia:=IB.new ((((w.alloc (.cells #[.int .i64 t.w,.int .i64 t.h,.slice a n c] 25)).alloc (.cells #[.int .i64 r.w,.int .i64 r.h,.slice b l d] 25)).alloc (.cells #[.int .i64 vx,.int .i64 vy] 27)).alloc (.cells (ic (zl 71)) 32)) 32 (zl 71);have ea:=Ext.alloc ((((w.alloc (.cells #[.int .i64 t.w,.int .i64 t.h,.slice a n c] 25)).alloc (.cells #[.int .i64 r.w,.int .i64 r.h,.slice b l d] 25)).alloc (.cells #[.int .i64 vx,.int .i64 vy] 27)).alloc (.cells (ic (zl 71)) 32)) (.cells (ic (zl 71)) 32);have Y0:=ea.blk X0_0;have Y1:=ea.blk X1_0;have Y2:=ea.blk X2_0;have Y3:=X3_0.ext ea;have F0:=E_0.trans ea;simp only[World.size_alloc]at ia;clear X1_0 X3_0 E_0 ea X0_0;obtain⟨-,k2_0,k2_1,-⟩:=bx2 X2_0;clear X2_0;go_enter Tryz.func110,Tryz.ntmps110
 go_wp2_with (first|(refine wpList_iallocz 32 rfl rfl 71 zeroq_M ?_;(try simp only[World.size_alloc]))|(refine wpList_istore 32 _ _ rfl rfl ia 0 71 rfl _ rfl (macI vx vy (zl 64)).zs (by exact macI_build vx vy) size_Macro (Mac.zs_len (macI_ok vx vy (zl_len 64))) (by simp[zl]) ?_;intro w5 i5 g5;refine Hid.out ?_))
 rw[spl_all (by rw[Mac.zs_len (macI_ok vx vy (zl_len 64)),zl_len])]at i5;try simp only[World.size_alloc]
 rw[←hB]at i5 g5 Y0 Y1 Y2 Y3⊢;have hwB:w.heap.size≤B:=by omega
 have HB:=Lib.hid hB;clear hB ia k2_0 k2_1;obtain⟨O,hO⟩:∃ O,O=B+1+1+1+1:=⟨_,rfl⟩;rw[←hO]at i5 g5⊢;have hBO:B+1+1+1<O:=by omega
 have HO:=Lib.hid hO;clear hO;have Z0:=blk_gr Y0 g5 (by simp;omega);have Z1:=blk_gr Y1 g5 (by simp;omega);have Z2:=blk_gr Y2 g5 (by simp;omega);have Z3:=Y3.gr g5 (by simp;omega);have F1:Ext w w5:=Ext.grown F0 g5 (fun k e=>by cases e;omega);clear Y0 Y1 Y2 Y3 F0 g5;refine Lib.hid ?_;obtain⟨-,k1,k2,k3,-⟩:=bx3 Z0;go_wp2_with fail
 refine(l7Block_any t x y 0 0 a c n _ htv HN.out (s.ext F1) (by omega) (by omega) (by omega) (by omega) (by omega) (by omega) (by omega) (by omega)).mono ?_
 rintro e w4 ⟨a4,c4,rfl,o4,e4⟩
 have hO4:=i5.lt;have S4ne:∀ z,a4=some z→z.block≠O:=fun z hz=>by have:=(o4.lt z.block (by rw[hz];rfl)).1;omega
 have S4:=Sl.of_owns o4;have G0:=e4.blk Z0;have G1:=e4.blk Z1;have G2:=e4.blk Z2;have G3:=Z3.ext e4;have j5:=i5.ext e4;have F2:=F1.trans e4;clear Z0 Z1 Z2 Z3 F1 i5 e4 o4 k1 k2 k3;obtain⟨-,k1,k2,k3,-⟩:=bx3 G1;obtain⟨-,k4,k5,-⟩:=bx2 G2;go_wp2_with fail
 refine(l7Block_any r x y vx vy b d l _ hrv HL.out (u.ext F2) (by omega) (by omega) (by omega) (by omega) hvv.1 hvv.2.1 hvv.2.2.1 hvv.2.2.2).mono ?_
 rintro e w6 ⟨a6,c6,rfl,o6,e6⟩
 have hO5:=j5.lt;have S6ne:∀ z,a6=some z→z.block≠O:=fun z hz=>by have:=(o6.lt z.block (by rw[hz];rfl)).1;omega
 have S6:=Sl.of_owns o6;have S5:=S4.ext e6;have H3':=G3.ext e6;have j6:=j5.ext e6;have F2':=F2.trans e6;clear G0 G1 G2 G3 F2 j5 e6 o6 k1 k2 k3 k4 k5 S4 hvv;go_wp2_with fail
 go_loopw [16] (fun i wr=>∃ k:Nat,k≤4∧i= .int .i64 k∧Ext w wr∧IB wr (B+1+1+1) 32 (zl 71)∧IB wr O 32 (macI vx vy (intL t r x y vx vy q k)).zs∧Hid (Sl wr a6 64 ((blkL r x y vx vy).map (Value.int .i64)))∧Hid (Sl wr a4 64 ((blkL t x y 0 0).map (Value.int .i64)))) (fun i _=>4-(intOf i).toNat)
 case atStart=>exact⟨0,by omega,rfl,F2',H3',j6,Lib.hid S6,Lib.hid S5⟩
 case round =>
  obtain⟨k,hk,rfl,F3,H3,jk,Sk,Tk⟩:=hrel;clear F2' H3' j6 S6 S5;have hLl:=intL_len t r x y vx vy q hk;have Hzl:=Lib.hid (Mac.zs_len (macI_ok vx vy hLl))
  by_cases hlt:k<4
  ·have hd:decide ((k:Int)<4)=true:=by simp;omega
   have hst:=Mac.spl_lv (macI_ok vx vy hLl) (k*16) (cod (dif (prt t ((x+k%2*4:Nat):Int) ((y+k/2*4:Nat):Int)) (pof (blkL r x y vx vy) (k%2*4) (k/2*4))) q);have Hst:=Lib.hid (show spl (macI vx vy (intL t r x y vx vy q k)).zs (7+k*16) (cod (dif (prt t ((x+k%2*4:Nat):Int) ((y+k/2*4:Nat):Int)) (pof (blkL r x y vx vy) (k%2*4) (k/2*4))) q)=(macI vx vy (intL t r x y vx vy q (k+1))).zs from hst);have hpb:=pof_blk t (x:Int) (y:Int) (i:=k%2*4) (j:=k/2*4) (by omega) (by omega);rw[←Int.natCast_add,←Int.natCast_add]at hpb;have Hpb:=Lib.hid hpb;clear hst hLl hpb;go_wp2_with fail
   refine(l8Part_any (blkL t x y 0 0) k hlt a4 c4 _ (Tk.out.ext (Below.refl _ _))).mono ?_
   rintro e w7 ⟨rfl,e7⟩
   rw[Hpb.out];have hsp:=prt_smp htv ((x+k%2*4:Nat):Int) ((y+k/2*4:Nat):Int);have hl1:=prt_len t ((x+k%2*4:Nat):Int) ((y+k/2*4:Nat):Int);obtain⟨U,hU⟩:∃ U,U=prt t ((x+k%2*4:Nat):Int) ((y+k/2*4:Nat):Int):=⟨_,rfl⟩;rw[←hU]at hsp hl1 Hst Hpb⊢;have Hsp:=Lib.hid hsp;have Hl1:=Lib.hid hl1;clear hU hsp hl1;have F4:=F3.trans e7;have L3:=H3.ext e7;have jl:=jk.ext e7;have Sl7:=Sk.out.ext e7;have Tl7:=Tk.out.ext e7;clear F3 H3 jk Sk Tk e7;go_wp2_with fail
   refine(l8Part_any (blkL r x y vx vy) k hlt a6 c6 _ Sl7).mono ?_
   rintro e w8 ⟨rfl,e8⟩
   have F5:=F4.trans e8;have M3:=L3.ext e8;have jm:=jl.ext e8;have Sl8:=Sl7.ext e8;have Tl8:=Tl7.ext e8;clear F4 L3 jl Sl7 Tl7 e8;have hsq:=pof_smp (blkL_smp hrv x y vx vy) (blkL_len r x y vx vy) (i:=k%2*4) (j:=k/2*4) (by omega) (by omega);have hl2:=pof_len (blkL r x y vx vy) (k%2*4) (k/2*4);obtain⟨V,hV⟩:∃ V,V=pof (blkL r x y vx vy) (k%2*4) (k/2*4):=⟨_,rfl⟩;rw[←hV]at hsq hl2 Hst⊢;have Hsq:=Lib.hid hsq;have Hl2:=Lib.hid hl2;clear hV hsq hl2;go_wp2_with fail
   refine(l8Minus_any U V _ Hl1.out Hl2.out (smp_bd Hsp.out) (smp_bd Hsq.out)).mono ?_
   rintro e w9 ⟨rfl,e9⟩
   have F6:=F5.trans e9;have N3:=M3.ext e9;have jn:=jm.ext e9;have Sl9:=Sl8.ext e9;have Tl9:=Tl8.ext e9;clear F5 M3 jm Sl8 Tl8 e9;go_wp2_with fail
   refine(spec_CodeBlock_any (dif U V) q _ (dif_len _ _) (dif_rng Hsp.out Hsq.out Hl1.out Hl2.out) hq).mono ?_
   rintro e wa ⟨rfl,ea⟩
   have F7:=F6.trans ea;have P3:=N3.ext ea;have jp:=jn.ext ea;have Sla:=Sl9.ext ea;have Tla:=Tl9.ext ea;clear F6 N3 jn Sl9 Tl9 ea;have Hcl:=Lib.hid (cod_len (dif U V) q);go_wp2_with (refine wpList_istore 29 _ _ rfl rfl jp (7+k*16) 16 rfl _ rfl (cod (dif U V) q) rfl size_A16 Hcl.out (by rw[Hzl.out];omega) ?_;intro wb jb gb;refine Hid.out ?_)
   rw[Hst.out]at jb;have F8:Ext w wb:=Ext.grown F7 gb (fun q hq=>by cases hq;omega);have R3:=P3.gr gb (by simp;omega);have Slb:=Sla.grown gb (fun z hz=>by have:=S6ne z hz;intro e;exact this (by simpa using e));have Tlb:=Tla.grown gb (fun z hz=>by have:=S4ne z hz;intro e;exact this (by simpa using e));clear F7 P3 jp Sla Tla gb;refine Lib.hid ?_;go_wp2;go_roundw
   case rel=>exact⟨k+1,by omega,by go_num,F8,R3,jb,Lib.hid Slb,Lib.hid Tlb⟩
   case measure=>simp[intOf];omega
  ·obtain rfl:k=4:=by omega
   go_wp2_with (first|(refine wpList_iload 32 _ rfl rfl jk 0 71 rfl _ Tryz.underlying32 rfl size_Macro (by rw[Hzl.out];omega) _ (by rw[sub_all _ _ (Hzl.out)]) ?_)|(refine wpList_istore 32 _ _ rfl rfl H3 0 71 rfl _ rfl (macI vx vy (intL t r x y vx vy q 4)).zs rfl size_Macro (Hzl.out) (by simp[zl]) ?_;intro w6 p6 g6;refine Hid.out ?_))
   rw[spl_all (by rw[Hzl.out,zl_len])]at p6;have E6:Ext w w6:=Ext.grown F3 g6 (fun q hq=>by cases hq;omega);refine Lib.hid ?_;go_wp2;exact bodyPost_ret (v := .agg (ic (macI vx vy (intL t r x y vx vy q 4)).zs)) (results_cell_row rfl _ _ (B+1+1+1) 32 (ic (macI vx vy (intL t r x y vx vy q 4)).zs) (0,0) _ rfl p6 Tryz.underlying32 rfl (by rw[ic_size,Hzl.out];exact size_Macro)) rfl ⟨rfl,E6⟩
end Go.Proofs.YtbnhaegidfbgbaaGreatDoor
