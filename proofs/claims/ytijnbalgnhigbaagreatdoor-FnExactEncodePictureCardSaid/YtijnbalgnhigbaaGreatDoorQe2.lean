/- Part 2 of the proof. -/
import Derived.Test.YtijnbalgnhigbaaGreatDoorQe1
import Derived.Laws.Rows
set_option linter.unusedVariables false
set_option linter.unusedSimpArgs false
set_option maxRecDepth 100000
set_option maxHeartbeats 4000000
namespace Go.Proofs.YtijnbalgnhigbaaGreatDoor
open Go.RowKit
def bdA (M:Int)(zs:List Int):Prop:=∀ j,-M≤nth zs j∧nth zs j≤M
theorem IY {M:Int}{zs:List Int}{v:Int}(h:bdA M zs)(i:Nat)(h1 : -M≤v)(h2:v≤M):bdA M (zs.set i v):=fun j=>by
 by_cases e:i=j
 ·subst e
  by_cases hl:i<zs.length
  ·rw[EV _ _ _ hl];exact⟨h1,h2⟩
  ·rw[List.set_eq_of_length_le (by omega)];exact h i
 ·rw[GW _ _ _ _ e];exact h j
theorem B7 {M M':Int}{zs:List Int}(h:bdA M zs)(hm:M≤M'):bdA M' zs:=fun j=>by have:=h j;omega
theorem KN {M:Int}{zs:List Int}(hM:0≤M)(h:∀ j,j<zs.length → -M≤nth zs j∧nth zs j≤M):bdA M zs:=fun j=>by
 by_cases hl:j<zs.length
 ·exact h j hl
 ·rw[show nth zs j=0 by simp[nth,List.getElem?_eq_none (show zs.length≤j by omega)]];omega
theorem OW {M:Int}{zs:List Int}(h:bdA M zs)(i st:Nat):bdA (4*M) (bfS zs i st):=by
 have h0:=h i;have h1:=h (i+st);have h2:=h (i+2*st);have h3:=h (i+3*st);unfold bfS;refine IY (IY (IY (IY (B7 h (by omega)) _ ?_ ?_) _ ?_ ?_) _ ?_ ?_) _ ?_ ?_ <;> omega
theorem Nw (zs:List Int)(i st:Nat):(bfS zs i st).length=zs.length:=by simp[bfS]
theorem KO (zs:List Int)(k:Nat):(bfR zs k).length=zs.length:=by
 induction k with
 | zero=>rfl
 | succ k ih=>simp only[bfR];rw[Nw,ih]
theorem Nv (zs:List Int)(k:Nat):(bfC zs k).length=zs.length:=by
 induction k with
 | zero=>rfl
 | succ k ih=>simp only[bfC];rw[Nw,ih]
theorem NA (M:Int)(hM:0≤M)(f:Nat→List Int)(h0:bdA M (f 0))(hs:∀ k N,bdA N (f k)→bdA (4*N) (f (k+1))):∀ k,k≤4→bdA (256*M) (f k):=by
 have h1:=hs 0 _ h0;have h2:=hs 1 _ h1;have h3:=hs 2 _ h2;have h4:=hs 3 _ h3;intro k hk
 match k,hk with
 | 0,_=>exact B7 h0 (by omega)
 | 1,_=>exact B7 h1 (by omega)
 | 2,_=>exact B7 h2 (by omega)
 | 3,_=>exact B7 h3 (by omega)
 | 4,_=>exact B7 h4 (by omega)
theorem QE {zs:List Int}(h:bdA 1048576 zs):∀ k,k≤4→bdA 268435456 (bfR zs k) :=
 fun k hk=>B7 (NA 1048576 (by omega) (bfR zs) h (fun k N hN=>OW hN _ _) k hk) (by omega)
theorem QD {zs:List Int}(h:bdA 268435456 zs):∀ k,k≤4→bdA 68719476736 (bfC zs k) :=
 fun k hk=>B7 (NA 268435456 (by omega) (bfC zs) h (fun k N hN=>OW hN _ _) k hk) (by omega)
def stY (Z:List Int)(i1:Nat)(v1:Int)(i2:Nat)(v2:Int)(b1 b2:Bool):List Int:=if b2 then(if b1 then Z.set i1 v1 else Z).set i2 v2 else(if b1 then Z.set i1 v1 else Z)
theorem N8 (Z:List Int)(i1:Nat)(v1:Int)(i2:Nat)(v2:Int)(b2:Bool)(hne:i1≠i2):(stY Z i1 v1 i2 v2 false b2).set i1 v1=stY Z i1 v1 i2 v2 true b2:=by
 cases b2
 ·rfl
 ·show(Z.set i2 v2).set i1 v1=(Z.set i1 v1).set i2 v2;exact List.set_comm _ _ (fun h=>hne h.symm)
theorem Oa (Z:List Int)(i1:Nat)(v1:Int)(i2:Nat)(v2:Int)(b1:Bool):(stY Z i1 v1 i2 v2 b1 false).set i2 v2=stY Z i1 v1 i2 v2 b1 true:=rfl
theorem Jm (Z:List Int)(i1:Nat)(v1:Int)(i2:Nat)(v2:Int)(b1 b2:Bool):(stY Z i1 v1 i2 v2 b1 b2).length=Z.length:=by
 cases b1 <;> cases b2 <;> simp[stY]
theorem KU {w w':World}{row:Option Nat}(h:w.grownBy w' row):w.grownBy w'.drew row:=BH h (Ext.drewN _ 1)
theorem Ff (b A0 st:Nat)(zs:List Int)(w:World)(h:IB w b 47 zs)(hl:zs.length=16)(hb:bdA 1099511627776 zs)(h1:1≤st)(h2:A0+3*st<16):
 Calls Tryz.prog 136 #[.pointer (some ⟨b,0,none⟩),.int .i64 (A0:Nat),.int .i64 (st:Nat)] w fun e w'=>e= .returned (.tuple #[])∧IB w' b 47 (bfS zs A0 st)∧w.grownBy w' (some b):=by
 have b0:=hb A0;have b1:=hb (A0+st);have b2:=hb (A0+2*st);have b3:=hb (A0+3*st);have HB:=Aa (show bfS zs A0 st=(((zs.set A0 (nth zs A0+nth zs (A0+st)+nth zs (A0+2*st)+nth zs (A0+3*st))).set (A0+st) (nth zs A0+nth zs (A0+st)-nth zs (A0+2*st)-nth zs (A0+3*st))).set (A0+2*st) (nth zs A0-nth zs (A0+st)-nth zs (A0+2*st)+nth zs (A0+3*st))).set (A0+3*st) (nth zs A0-nth zs (A0+st)+nth zs (A0+2*st)-nth zs (A0+3*st))from rfl);have c0:=h.cell (i:=A0) (by omega);have c1:=h.cell (i:=A0+st) (by omega);have c2:=h.cell (i:=A0+2*st) (by omega);have c3:=h.cell (i:=A0+3*st) (by omega);obtain⟨A1,hA1⟩:∃ A1,A1=A0+st:=⟨_,rfl⟩;obtain⟨A2,hA2⟩:∃ A2,A2=A0+2*st:=⟨_,rfl⟩;obtain⟨A3,hA3⟩:∃ A3,A3=A0+3*st:=⟨_,rfl⟩;rw[←hA1]at b1 c1 HB;rw[←hA2]at b2 c2 HB;rw[←hA3]at b3 c3 HB;generalize nth zs A0=v0 at *;generalize nth zs A1=v1 at *;generalize nth zs A2=v2 at *;generalize nth zs A3=v3 at *;have i1:=Aa (show(A0:Int)+(st:Int)=(A1:Int) by omega);have i2:=Aa (show(A0:Int)+2*(st:Int)=(A2:Int) by omega);have i3:=Aa (show(A0:Int)+3*(st:Int)=(A3:Int) by omega);have l0:A0<16:=by omega
 have l1:A1<16:=by omega
 have l2:A2<16:=by omega
 have l3:A3<16:=by omega
 have hst:st≤5:=by omega
 have n1:A0≠A1:=by omega
 have n2:A2≠A3:=by omega
 have Hl:=Aa hl;have C0:=Aa c0;have C1:=Aa c1;have C2:=Aa c2;have C3:=Aa c3;clear hl hb hA1 hA2 hA3 h2 c0 c1 c2 c3;go_enter Tryz.func136,Tryz.ntmps136
 go_wp2_with fail
 refine An (by kernel_rfl) [(6,28),(7,29),(8,30),(9,31),(10,0),(11,1),(12,2),(13,3),(14,4),(15,5),(16,6),(17,7),(18,8),(19,9),(20,10),(21,11),(22,12),(23,13),(24,14),(25,15),(26,16),(27,17),(28,18),(29,19),(30,20),(31,21),(32,22),(33,23),(34,24),(35,25),(36,26),(37,27)] [[],[],[0],[0,1,2],[0,1,2,3],[],[],[],[6,7],[5],[5,6,7,8,9],[5,6,7,8,9,10],[],[],[],[14],[13,14,15],[12],[12,13,14,15,16,17],[12,13,14,15,16,17,18],[],[],[],[22],[21,22,23],[20],[20,21,22,23,24,25],[20,21,22,23,24,25,26],[0,1,2,3,4],[0,1,2,3,4,5,6,7,8,9,10,11,28],[0,1,2,3,4,5,6,7,8,9,10,11,12,13,14,15,16,17,18,19,28,29],[0,1,2,3,4,5,6,7,8,9,10,11,12,13,14,15,16,17,18,19,20,21,22,23,24,25,26,27,28,29,30]] (fun i own ys wx=>match i with|0=>own= .pointer (some ⟨b,0,none⟩)|1=>own= .int .i64 (A0:Nat)|2=>own= .pointer (some ⟨b,0,none⟩)|3=>own= .pointer (some ⟨b,A0,none⟩)|4=>own= .int .i64 v0|5=>own= .pointer (some ⟨b,0,none⟩)|6=>own= .int .i64 (A0:Nat)|7=>own= .int .i64 (st:Nat)|8=>own= .int .i64 (A1:Nat)|9=>own= .pointer (some ⟨b,0,none⟩)|10=>own= .pointer (some ⟨b,A1,none⟩)|11=>own= .int .i64 v1|12=>own= .pointer (some ⟨b,0,none⟩)|13=>own= .int .i64 (A0:Nat)|14=>own= .int .i64 (st:Nat)|15=>own= .int .i64 (2*(st:Int))|16=>own= .int .i64 (A2:Nat)|17=>own= .pointer (some ⟨b,0,none⟩)|18=>own= .pointer (some ⟨b,A2,none⟩)|19=>own= .int .i64 v2|20=>own= .pointer (some ⟨b,0,none⟩)|21=>own= .int .i64 (A0:Nat)|22=>own= .int .i64 (st:Nat)|23=>own= .int .i64 (3*(st:Int))|24=>own= .int .i64 (A3:Nat)|25=>own= .pointer (some ⟨b,0,none⟩)|26=>own= .pointer (some ⟨b,A3,none⟩)|27=>own= .int .i64 v3|28=>own= .int .i64 v0|29=>own= .int .i64 v1|30=>own= .int .i64 v2|31=>own= .int .i64 v3|_=>True) (fun kx wx=>Ext w wx) (by kernel_rfl) (by kernel_rfl) (by kernel_rfl) ?g0_r1 ?gop_r1 ?gend_r1
 case g0_r1=>exact Ext.drewN _ 1
 case gop_r1 =>
  refine⟨?_,?_,?o2,?o3,?o4,?_,?_,?_,?o8,?o9,?o10,?o11,?_,?_,?_,?o15,?o16,?o17,?o18,?o19,?_,?_,?_,?o23,?o24,?o25,?o26,?o27,?o28,?o29,?o30,?o31,trivial⟩ <;> (intro kx xs wx hk hG hD hI Qo Kx hK hQo;simp only[Ad,Nat.reduceAdd,Nat.reduceEqDiff,↓reduceIte]at hQo⊢)
  case o2 =>
   rw[ddq (hD 0 rfl)]at hQo⊢;clear hD hI;go_wp2;exact hK.out _ _ ⟨rfl,hG,kkp⟩
  case o3 =>
   rw[ddq (hD 1 rfl),ddq (hD 2 rfl)]at hQo⊢;clear hD hI;go_wp2;exact hK.out _ _ ⟨rfl,hG,kkp⟩
  case o4 =>
   rw[ddq (hD 3 rfl)]at hQo⊢;clear hD hI;have cx:=AI hG C0.out;go_wp2;exact hK.out _ _ ⟨rfl,hG,kkp⟩
  case o8 =>
   rw[ddq (hD 6 rfl),ddq (hD 7 rfl)]at hQo⊢;clear hD hI;go_wp2;exact hK.out _ _ ⟨by rw[←i1.out],hG,fun _ _ _ _ _ _ h=>h⟩
  case o9 =>
   rw[ddq (hD 5 rfl)]at hQo⊢;clear hD hI;go_wp2;exact hK.out _ _ ⟨rfl,hG,kkp⟩
  case o10 =>
   rw[ddq (hD 8 rfl),ddq (hD 9 rfl)]at hQo⊢;clear hD hI;go_wp2;exact hK.out _ _ ⟨rfl,hG,kkp⟩
  case o11 =>
   rw[ddq (hD 10 rfl)]at hQo⊢;clear hD hI;have cx:=AI hG C1.out;go_wp2;exact hK.out _ _ ⟨rfl,hG,kkp⟩
  case o15 =>
   rw[ddq (hD 14 rfl)]at hQo⊢;clear hD hI;go_wp2;exact hK.out _ _ ⟨rfl,hG,kkp⟩
  case o16 =>
   rw[ddq (hD 13 rfl),ddq (hD 15 rfl)]at hQo⊢;clear hD hI;go_wp2;exact hK.out _ _ ⟨by rw[←i2.out],hG,fun _ _ _ _ _ _ h=>h⟩
  case o17 =>
   rw[ddq (hD 12 rfl)]at hQo⊢;clear hD hI;go_wp2;exact hK.out _ _ ⟨rfl,hG,kkp⟩
  case o18 =>
   rw[ddq (hD 16 rfl),ddq (hD 17 rfl)]at hQo⊢;clear hD hI;go_wp2;exact hK.out _ _ ⟨rfl,hG,kkp⟩
  case o19 =>
   rw[ddq (hD 18 rfl)]at hQo⊢;clear hD hI;have cx:=AI hG C2.out;go_wp2;exact hK.out _ _ ⟨rfl,hG,kkp⟩
  case o23 =>
   rw[ddq (hD 22 rfl)]at hQo⊢;clear hD hI;go_wp2;exact hK.out _ _ ⟨rfl,hG,kkp⟩
  case o24 =>
   rw[ddq (hD 21 rfl),ddq (hD 23 rfl)]at hQo⊢;clear hD hI;go_wp2;exact hK.out _ _ ⟨by rw[←i3.out],hG,fun _ _ _ _ _ _ h=>h⟩
  case o25 =>
   rw[ddq (hD 20 rfl)]at hQo⊢;clear hD hI;go_wp2;exact hK.out _ _ ⟨rfl,hG,kkp⟩
  case o26 =>
   rw[ddq (hD 24 rfl),ddq (hD 25 rfl)]at hQo⊢;clear hD hI;go_wp2;exact hK.out _ _ ⟨rfl,hG,kkp⟩
  case o27 =>
   rw[ddq (hD 26 rfl)]at hQo⊢;clear hD hI;have cx:=AI hG C3.out;go_wp2;exact hK.out _ _ ⟨rfl,hG,kkp⟩
  case o28 =>
   rw[ddq (hD 4 rfl)]at hQo⊢;clear hD hI;go_wp2;exact hK.out _ _ ⟨rfl,hG,kkp⟩
  case o29 =>
   rw[ddq (hD 11 rfl)]at hQo⊢;clear hD hI;go_wp2;exact hK.out _ _ ⟨rfl,hG,kkp⟩
  case o30 =>
   rw[ddq (hD 19 rfl)]at hQo⊢;clear hD hI;go_wp2;exact hK.out _ _ ⟨rfl,hG,kkp⟩
  case o31 =>
   rw[ddq (hD 27 rfl)]at hQo⊢;clear hD hI;go_wp2;exact hK.out _ _ ⟨rfl,hG,kkp⟩
  all_goals
   clear hD hI;go_wp2;exact hK.out _ _ ⟨rfl,hG,kkp⟩
 intro xs wx hV hG;have d28:_=_:=hV 28 (by decide);have d29:_=_:=hV 29 (by decide);have d30:_=_:=hV 30 (by decide);have d31:_=_:=hV 31 (by decide);clear hV;simp only[Ad,Nat.reduceAdd,Nat.reduceEqDiff,↓reduceIte];generalize xs 0=y0,xs 1=y1,xs 2=y2,xs 3=y3,xs 4=y4,xs 5=y5,xs 6=y6,xs 7=y7,xs 8=y8,xs 9=y9,xs 10=y10,xs 11=y11,xs 12=y12,xs 13=y13,xs 14=y14,xs 15=y15,xs 16=y16,xs 17=y17,xs 18=y18,xs 19=y19,xs 20=y20,xs 21=y21,xs 22=y22,xs 23=y23,xs 24=y24,xs 25=y25,xs 26=y26,xs 27=y27,xs 28=y28,xs 29=y29,xs 30=y30,xs 31=y31 at *
 replace hG:Ext w wx:=hG
 subst d28 d29 d30 d31;have G1:IB wx b 47 zs∧w.grownBy wx (some b):=⟨h.ext hG,BH (BV _ _) hG⟩;clear hG h;generalize wx=wa at *;go_wp2_with fail
 refine Am (by kernel_rfl) [(38,0),(39,1),(40,2),(41,3),(42,4),(43,5),(44,6),(45,7),(46,8),(47,9),(48,10),(49,11),(50,12),(51,13),(52,14),(53,15),(54,16),(55,17),(56,18),(57,19),(58,20),(59,21),(60,23),(61,24)] [[],[],[],[],[],[3,4],[],[],[6,7],[],[6,7,8,9],[],[6,7,8,9,10,11],[],[],[13,14],[],[13,14,15,16],[],[13,14,15,16,17,18],[0],[0,1,6,7,8,9,10,11,12,20],[0,1,6,7,8,9,10,11,12,20,21],[2],[0,1,2,3,4,5,6,7,8,9,10,11,12,13,14,15,16,17,18,19,20,21,22,23],[0,1,2,3,4,5,6,7,8,9,10,11,12,13,14,15,16,17,18,19,20,21,22,23,24]] (fun i own ys wx=>match i with|0=>own= .pointer (some ⟨b,0,none⟩)|1=>own= .int .i64 (A0:Nat)|2=>own= .pointer (some ⟨b,0,none⟩)|3=>own= .int .i64 (A0:Nat)|4=>own= .int .i64 (st:Nat)|5=>own= .int .i64 ((A1:Nat))|6=>own= .int .i64 (v0)|7=>own= .int .i64 (v1)|8=>own= .int .i64 (v0+v1)|9=>own= .int .i64 (v2)|10=>own= .int .i64 (v0+v1+v2)|11=>own= .int .i64 (v3)|12=>own= .int .i64 (v0+v1+v2+v3)|13=>own= .int .i64 (v0)|14=>own= .int .i64 (v1)|15=>own= .int .i64 (v0+v1)|16=>own= .int .i64 (v2)|17=>own= .int .i64 (v0+v1-v2)|18=>own= .int .i64 (v3)|19=>own= .int .i64 (v0+v1-v2-v3)|20=>own= .pointer (some ⟨b,0,none⟩)|21=>own= .pointer (some ⟨b,A0,none⟩)|22=>True|23=>own= .pointer (some ⟨b,0,none⟩)|24=>own= .pointer (some ⟨b,A1,none⟩)|25=>True|_=>True) (fun Lx wx=>IB wx b 47 (stY (zs) A0 (v0+v1+v2+v3) A1 (v0+v1-v2-v3) (Lx 22) (Lx 25))∧w.grownBy wx (some b)) (by kernel_rfl) (by kernel_rfl) (by kernel_rfl) ?g0_r2 ?gop_r2 ?gend_r2
 case g0_r2=>exact⟨G1.1.drewN 1,KU G1.2⟩
 case gop_r2 =>
  refine⟨?_,?_,?_,?_,?_,?o5,?_,?_,?o8,?_,?o10,?_,?o12,?_,?_,?o15,?_,?o17,?_,?o19,?o20,?o21,?o22,?o23,?o24,?o25,trivial⟩ <;> (intro Lx xs wx hG hl ha hb hD hI Qo Kx hK hQo;simp only[Ad,Nat.reduceAdd,Nat.reduceEqDiff,↓reduceIte]at hQo⊢)
  case o5 =>
   clear hl ha hb;rw[ddq (hD 3 rfl),ddq (hD 4 rfl)]at hQo⊢;clear hD hI;go_wp2;exact hK.out _ _ ⟨by rw[←i1.out],hG,fun _ _ _ _ _ _ h=>h⟩
  case o8 =>
   clear hl ha hb;rw[ddq (hD 6 rfl),ddq (hD 7 rfl)]at hQo⊢;clear hD hI;go_wp2;exact hK.out _ _ ⟨rfl,hG,kkp⟩
  case o10 =>
   clear hl ha hb;rw[ddq (hD 8 rfl),ddq (hD 9 rfl)]at hQo⊢;clear hD hI;go_wp2;exact hK.out _ _ ⟨rfl,hG,kkp⟩
  case o12 =>
   clear hl ha hb;rw[ddq (hD 10 rfl),ddq (hD 11 rfl)]at hQo⊢;clear hD hI;go_wp2;exact hK.out _ _ ⟨rfl,hG,kkp⟩
  case o15 =>
   clear hl ha hb;rw[ddq (hD 13 rfl),ddq (hD 14 rfl)]at hQo⊢;clear hD hI;go_wp2;exact hK.out _ _ ⟨rfl,hG,kkp⟩
  case o17 =>
   clear hl ha hb;rw[ddq (hD 15 rfl),ddq (hD 16 rfl)]at hQo⊢;clear hD hI;go_wp2;exact hK.out _ _ ⟨rfl,hG,kkp⟩
  case o19 =>
   clear hl ha hb;rw[ddq (hD 17 rfl),ddq (hD 18 rfl)]at hQo⊢;clear hD hI;go_wp2;exact hK.out _ _ ⟨rfl,hG,kkp⟩
  case o20 =>
   clear hl ha hb;rw[ddq (hD 0 rfl)]at hQo⊢;clear hD hI;go_wp2;exact hK.out _ _ ⟨rfl,hG,kkp⟩
  case o21 =>
   clear hl ha hb;rw[ddq (hD 1 rfl),ddq (hD 20 rfl)]at hQo⊢;clear hD hI;go_wp2;exact hK.out _ _ ⟨rfl,hG,kkp⟩
  case o22 =>
   have l22:Lx 22=false:=hl;clear hl ha hb;rw[ddq (hD 12 rfl),ddq (hD 21 rfl)]at hQo⊢;clear hD hI;have cx:=hG.1.cell (i:=A0) (by rw[Jm];rw[Hl.out];assumption);have fx:=hG.1.frozen A0;rw[l22]at hG;have hG2:=hG.1.set A0 (v0+v1+v2+v3);rw[N8 _ _ _ _ _ _ n1]at hG2;have hG3:=grownBy_trans hG.2 (Ax _ b A0 (.int .i64 (v0+v1+v2+v3)));go_wp2;exact hQo undef _ (hK.out _ _ ⟨trivial,⟨hG2,hG3⟩,fun _ _ _ _ _ _ h=>h⟩)
  case o23 =>
   clear hl ha hb;rw[ddq (hD 2 rfl)]at hQo⊢;clear hD hI;go_wp2;exact hK.out _ _ ⟨rfl,hG,kkp⟩
  case o24 =>
   clear hl ha hb;rw[ddq (hD 5 rfl),ddq (hD 23 rfl)]at hQo⊢;clear hD hI;go_wp2;exact hK.out _ _ ⟨rfl,hG,kkp⟩
  case o25 =>
   have l25:Lx 25=false:=hl;clear hl ha hb;rw[ddq (hD 19 rfl),ddq (hD 24 rfl)]at hQo⊢;clear hD hI;have cx:=hG.1.cell (i:=A1) (by rw[Jm];rw[Hl.out];assumption);have fx:=hG.1.frozen A1;rw[l25]at hG;have hG2:=hG.1.set A1 (v0+v1-v2-v3);rw[Oa]at hG2;have hG3:=grownBy_trans hG.2 (Ax _ b A1 (.int .i64 (v0+v1-v2-v3)));go_wp2;exact hQo undef _ (hK.out _ _ ⟨trivial,⟨hG2,hG3⟩,fun _ _ _ _ _ _ h=>h⟩)
  all_goals
   clear hl ha hb hD hI;go_wp2;exact hK.out _ _ ⟨rfl,hG,kkp⟩
 intro xs wx hV hG0;obtain⟨Lx,hL,hG⟩:=hG0;have l22:Lx 22=true:=hL 22 (by decide);have l25:Lx 25=true:=hL 25 (by decide);clear hL hV;simp only[Ad,Nat.reduceAdd,Nat.reduceEqDiff,↓reduceIte];generalize xs 0=y0,xs 1=y1,xs 2=y2,xs 3=y3,xs 4=y4,xs 5=y5,xs 6=y6,xs 7=y7,xs 8=y8,xs 9=y9,xs 10=y10,xs 11=y11,xs 12=y12,xs 13=y13,xs 14=y14,xs 15=y15,xs 16=y16,xs 17=y17,xs 18=y18,xs 19=y19,xs 20=y20,xs 21=y21,xs 22=y22,xs 23=y23,xs 24=y24,xs 25=y25 at *
 replace hG:IB wx b 47 (stY (zs) A0 (v0+v1+v2+v3) A1 (v0+v1-v2-v3) (Lx 22) (Lx 25))∧w.grownBy wx (some b):=hG
 rw[l22,l25]at hG;have G2:=hG;clear hG G1;have e2:stY zs A0 (v0+v1+v2+v3) A1 (v0+v1-v2-v3) true true=(zs.set A0 (v0+v1+v2+v3)).set A1 (v0+v1-v2-v3):=rfl;rw[e2]at G2;clear e2;generalize wx=wb at *;go_wp2_with fail
 refine Am (by kernel_rfl) [(62,0),(63,1),(64,2),(65,3),(66,4),(67,5),(68,6),(69,7),(70,8),(71,9),(72,10),(73,11),(74,12),(75,13),(76,14),(77,15),(78,16),(79,17),(80,18),(81,19),(82,20),(83,21),(84,22),(85,23),(86,24),(87,25),(88,27),(89,28)] [[],[],[],[2],[1,2,3],[],[],[],[7],[6,7,8],[],[],[10,11],[],[10,11,12,13],[],[10,11,12,13,14,15],[],[],[17,18],[],[17,18,19,20],[],[17,18,19,20,21,22],[0],[0,1,2,3,4,10,11,12,13,14,15,16,24],[0,1,2,3,4,10,11,12,13,14,15,16,24,25],[5],[0,1,2,3,4,5,6,7,8,9,10,11,12,13,14,15,16,17,18,19,20,21,22,23,24,25,26,27],[0,1,2,3,4,5,6,7,8,9,10,11,12,13,14,15,16,17,18,19,20,21,22,23,24,25,26,27,28]] (fun i own ys wx=>match i with|0=>own= .pointer (some ⟨b,0,none⟩)|1=>own= .int .i64 (A0:Nat)|2=>own= .int .i64 (st:Nat)|3=>own= .int .i64 (2*(st:Int))|4=>own= .int .i64 ((A2:Nat))|5=>own= .pointer (some ⟨b,0,none⟩)|6=>own= .int .i64 (A0:Nat)|7=>own= .int .i64 (st:Nat)|8=>own= .int .i64 (3*(st:Int))|9=>own= .int .i64 ((A3:Nat))|10=>own= .int .i64 (v0)|11=>own= .int .i64 (v1)|12=>own= .int .i64 (v0-v1)|13=>own= .int .i64 (v2)|14=>own= .int .i64 (v0-v1-v2)|15=>own= .int .i64 (v3)|16=>own= .int .i64 (v0-v1-v2+v3)|17=>own= .int .i64 (v0)|18=>own= .int .i64 (v1)|19=>own= .int .i64 (v0-v1)|20=>own= .int .i64 (v2)|21=>own= .int .i64 (v0-v1+v2)|22=>own= .int .i64 (v3)|23=>own= .int .i64 (v0-v1+v2-v3)|24=>own= .pointer (some ⟨b,0,none⟩)|25=>own= .pointer (some ⟨b,A2,none⟩)|26=>True|27=>own= .pointer (some ⟨b,0,none⟩)|28=>own= .pointer (some ⟨b,A3,none⟩)|29=>True|_=>True) (fun Lx wx=>IB wx b 47 (stY ((zs.set A0 (v0+v1+v2+v3)).set A1 (v0+v1-v2-v3)) A2 (v0-v1-v2+v3) A3 (v0-v1+v2-v3) (Lx 26) (Lx 29))∧w.grownBy wx (some b)) (by kernel_rfl) (by kernel_rfl) (by kernel_rfl) ?g0_r3 ?gop_r3 ?gend_r3
 case g0_r3=>exact⟨G2.1.drewN 1,KU G2.2⟩
 case gop_r3 =>
  refine⟨?_,?_,?_,?o3,?o4,?_,?_,?_,?o8,?o9,?_,?_,?o12,?_,?o14,?_,?o16,?_,?_,?o19,?_,?o21,?_,?o23,?o24,?o25,?o26,?o27,?o28,?o29,trivial⟩ <;> (intro Lx xs wx hG hl ha hb hD hI Qo Kx hK hQo;simp only[Ad,Nat.reduceAdd,Nat.reduceEqDiff,↓reduceIte]at hQo⊢)
  case o3 =>
   clear hl ha hb;rw[ddq (hD 2 rfl)]at hQo⊢;clear hD hI;go_wp2;exact hK.out _ _ ⟨rfl,hG,kkp⟩
  case o4 =>
   clear hl ha hb;rw[ddq (hD 1 rfl),ddq (hD 3 rfl)]at hQo⊢;clear hD hI;go_wp2;exact hK.out _ _ ⟨by rw[←i2.out],hG,fun _ _ _ _ _ _ h=>h⟩
  case o8 =>
   clear hl ha hb;rw[ddq (hD 7 rfl)]at hQo⊢;clear hD hI;go_wp2;exact hK.out _ _ ⟨rfl,hG,kkp⟩
  case o9 =>
   clear hl ha hb;rw[ddq (hD 6 rfl),ddq (hD 8 rfl)]at hQo⊢;clear hD hI;go_wp2;exact hK.out _ _ ⟨by rw[←i3.out],hG,fun _ _ _ _ _ _ h=>h⟩
  case o12 =>
   clear hl ha hb;rw[ddq (hD 10 rfl),ddq (hD 11 rfl)]at hQo⊢;clear hD hI;go_wp2;exact hK.out _ _ ⟨rfl,hG,kkp⟩
  case o14 =>
   clear hl ha hb;rw[ddq (hD 12 rfl),ddq (hD 13 rfl)]at hQo⊢;clear hD hI;go_wp2;exact hK.out _ _ ⟨rfl,hG,kkp⟩
  case o16 =>
   clear hl ha hb;rw[ddq (hD 14 rfl),ddq (hD 15 rfl)]at hQo⊢;clear hD hI;go_wp2;exact hK.out _ _ ⟨rfl,hG,kkp⟩
  case o19 =>
   clear hl ha hb;rw[ddq (hD 17 rfl),ddq (hD 18 rfl)]at hQo⊢;clear hD hI;go_wp2;exact hK.out _ _ ⟨rfl,hG,kkp⟩
  case o21 =>
   clear hl ha hb;rw[ddq (hD 19 rfl),ddq (hD 20 rfl)]at hQo⊢;clear hD hI;go_wp2;exact hK.out _ _ ⟨rfl,hG,kkp⟩
  case o23 =>
   clear hl ha hb;rw[ddq (hD 21 rfl),ddq (hD 22 rfl)]at hQo⊢;clear hD hI;go_wp2;exact hK.out _ _ ⟨rfl,hG,kkp⟩
  case o24 =>
   clear hl ha hb;rw[ddq (hD 0 rfl)]at hQo⊢;clear hD hI;go_wp2;exact hK.out _ _ ⟨rfl,hG,kkp⟩
  case o25 =>
   clear hl ha hb;rw[ddq (hD 4 rfl),ddq (hD 24 rfl)]at hQo⊢;clear hD hI;go_wp2;exact hK.out _ _ ⟨rfl,hG,kkp⟩
  case o26 =>
   have l26:Lx 26=false:=hl;clear hl ha hb;rw[ddq (hD 16 rfl),ddq (hD 25 rfl)]at hQo⊢;clear hD hI;have cx:=hG.1.cell (i:=A2) (by rw[Jm];simp only[List.length_set];rw[Hl.out];assumption);have fx:=hG.1.frozen A2;rw[l26]at hG;have hG2:=hG.1.set A2 (v0-v1-v2+v3);rw[N8 _ _ _ _ _ _ n2]at hG2;have hG3:=grownBy_trans hG.2 (Ax _ b A2 (.int .i64 (v0-v1-v2+v3)));go_wp2;exact hQo undef _ (hK.out _ _ ⟨trivial,⟨hG2,hG3⟩,fun _ _ _ _ _ _ h=>h⟩)
  case o27 =>
   clear hl ha hb;rw[ddq (hD 5 rfl)]at hQo⊢;clear hD hI;go_wp2;exact hK.out _ _ ⟨rfl,hG,kkp⟩
  case o28 =>
   clear hl ha hb;rw[ddq (hD 9 rfl),ddq (hD 27 rfl)]at hQo⊢;clear hD hI;go_wp2;exact hK.out _ _ ⟨rfl,hG,kkp⟩
  case o29 =>
   have l29:Lx 29=false:=hl;clear hl ha hb;rw[ddq (hD 23 rfl),ddq (hD 28 rfl)]at hQo⊢;clear hD hI;have cx:=hG.1.cell (i:=A3) (by rw[Jm];simp only[List.length_set];rw[Hl.out];assumption);have fx:=hG.1.frozen A3;rw[l29]at hG;have hG2:=hG.1.set A3 (v0-v1+v2-v3);rw[Oa]at hG2;have hG3:=grownBy_trans hG.2 (Ax _ b A3 (.int .i64 (v0-v1+v2-v3)));go_wp2;exact hQo undef _ (hK.out _ _ ⟨trivial,⟨hG2,hG3⟩,fun _ _ _ _ _ _ h=>h⟩)
  all_goals
   clear hl ha hb hD hI;go_wp2;exact hK.out _ _ ⟨rfl,hG,kkp⟩
 intro xs wx hV hG0;obtain⟨Lx,hL,hG⟩:=hG0;have l26:Lx 26=true:=hL 26 (by decide);have l29:Lx 29=true:=hL 29 (by decide);clear hL hV;simp only[Ad,Nat.reduceAdd,Nat.reduceEqDiff,↓reduceIte];generalize xs 0=y0,xs 1=y1,xs 2=y2,xs 3=y3,xs 4=y4,xs 5=y5,xs 6=y6,xs 7=y7,xs 8=y8,xs 9=y9,xs 10=y10,xs 11=y11,xs 12=y12,xs 13=y13,xs 14=y14,xs 15=y15,xs 16=y16,xs 17=y17,xs 18=y18,xs 19=y19,xs 20=y20,xs 21=y21,xs 22=y22,xs 23=y23,xs 24=y24,xs 25=y25,xs 26=y26,xs 27=y27,xs 28=y28,xs 29=y29 at *
 replace hG:IB wx b 47 (stY ((zs.set A0 (v0+v1+v2+v3)).set A1 (v0+v1-v2-v3)) A2 (v0-v1-v2+v3) A3 (v0-v1+v2-v3) (Lx 26) (Lx 29))∧w.grownBy wx (some b):=hG
 rw[l26,l29]at hG;have e3:stY ((zs.set A0 (v0+v1+v2+v3)).set A1 (v0+v1-v2-v3)) A2 (v0-v1-v2+v3) A3 (v0-v1+v2-v3) true true=bfS zs A0 st:=HB.out.symm;rw[e3]at hG;have HG:=Aa hG;clear hG G2 e3;go_wp2;go_end0
 exact⟨rfl,HG.out.1,HG.out.2⟩
theorem EC (zs:List Int)(w:World)(hl:zs.length=16)(hb:bdA 1048576 zs):
 Calls Tryz.prog 93 #[.agg (ic zs)] w fun e w'=>e= .returned (.agg (ic (had zs)))∧Ext w w':=by
 have bR:=QE hb;have bC:=QD (bR 4 (by omega));have hC:(bfC (bfR zs 4) 4).length=16:=by rw[Nv,KO,hl]
 have HC:=Aa hC;have Hh:=Aa (QF hl);have Hl:=Aa hl;have BR:=Aa bR;have BC:=Aa bC;clear hl hb bR bC hC;have a2:=Ext.alloc (w.alloc (.cells (ic zs) 47)) (.cells (ic (List.replicate 16 0)) 47);have p0:=(IB.new w 47 zs).ext a2;have p1:=IB.new (w.alloc (.cells (ic zs) 47)) 47 (List.replicate 16 0);have E1:=(Ext.alloc w (.cells (ic zs) 47)).trans a2;simp only[World.size_alloc]at p1;clear a2;go_enter Tryz.func93,Tryz.ntmps93
 go_wp2_with fail
 go_loopw [5] (fun i wr=>∃ k:Nat,k≤4∧i= .int .i64 k∧Ext w wr∧IB wr w.heap.size 47 (bfR zs k)∧IB wr (w.heap.size+1) 47 (List.replicate 16 0)) (fun i _=>4-(intOf i).toNat)
 case atStart=>exact⟨0,by omega,rfl,E1,p0,p1⟩
 case round =>
  obtain⟨k,hk,rfl,E2,q0,q1⟩:=hrel;clear p0 p1 E1
  by_cases hlt:k<4
  ·have hd:decide ((k:Int)<4)=true:=by simp;omega
   have hbk:=Aa (B7 (BR.out k hk) (show(268435456:Int)≤1099511627776 by omega));go_wp2_with fail
   have hcall:=Ff w.heap.size (4*k) 1 (bfR zs k) wr q0 (by rw[KO,Hl.out]) hbk.out (by omega) (by omega);rw[show((4*k:Nat):Int)=4*(k:Int) by omega]at hcall;refine hcall.mono ?_
   rintro e w3 ⟨rfl,i3,g3⟩
   clear hcall;go_wp2;go_roundw
   case rel=>exact⟨k+1,by omega,by go_num,Ext.grown E2 g3 (fun q hq=>by cases hq;omega),i3,q1.gr g3 (by simp)⟩
   case measure=>simp[intOf];omega
  ·have hk4:=Aa (show k=4 by omega);have hd:decide ((k:Int)<4)=false:=by simp;omega
   rw[hk4.out]at q0;go_wp2_with fail
   go_loopw [12] (fun i wr=>∃ k:Nat,k≤4∧i= .int .i64 k∧Ext w wr∧IB wr w.heap.size 47 (bfC (bfR zs 4) k)∧IB wr (w.heap.size+1) 47 (List.replicate 16 0)) (fun i _=>4-(intOf i).toNat)
   case atStart=>exact⟨0,by omega,rfl,E2,q0,q1⟩
   case round =>
    obtain⟨k,hk,rfl,E3,r0,r1⟩:=hrel;clear q0 q1 E2
    by_cases hlt:k<4
    ·have hd:decide ((k:Int)<4)=true:=by simp;omega
     have hbk:=Aa (B7 (BC.out k hk) (show(68719476736:Int)≤1099511627776 by omega));go_wp2_with fail
     have hcall:=Ff w.heap.size k 4 (bfC (bfR zs 4) k) wr r0 (by rw[Nv,KO,Hl.out]) hbk.out (by omega) (by omega);refine hcall.mono ?_
     rintro e w3 ⟨rfl,i3,g3⟩
     clear hcall;go_wp2;go_roundw
     case rel=>exact⟨k+1,by omega,by go_num,Ext.grown E3 g3 (fun q hq=>by cases hq;omega),i3,r1.gr g3 (by simp)⟩
     case measure=>simp[intOf];omega
    ·obtain rfl:k=4:=by omega
     go_wp2_with (first|(refine Ab 47 _ rfl rfl r0 0 16 rfl _ Rm rfl Ag (by rw[HC.out];omega) _ (by rw[Ak _ _ HC.out]) ?_)|(refine Af 47 _ _ rfl rfl r1 0 16 rfl _ rfl _ rfl Ag HC.out (by simp) ?_;intro w6 p6 g6;refine Hid.out ?_))
     rw[Ap (by rw[HC.out];simp)]at p6;have E6:Ext w w6:=Ext.grown E3 g6 (fun q hq=>by cases hq;omega);refine Aa ?_;go_wp2;exact bodyPost_ret (v := .agg (ic (had zs))) (results_cell_row rfl _ _ (w.heap.size+1) 47 (ic (had zs)) (0,0) _ rfl (by rw[←Hh.out];exact p6) Rm rfl (by rw[AJ,BD];exact Ag)) rfl ⟨rfl,E6⟩
theorem P9 (zs:List Int){U V:Nat}(hU:U<4)(hV:V<4):(mixI (had zs) (List.replicate 16 0) (4*U+V)).set (4*U+V) (sumZ (hadT zs U V) 16)=mixI (had zs) (List.replicate 16 0) (4*U+(V+1)):=by
 have h:=NP zs (4*U+V) (by omega);rw[show(4*U+V)/4=U by omega,show(4*U+V)%4=V by omega]at h;rw[←h,Bl _ _ _ 16 (BD _) (by simp) (by omega),Nat.add_assoc]
theorem mul4 (J:Nat):4*(J+1)=4*J+4:=by omega
def sgnL : List Int := [1,1,1,1,1,1,-1,-1,1,-1,-1,1,1,-1,1,-1]
theorem JD (u y:Nat)(w:World)(hu:u<4)(hy:y<4):
 Calls Tryz.prog 145 #[.int .i64 (u:Nat),.int .i64 (y:Nat)] w fun e w'=>e= .returned (.int .i64 (sgn u y))∧w=w':=by
 have HS:=Aa (show nth sgnL (4*u+y)=sgn u y from rfl);go_enter Tryz.func145,Tryz.ntmps145
 go_wp2_with (refine AF _ _ _ rfl rfl sgnL rfl (4*u+y) 16 _ rfl (by omega) _ Rm Rt AC (by omega) rfl ?_)
 go_ret
 exact⟨BY HS.out,rfl⟩
theorem FK (zs:List Int)(w:World)(hl:zs.length=16)(hb:bdA 1048576 zs):
 Calls Tryz.prog 119 #[.agg (ic zs)] w fun e w'=>e= .returned (.agg (ic (had zs)))∧Ext w w':=by
 have Hl:=Aa hl;have HB:=Aa hb;have hz:(List.replicate 16 (0:Int)).length=16:=by simp
 have Hz:=Aa hz;clear hl hb hz;have a2:=Ext.alloc (w.alloc (.cells (ic zs) 47)) (.cells (ic (List.replicate 16 0)) 47);have a3:=Ext.alloc ((w.alloc (.cells (ic zs) 47)).alloc (.cells (ic (List.replicate 16 0)) 47)) (.cells (ic (List.replicate 16 0)) 47);have p0:=((IB.new w 47 zs).ext a2).ext a3;have p1:=(IB.new (w.alloc (.cells (ic zs) 47)) 47 (List.replicate 16 0)).ext a3;have p2:=IB.new ((w.alloc (.cells (ic zs) 47)).alloc (.cells (ic (List.replicate 16 0)) 47)) 47 (List.replicate 16 0);have E1:=((Ext.alloc w (.cells (ic zs) 47)).trans a2).trans a3;simp only[World.size_alloc]at p1 p2;clear a2 a3;go_enter Tryz.func119,Tryz.ntmps119
 go_wp2_with fail
 obtain⟨B,hB⟩:∃ B,B=w.heap.size:=⟨_,rfl⟩;try simp only[World.size_alloc]
 rw[←hB]at p0 p1 p2⊢;have hwB:w.heap.size≤B:=by omega
 have HB0:=Aa hB;clear hB;go_loopw [4] (fun u wr=>∃ U:Nat,U≤4∧u= .int .i64 U∧Ext w wr∧IB wr B 47 zs∧IB wr (B+1) 47 (List.replicate 16 0)∧IB wr (B+1+1) 47 (mixI (had zs) (List.replicate 16 0) (4*U))) (fun u _=>4-(intOf u).toNat)
 case atStart=>exact⟨0,by omega,rfl,E1,p0,p1,by rw[AO];exact p2⟩
 case round =>
  obtain⟨U,hU,rfl,E2,q0,q1,q2⟩:=hrel;obtain⟨wo,rfl⟩:∃ wo:World,wo=wr:=⟨_,rfl⟩;clear p0 p1 p2 E1
  by_cases hltU:U<4
  ·have hdU:decide ((U:Int)<4)=true:=by simp;omega
   go_wp2_with fail
   go_loopw [5] (fun v wr2=>∃ V:Nat,V≤4∧v= .int .i64 V∧Ext w wr2∧IB wr2 B 47 zs∧IB wr2 (B+1) 47 (List.replicate 16 0)∧IB wr2 (B+1+1) 47 (mixI (had zs) (List.replicate 16 0) (4*U+V))) (fun v _=>4-(intOf v).toNat)
   case atStart=>exact⟨0,by omega,rfl,E2,q0,q1,q2⟩
   case round =>
    obtain⟨V,hV,rfl,E3,r0,r1,r2⟩:=hrel;obtain⟨wo2,rfl⟩:∃ wo2:World,wo2=wr:=⟨_,rfl⟩;clear q0 q1 q2 E2
    by_cases hltV:V<4
    ·have hdV:decide ((V:Int)<4)=true:=by simp;omega
     have Hmix:=Aa (P9 zs hltU hltV);have hrng:∀ t,t≤16 → -16777216≤sumZ (hadT zs U V) t∧sumZ (hadT zs U V) t≤16777216:=fun t ht=>by
      have:=Mq (f:=hadT zs U V) (B:=1048576) (n:=t) (fun i hi=>LE (HB.out i) hltU hltV (by omega));omega
     have Hrng:=Aa hrng;have Hsum:=Aa (fun t=>show sumZ (hadT zs U V) (t+1)=sumZ (hadT zs U V) t+sgn U (t/4)*sgn V (t%4)*nth zs t from rfl);clear hrng;obtain⟨S,hS⟩:∃ S:Nat→Int,S=sumZ (hadT zs U V):=⟨_,rfl⟩;have HS0:=Aa (show S 0=0 by rw[hS];rfl);rw[←hS]at Hmix Hrng Hsum;have HS:=Aa hS;clear hS;go_wp2_with fail
     go_loopw [6,7] (fun n y wr3=>∃ Y:Nat,Y≤4∧y= .int .i64 Y∧n= .int .i64 (S (4*Y))∧Ext wo2 wr3) (fun _ y _=>4-(intOf y).toNat)
     case atStart=>exact⟨0,by omega,rfl,by rw[Nat.mul_zero,HS0.out],Below.refl _ _⟩
     case round =>
      obtain⟨Y,hY,rfl,rfl,E4⟩:=hrel;obtain⟨wo3,rfl⟩:∃ wo3:World,wo3=wr:=⟨_,rfl⟩
      by_cases hltY:Y<4
      ·have hdY:decide ((Y:Int)<4)=true:=by simp;omega
       go_wp2_with fail
       go_loopw [6,8] (fun n x wr4=>∃ X:Nat,X≤4∧x= .int .i64 X∧n= .int .i64 (S (4*Y+X))∧Ext wo2 wr4) (fun _ x _=>4-(intOf x).toNat)
       case atStart=>exact⟨0,by omega,rfl,rfl,E4⟩
       case round =>
        obtain⟨X,hX,rfl,rfl,E5⟩:=hrel;obtain⟨wo4,rfl⟩:∃ wo4:World,wo4=wr:=⟨_,rfl⟩;clear E4
        by_cases hltX:X<4
        ·have hdX:decide ((X:Int)<4)=true:=by simp;omega
         have hn0:=Hrng.out (4*Y+X) (by omega);have hsm:=Hsum.out (4*Y+X);rw[show(4*Y+X)/4=Y by omega,show(4*Y+X)%4=X by omega]at hsm;have g1:=Jk hltU hltY;have g2:=Jk hltV hltX;have hz:=HB.out (4*Y+X);have hc:=(r0.ext E5).cell (i:=4*Y+X) (by rw[Hl.out];omega);have C:=Aa hc;have HA1:=Aa (fun w=>JD U Y w hltU hltY);have HA2:=Aa (fun w=>JD V X w hltV hltX);generalize sgn U Y=s1 at *;generalize sgn V X=s2 at *;generalize nth zs (4*Y+X)=z at *;have hp : -1≤s1*s2∧s1*s2≤1:=by rcases g1 with h|h <;> rcases g2 with h2|h2 <;> rw[h,h2] <;> omega
         have hpz : -1048576≤s1*s2*z∧s1*s2*z≤1048576:=by rcases g1 with h|h <;> rcases g2 with h2|h2 <;> rw[h,h2] <;> omega
         have Hsm:=Aa hsm;have Hnx:=Aa (Hrng.out (4*Y+X+1) (by omega));obtain⟨N,hN⟩:∃ N,N=S (4*Y+X):=⟨_,rfl⟩;rw[←hN]at hn0 Hsm⊢;have HN:=Aa hN;clear hsm hc hN g1 g2;go_wp2_with fail
         refine An (by kernel_rfl) [(6,16),(26,0),(27,1),(28,2),(29,3),(30,4),(31,5),(32,6),(33,7),(34,8),(35,9),(36,10),(37,11),(38,12),(39,13),(40,14),(41,15)] [[],[],[],[1,2],[],[],[1,2,3,4,5],[1,2,3,4,5,6],[],[8],[],[8,9,10],[8,9,10,11],[8,9,10,11,12],[1,2,3,4,5,6,7,8,9,10,11,12,13],[0,1,2,3,4,5,6,7,8,9,10,11,12,13,14],[0,1,2,3,4,5,6,7,8,9,10,11,12,13,14,15]] (fun i own ys wx=>match i with|0=>own= .int .i64 N|1=>own= .int .i64 (U:Nat)|2=>own= .int .i64 (Y:Nat)|3=>own= .int .i64 s1|4=>own= .int .i64 (V:Nat)|5=>own= .int .i64 (X:Nat)|6=>own= .int .i64 s2|7=>own= .int .i64 (s1*s2)|8=>own= .int .i64 (Y:Nat)|9=>own= .int .i64 (4*(Y:Int))|10=>own= .int .i64 (X:Nat)|11=>own= .int .i64 (4*(Y:Int)+(X:Int))|12=>own= .pointer (some ⟨B,4*Y+X,none⟩)|13=>own= .int .i64 z|14=>own= .int .i64 (s1*s2*z)|15=>own= .int .i64 (N+s1*s2*z)|16=>own= .int .i64 (N+s1*s2*z)|_=>True) (fun kx wx=>Ext wo4 wx) (by kernel_rfl) (by kernel_rfl) (by kernel_rfl) ?g0_r1 ?gop_r1 ?gend_r1
         case g0_r1=>exact Ext.drewN _ 1
         case gop_r1 =>
          refine⟨?o0,?_,?_,?o3,?_,?_,?o6,?o7,?_,?o9,?_,?o11,?o12,?o13,?o14,?o15,?o16,trivial⟩ <;> (intro kx xs wx hk hG hD hI Qo Kx hK hQo;simp only[Ad,Nat.reduceAdd,Nat.reduceEqDiff,↓reduceIte]at hQo⊢)
          case o0 =>
           have i16:=hI 16 6 rfl rfl;simp only[List.getD_cons_succ,List.getD_cons_zero]at i16;clear hD hI;rw[i16]at hQo⊢;clear i16;go_wp2;exact hK.out _ _ ⟨rfl,hG,kkp⟩
          case o3 =>
           rw[ddq (hD 1 rfl),ddq (hD 2 rfl)]at hQo⊢;clear hD hI;go_wp2_with fail
           refine(HA1.out _).mono ?_
           rintro e w9 ⟨rfl,rfl⟩
           go_wp2;exact hK.out _ _ ⟨rfl,hG,kkp⟩
          case o6 =>
           rw[ddq (hD 4 rfl),ddq (hD 5 rfl)]at hQo⊢;clear hD hI;go_wp2_with fail
           refine(HA2.out _).mono ?_
           rintro e w9 ⟨rfl,rfl⟩
           go_wp2;exact hK.out _ _ ⟨rfl,hG,kkp⟩
          case o7 =>
           rw[ddq (hD 3 rfl),ddq (hD 6 rfl)]at hQo⊢;clear hD hI;go_wp2;exact hK.out _ _ ⟨rfl,hG,kkp⟩
          case o9 =>
           rw[ddq (hD 8 rfl)]at hQo⊢;clear hD hI;go_wp2;exact hK.out _ _ ⟨rfl,hG,kkp⟩
          case o11 =>
           rw[ddq (hD 9 rfl),ddq (hD 10 rfl)]at hQo⊢;clear hD hI;go_wp2;exact hK.out _ _ ⟨rfl,hG,kkp⟩
          case o12 =>
           rw[ddq (hD 11 rfl)]at hQo⊢;clear hD hI;go_wp2;exact hK.out _ _ ⟨rfl,hG,kkp⟩
          case o13 =>
           rw[ddq (hD 12 rfl)]at hQo⊢;clear hD hI;have cx:=AI hG C.out;go_wp2;exact hK.out _ _ ⟨rfl,hG,kkp⟩
          case o14 =>
           rw[ddq (hD 7 rfl),ddq (hD 13 rfl)]at hQo⊢;clear hD hI;go_wp2;exact hK.out _ _ ⟨rfl,hG,kkp⟩
          case o15 =>
           rw[ddq (hD 0 rfl),ddq (hD 14 rfl)]at hQo⊢;clear hD hI;go_wp2;exact hK.out _ _ ⟨rfl,hG,kkp⟩
          case o16 =>
           rw[ddq (hD 15 rfl)]at hQo⊢;clear hD hI;go_wp2;exact hK.out _ _ ⟨rfl,hG,kkp⟩
          all_goals
           clear hD hI;go_wp2;exact hK.out _ _ ⟨rfl,hG,kkp⟩
         intro xs wx hV hG;have d16:_=_:=hV 16 (by decide);clear hV;simp only[Ad,Nat.reduceAdd,Nat.reduceEqDiff,↓reduceIte];generalize xs 0=y0,xs 1=y1,xs 2=y2,xs 3=y3,xs 4=y4,xs 5=y5,xs 6=y6,xs 7=y7,xs 8=y8,xs 9=y9,xs 10=y10,xs 11=y11,xs 12=y12,xs 13=y13,xs 14=y14,xs 15=y15,xs 16=y16 at *
         replace hG:Ext wo4 wx:=hG
         subst d16;go_wp2;go_roundw
         case rel=>exact⟨X+1,by omega,by go_num,by rw[←Nat.add_assoc,Hsm.out],E5.trans hG⟩
         case measure=>simp[intOf];omega
        ·obtain rfl:X=4:=by omega
         go_wp2;go_roundw
         case rel=>exact⟨Y+1,by omega,by go_num,by rw[mul4],E5⟩
         case measure=>simp[intOf];omega
      ·obtain rfl:Y=4:=by omega
       have hn0:=Hrng.out (4*4) (by omega);have r2':=r2.ext E4;have cB:=r2'.cell (i:=4*U+V) (by rw[AE _ _ _ 16 (BD _) Hz.out];omega);have fB:=r2'.frozen (4*U+V);go_wp2;go_roundw
       case rel =>
        have s2':=r2'.set (4*U+V) (S (4*4));rw[show 4*4=16 from rfl,Hmix.out]at s2';exact⟨V+1,by omega,by go_num,Ext.grown (E3.trans E4) (Ax _ _ _ _) (fun q hq=>by cases hq;omega),(r0.ext E4).set_other (by omega),(r1.ext E4).set_other (by omega),s2'⟩
       case measure=>simp[intOf];omega
    ·obtain rfl:V=4:=by omega
     go_wp2;go_roundw
     case rel=>exact⟨U+1,by omega,by go_num,E3,r0,r1,by rw[mul4];exact r2⟩
     case measure=>simp[intOf];omega
  ·obtain rfl:U=4:=by omega
   rw[show 4*4=16 from rfl,AY _ _ 16 (BD _) Hz.out]at q2;have HL:=Aa (BD zs);go_wp2_with (first|(refine Ab 47 _ rfl rfl q2 0 16 rfl _ Rm rfl Ag (by rw[HL.out];omega) _ (by rw[Ak _ _ HL.out]) ?_)|(refine Af 47 _ _ rfl rfl q1 0 16 rfl _ rfl _ rfl Ag HL.out (by simp) ?_;intro w6 p6 g6;refine Hid.out ?_))
   rw[Ap (by rw[HL.out];simp)]at p6;have E6:Ext w w6:=Ext.grown E2 g6 (fun q hq=>by cases hq;omega);refine Aa ?_;go_wp2;exact bodyPost_ret (v := .agg (ic (had zs))) (results_cell_row rfl _ _ (B+1) 47 (ic (had zs)) (0,0) _ rfl p6 Rm rfl (by rw[AJ,BD];exact Ag)) rfl ⟨rfl,E6⟩
theorem Gb (x y:Int)(w:World)(h:vv x y):
 Calls Tryz.prog 126 #[.agg #[.int .i64 x,.int .i64 y]] w fun e w'=>e= .returned (.bool true)∧Ext w w':=by
 obtain⟨h1,h2,h3,h4⟩:=h;go_enter Tryz.func126,Tryz.ntmps126
 go_wp2_with fail
 refine(Az _ _ _ _ h1 h2).mono ?_
 rintro e w1 ⟨rfl,rfl⟩
 go_wp2_with fail
 refine(Az _ _ _ _ h3 h4).mono ?_
 rintro e w1 ⟨rfl,rfl⟩
 go_wp2;go_ret
 exact⟨rfl,Ext.alloc _ _⟩
theorem GB (x y:Int)(w:World)(h : ¬ vv x y):
 Calls Tryz.prog 126 #[.agg #[.int .i64 x,.int .i64 y]] w fun e w'=>e= .returned (.bool false)∧Ext w w':=by
 unfold vv at h
 by_cases h1 : -16≤x∧x≤16
 ·have h2:=Aa (show y < -16∨16<y by omega);clear h;go_enter Tryz.func126,Tryz.ntmps126
  go_wp2_with fail
  refine(Az _ _ _ _ h1.1 h1.2).mono ?_
  rintro e w1 ⟨rfl,rfl⟩
  go_wp2_with fail
  refine(BU _ _ _ _ h2.out).mono ?_
  rintro e w1 ⟨rfl,rfl⟩
  go_wp2;go_ret
  exact⟨rfl,Ext.alloc _ _⟩
 ·have h2:=Aa (show x < -16∨16<x by omega);clear h h1;go_enter Tryz.func126,Tryz.ntmps126
  go_wp2_with fail
  refine(BU _ _ _ _ h2.out).mono ?_
  rintro e w1 ⟨rfl,rfl⟩
  go_wp2;go_ret
  exact⟨rfl,Ext.alloc _ _⟩
theorem GH (zs:List Int)(B:Int)(w:World)(hl:zs.length=16)(hB:0≤B)(hB2:B≤1099511627776):
 Calls Tryz.prog 118 #[.agg (ic zs),.int .i64 B] w fun e w'=>e= .returned (.bool (inB B zs))∧Ext w w':=by
 have H:=IB.new w 47 zs;have Hl:=Aa hl;clear hl;go_enter Tryz.func118,Tryz.ntmps118
 go_wp2;go_loopw [5] (fun i wr=>∃ k:Nat,k≤16∧i= .int .i64 k∧Ext w wr∧IB wr w.heap.size 47 zs∧Hid (∀ j,j<k → -B≤nth zs j∧nth zs j≤B)) (fun i _=>16-(intOf i).toNat)
 case atStart=>exact⟨0,by omega,rfl,Ext.alloc _ _,H,Aa (fun j hj=>by omega)⟩
 case round =>
  obtain⟨k,hk,rfl,E2,H2,hall⟩:=hrel;clear H
  by_cases hlt:k<16
  ·have hc:=H2.cell (i:=k) (by rw[Hl.out];exact hlt)
   by_cases h1 : -B≤nth zs k∧nth zs k≤B
   ·have hall2:=Aa (show ∀ j,j<k+1 → -B≤nth zs j∧nth zs j≤B from fun j hj=>by
     by_cases hjk:j=k
     ·subst hjk;exact h1
     ·exact hall.out j (by omega))
    go_wp2_with fail
    refine(Az _ _ _ _ h1.1 h1.2).mono ?_
    rintro e w1 ⟨rfl,rfl⟩
    clear h1;go_wp2;go_roundw
    case rel=>exact⟨k+1,by omega,by go_num,E2,H2,hall2⟩
    case measure=>simp[intOf];omega
   ·have hno:=Aa (K7 (B:=B) (j:=k) (by rw[Hl.out];exact hlt) (by omega));have h2:=Aa (show nth zs k < -B∨B<nth zs k by omega);clear h1;go_wp2_with fail
    refine(BU _ _ _ _ h2.out).mono ?_
    rintro e w1 ⟨rfl,rfl⟩
    go_wp2;go_ret
    exact⟨(Ay hno.out).symm,E2⟩
  ·obtain rfl:k=16:=by omega
   have hy:=Aa (DY (B:=B) (zs:=zs) (by rw[Hl.out];exact hall.out));go_wp2;go_ret
   exact⟨(Ay hy.out).symm,E2⟩
theorem GA (m:Mac)(w:World)(h:m.ok):
 Calls Tryz.prog 81 #[.agg (ic m.zs)] w fun e w'=>e= .returned (.bool (decide m.valid))∧Ext w w':=by
 have H:=IB.new w 50 m.zs;have Hl:=Aa (Mac.zs_len h);have Hm:=Aa h;have hkc:=H.cell (i:=0) (by rw[Hl.out];omega);rw[Mac.zs_kind]at hkc;clear h
 by_cases hk:0≤m.kind∧m.kind≤2
 ·have Hk:=Aa hk
  by_cases hv:vv m.x m.y
  ·have Hvv:=Aa hv;clear hk hv;go_enter Tryz.func81,Tryz.ntmps81
   go_wp2_with fail
   refine(Az _ _ _ _ Hk.out.1 Hk.out.2).mono ?_
   rintro e w1 ⟨rfl,rfl⟩
   go_wp2_with (refine Ab 45 _ rfl rfl H 1 2 rfl _ Rr rfl Av (by rw[Hl.out];omega) _ Mac.zs_mv ?_)
   refine(Gb m.x m.y _ Hvv.out).mono ?_
   rintro e w2 ⟨rfl,e2⟩
   have H2:=H.ext e2;have E2:=(Ext.alloc w (.cells (ic m.zs) 50)).trans e2;clear H e2 hkc;go_wp2_with fail
   go_loopw [3] (fun i wr=>∃ k:Nat,k≤4∧i= .int .i64 k∧Ext w wr∧IB wr w.heap.size 50 m.zs∧Hid (∀ j,j<k→(0≤nth m.modes j∧nth m.modes j≤4)∧inB 4080 (sub m.lv (j*16) 16)=true)) (fun i _=>4-(intOf i).toNat)
   case atStart=>exact⟨0,by omega,rfl,E2,H2,Aa (fun j hj=>by omega)⟩
   case round =>
    obtain⟨k,hk,rfl,E4,H4,hall⟩:=hrel;clear H2 E2
    by_cases hlt:k<4
    ·have hmc:=H4.cell (i:=3+k) (by rw[Hl.out];omega);rw[Mac.nth_mode Hm.out k hlt]at hmc
     by_cases h1:0≤nth m.modes k∧nth m.modes k≤4
     ·have hbl:=Bv m.lv (k*16) 16 (by rw[Hm.out.lv];omega);have Hbl:=Aa hbl;have Hsb:=Aa (Mac.zs_blk Hm.out k hlt);clear hbl;go_wp2_with fail
      refine(Az _ _ _ _ h1.1 h1.2).mono ?_
      rintro e w5 ⟨rfl,rfl⟩
      have H1:=Aa h1;clear h1 hmc;go_wp2_with (refine Ab 47 _ rfl rfl H4 (7+k*16) 16 rfl _ Rm rfl Ag (by rw[Hl.out];omega) _ (by rw[Hsb.out]) ?_)
      refine(GH _ 4080 _ Hbl.out (by omega) (by omega)).mono ?_
      rintro e w6 ⟨rfl,e6⟩
      have E6:=E4.trans e6;have H6:=H4.ext e6;clear E4 H4 e6;cases hb:inB 4080 (sub m.lv (k*16) 16)
      ·have hr:=Aa (show decide m.valid=false from decide_eq_false (fun h=>by
        have:=(CB Hm.out.lv).1 h.2.2.2.2.2.2 k hlt;rw[hb]at this;cases this))
       clear hb;go_wp2;go_ret
       exact⟨(Ay hr.out).symm,E6⟩
      ·have hall2:=Aa (show ∀ j,j<k+1→(0≤nth m.modes j∧nth m.modes j≤4)∧inB 4080 (sub m.lv (j*16) 16)=true from fun j hj=>by
        by_cases hjk:j=k
        ·subst hjk;exact⟨H1.out,hb⟩
        ·exact hall.out j (by omega))
       clear hb;go_wp2;go_roundw
       case rel=>exact⟨k+1,by omega,by go_num,E6,H6,hall2⟩
       case measure=>simp[intOf];omega
     ·have h2:=Aa (show nth m.modes k<0∨4<nth m.modes k by omega);have hr:=Aa (show decide m.valid=false from decide_eq_false (fun h=>h1 (by
       by_cases hk2:m.kind=2
       ·exact h.2.2.2.2.1 hk2 k hlt
       ·rw[h.2.2.2.1 hk2,OI hlt];omega)))
      clear h1;go_wp2_with fail
      refine(BU _ _ _ _ h2.out).mono ?_
      rintro e w5 ⟨rfl,rfl⟩
      go_wp2;go_ret
      exact⟨(Ay hr.out).symm,E4⟩
    ·obtain rfl:k=4:=by omega
     have hLv:inB 4080 m.lv=true:=(CB Hm.out.lv).2 (fun k hk=>(hall.out k hk).2);have hMo:∀ j,j<4→0≤nth m.modes j∧nth m.modes j≤4:=fun j hj=>(hall.out j hj).1
     obtain hk0|hk1|hk2:m.kind=0∨m.kind=1∨m.kind=2:=by have:=Hk.out;omega
     ·have k0:=H4.cell (i:=0) (by rw[Hl.out];omega);rw[Mac.zs_kind,hk0]at k0
      by_cases hxy:m.x=0∧m.y=0
      ·by_cases hmo:m.modes=Bn
       ·by_cases hlz:m.lv=CI
        ·have Hv:=Aa (Fa m.x m.y true (by simpa using hxy));have Hd2:=Aa (show decide (m.modes=List.replicate 4 0)=true by simpa [Bn] using hmo);have Hd3:=Aa (show decide (m.lv=List.replicate 64 0)=true by simpa [CI] using hlz);have hr:=Aa (show decide m.valid=true from decide_eq_true ⟨Hk.out,Hvv.out,fun _=>hxy,fun _=>hmo,fun h=>(by omega),fun _=>hlz,hLv⟩);clear hxy hmo hlz hk0 hall hLv hMo;go_wp2_with (first|go_skip|(refine Ab 45 _ rfl rfl H4 1 2 rfl _ Rr rfl Av (by rw[Hl.out];omega) _ Mac.zs_mv ?_)|(refine Ab 46 _ rfl rfl H4 3 4 rfl _ Rp rfl BZ (by rw[Hl.out];omega) _ (by rw[Mac.zs_modes Hm.out]) ?_)|(refine Ab 48 _ rfl rfl H4 7 64 rfl _ Rs rfl Be (by rw[Hl.out];omega) _ (by rw[Mac.zs_lv Hm.out]) ?_)|(refine AP 46 rfl rfl Rp AC 4 Dq ?_)|(refine AP 48 rfl rfl Rs Ag 64 DW ?_)|(refine Ch 45 _ _ _ rfl rfl _ _ rfl rfl _ Hv.out A8 ?_)|(refine C6 46 _ _ _ rfl rfl _ _ rfl rfl _ _ rfl rfl Rp AC Dh Hm.out.modes (by simp) Cn _ Hd2.out ?_)|(refine BL 48 _ _ _ rfl rfl _ _ rfl rfl _ _ rfl rfl Rs Ag I7 Hm.out.lv (by simp) DX _ Hd3.out ?_))
         go_ret
         exact⟨(Ay hr.out).symm,E4⟩
        ·have Hv:=Aa (Fa m.x m.y true (by simpa using hxy));have Hd2:=Aa (show decide (m.modes=List.replicate 4 0)=true by simpa [Bn] using hmo);have Hd3:=Aa (show decide (m.lv=List.replicate 64 0)=false by simpa [CI] using hlz);have hr:=Aa (show decide m.valid=false from decide_eq_false (fun h=>hlz (h.2.2.2.2.2.1 hk0)));clear hxy hmo hlz hk0 hall hLv hMo;go_wp2_with (first|go_skip|(refine Ab 45 _ rfl rfl H4 1 2 rfl _ Rr rfl Av (by rw[Hl.out];omega) _ Mac.zs_mv ?_)|(refine Ab 46 _ rfl rfl H4 3 4 rfl _ Rp rfl BZ (by rw[Hl.out];omega) _ (by rw[Mac.zs_modes Hm.out]) ?_)|(refine Ab 48 _ rfl rfl H4 7 64 rfl _ Rs rfl Be (by rw[Hl.out];omega) _ (by rw[Mac.zs_lv Hm.out]) ?_)|(refine AP 46 rfl rfl Rp AC 4 Dq ?_)|(refine AP 48 rfl rfl Rs Ag 64 DW ?_)|(refine Ch 45 _ _ _ rfl rfl _ _ rfl rfl _ Hv.out A8 ?_)|(refine C6 46 _ _ _ rfl rfl _ _ rfl rfl _ _ rfl rfl Rp AC Dh Hm.out.modes (by simp) Cn _ Hd2.out ?_)|(refine BL 48 _ _ _ rfl rfl _ _ rfl rfl _ _ rfl rfl Rs Ag I7 Hm.out.lv (by simp) DX _ Hd3.out ?_))
         go_ret
         exact⟨(Ay hr.out).symm,E4⟩
       ·have Hv:=Aa (Fa m.x m.y true (by simpa using hxy));have Hd2:=Aa (show decide (m.modes=List.replicate 4 0)=false by simpa [Bn] using hmo);have hr:=Aa (show decide m.valid=false from decide_eq_false (fun h=>hmo (h.2.2.2.1 (by omega))));clear hxy hmo hk0 hall hLv hMo;go_wp2_with (first|go_skip|(refine Ab 45 _ rfl rfl H4 1 2 rfl _ Rr rfl Av (by rw[Hl.out];omega) _ Mac.zs_mv ?_)|(refine Ab 46 _ rfl rfl H4 3 4 rfl _ Rp rfl BZ (by rw[Hl.out];omega) _ (by rw[Mac.zs_modes Hm.out]) ?_)|(refine AP 46 rfl rfl Rp AC 4 Dq ?_)|(refine Ch 45 _ _ _ rfl rfl _ _ rfl rfl _ Hv.out A8 ?_)|(refine C6 46 _ _ _ rfl rfl _ _ rfl rfl _ _ rfl rfl Rp AC Dh Hm.out.modes (by simp) Cn _ Hd2.out ?_))
        go_ret
        exact⟨(Ay hr.out).symm,E4⟩
      ·have Hv:=Aa (Fa m.x m.y false (by simpa using hxy));have hr:=Aa (show decide m.valid=false from decide_eq_false (fun h=>hxy (h.2.2.1 (by omega))));clear hxy hk0 hall hLv hMo;go_wp2_with (first|go_skip|(refine Ab 45 _ rfl rfl H4 1 2 rfl _ Rr rfl Av (by rw[Hl.out];omega) _ Mac.zs_mv ?_)|(refine Ch 45 _ _ _ rfl rfl _ _ rfl rfl _ Hv.out A8 ?_))
       go_ret
       exact⟨(Ay hr.out).symm,E4⟩
     ·have k0:=H4.cell (i:=0) (by rw[Hl.out];omega);rw[Mac.zs_kind,hk1]at k0
      by_cases hmo:m.modes=Bn
      ·have Hd2:=Aa (show decide (m.modes=List.replicate 4 0)=true by simpa [Bn] using hmo);have hr:=Aa (show decide m.valid=true from decide_eq_true ⟨Hk.out,Hvv.out,fun h=>absurd hk1 h,fun _=>hmo,fun h=>(by omega),fun h=>(by omega),hLv⟩);clear hmo hk1 hall hLv hMo;go_wp2_with (first|go_skip|(refine Ab 46 _ rfl rfl H4 3 4 rfl _ Rp rfl BZ (by rw[Hl.out];omega) _ (by rw[Mac.zs_modes Hm.out]) ?_)|(refine AP 46 rfl rfl Rp AC 4 Dq ?_)|(refine C6 46 _ _ _ rfl rfl _ _ rfl rfl _ _ rfl rfl Rp AC Dh Hm.out.modes (by simp) Cn _ Hd2.out ?_))
       go_ret
       exact⟨(Ay hr.out).symm,E4⟩
      ·have Hd2:=Aa (show decide (m.modes=List.replicate 4 0)=false by simpa [Bn] using hmo);have hr:=Aa (show decide m.valid=false from decide_eq_false (fun h=>hmo (h.2.2.2.1 (by omega))));clear hmo hk1 hall hLv hMo;go_wp2_with (first|go_skip|(refine Ab 46 _ rfl rfl H4 3 4 rfl _ Rp rfl BZ (by rw[Hl.out];omega) _ (by rw[Mac.zs_modes Hm.out]) ?_)|(refine AP 46 rfl rfl Rp AC 4 Dq ?_)|(refine C6 46 _ _ _ rfl rfl _ _ rfl rfl _ _ rfl rfl Rp AC Dh Hm.out.modes (by simp) Cn _ Hd2.out ?_))
       go_ret
       exact⟨(Ay hr.out).symm,E4⟩
     ·have k0:=H4.cell (i:=0) (by rw[Hl.out];omega);rw[Mac.zs_kind,hk2]at k0
      by_cases hxy:m.x=0∧m.y=0
      ·have Hv:=Aa (Fa m.x m.y true (by simpa using hxy));have hr:=Aa (show decide m.valid=true from decide_eq_true ⟨Hk.out,Hvv.out,fun _=>hxy,fun h=>absurd hk2 h,fun _=>hMo,fun h=>(by omega),hLv⟩);clear hxy hk2 hall hLv hMo;go_wp2_with (first|go_skip|(refine Ab 45 _ rfl rfl H4 1 2 rfl _ Rr rfl Av (by rw[Hl.out];omega) _ Mac.zs_mv ?_)|(refine Ch 45 _ _ _ rfl rfl _ _ rfl rfl _ Hv.out A8 ?_))
       go_ret
       exact⟨(Ay hr.out).symm,E4⟩
      ·have Hv:=Aa (Fa m.x m.y false (by simpa using hxy));have hr:=Aa (show decide m.valid=false from decide_eq_false (fun h=>hxy (h.2.2.1 (by omega))));clear hxy hk2 hall hLv hMo;go_wp2_with (first|go_skip|(refine Ab 45 _ rfl rfl H4 1 2 rfl _ Rr rfl Av (by rw[Hl.out];omega) _ Mac.zs_mv ?_)|(refine Ch 45 _ _ _ rfl rfl _ _ rfl rfl _ Hv.out A8 ?_))
       go_ret
       exact⟨(Ay hr.out).symm,E4⟩
  ·have hr:=Aa (show decide m.valid=false from decide_eq_false (fun h=>hv h.2.1));clear hk;go_enter Tryz.func81,Tryz.ntmps81
   go_wp2_with fail
   refine(Az _ _ _ _ Hk.out.1 Hk.out.2).mono ?_
   rintro e w1 ⟨rfl,rfl⟩
   go_wp2_with (refine Ab 45 _ rfl rfl H 1 2 rfl _ Rr rfl Av (by rw[Hl.out];omega) _ Mac.zs_mv ?_)
   refine(GB m.x m.y _ hv).mono ?_
   rintro e w2 ⟨rfl,e2⟩
   clear hv hkc H;go_wp2;go_ret
   exact⟨(Ay hr.out).symm,(Ext.alloc _ _).trans e2⟩
 ·have hr:=Aa (show decide m.valid=false from decide_eq_false (fun h=>hk h.1));have h2:=Aa (show m.kind<0∨2<m.kind by omega);clear hk;go_enter Tryz.func81,Tryz.ntmps81
  go_wp2_with fail
  refine(BU _ _ _ _ h2.out).mono ?_
  rintro e w1 ⟨rfl,rfl⟩
  go_wp2;go_ret
  exact⟨(Ay hr.out).symm,Ext.alloc _ _⟩
theorem JM {xs ys:List Int}{n k j:Nat}(h1:xs.length=n)(h2:ys.length=n)(hj:k≤j)(hk:j<n):nth (mixI xs ys k) j=nth ys j:=by
 unfold nth mixI;have hl:(xs.take k).length=k:=by simp;omega
 rw[List.getD_eq_getElem?_getD,List.getElem?_append_right (by omega),List.getElem?_drop,hl,show k+(j-k)=j by omega,←List.getD_eq_getElem?_getD]
theorem JL (b:List Int){k:Nat}(h:k<16):nth (ihad b) k=(nth (had b) k+8)/16:=by
 have h1:k<(had b).length:=by rw[BD];exact h
 rw[Cc _ _ h1,Cc _ _ (by rw[Co];exact h)];simp[ihad]
theorem KV {b:List Int}(h:bdA 1048576 b):bdA 16777216 (had b):=KN (by omega) fun j hj=>by
 rw[BD]at hj;have:=NB (b:=b) (B:=1048576) (fun t _=>h t) hj;omega
theorem EP {b:List Int}{B M:Int}(hB:0≤M)(h:inB B b=true)(hm:B≤M):bdA M b:=KN hB fun j hj=>by
 have:=inB_iff.1 h j hj;omega
theorem GV (zs:List Int)(q:Nat){k:Nat}(h:k<zs.length):nth (zs.map (fun x=>dq x q)) k=dq (nth zs k) q:=by simp[nth,h]
theorem KS (zs:List Int)(q:Nat):inB 4080 (zs.map (fun x=>dq x q))=true:=DY fun j hj=>by
 rw[GV _ _ (by simpa using hj)];exact QI _ _
theorem FN {a b:Nat}(h:a<b):(some b:Option Nat)≠some a:=by simp;omega
theorem LM (n:Int)(w:World)(h1 : -1099511627776≤n)(h2:n≤1099511627776):
 Calls Tryz.prog 146 #[.int .i64 n,.int .i64 16] w fun e w'=>e= .returned (.int .i64 ((n+8)/16))∧w=w':=by
 by_cases h0:0≤n+8
 ·have hd0:decide ((n+8)%16<0)=false:=by
   have:=Int.emod_nonneg (n+8) (show(16:Int)≠0 by omega);simp;omega
  go_enter Tryz.func146,Tryz.ntmps146
  go_wp2;go_ret
  exact⟨rfl,rfl⟩
 ·obtain⟨t1,t2,t3,t4⟩:=J4 (by omega:n+8<0) (show(1:Int)≤16 by omega);have T3:=Aa t3;have T4:=Aa t4;clear t3 t4
  by_cases hm:(n+8).tmod 16<0
  ·have hd0:decide ((n+8).tmod 16<0)=true:=by simpa using hm
   go_enter Tryz.func146,Tryz.ntmps146
   go_wp2;go_ret
   exact⟨BY (T3.out hm),rfl⟩
  ·have hd0:decide ((n+8).tmod 16<0)=false:=by simpa using hm
   go_enter Tryz.func146,Tryz.ntmps146
   go_wp2;go_ret
   exact⟨BY (T4.out hm),rfl⟩
theorem Kc (zs:List Int)(w:World)(hl:zs.length=16)(hb:bdA 1048576 zs):
 Calls Tryz.prog 122 #[.agg (ic zs)] w fun e w'=>e= .returned (.agg (ic (ihad zs)))∧Ext w w':=by
 have Hl:=Aa hl;have HB:=Aa hb;have HH:=Aa (BD zs);have HI:=Aa (Co zs);have Hbd:=Aa (KV hb);clear hl hb;have a2:=Ext.alloc (w.alloc (.cells (ic zs) 47)) (.cells (ic (List.replicate 16 0)) 47);have p0:=(IB.new w 47 zs).ext a2;have p1:=IB.new (w.alloc (.cells (ic zs) 47)) 47 (List.replicate 16 0);have E1:=(Ext.alloc w (.cells (ic zs) 47)).trans a2;simp only[World.size_alloc]at p1;clear a2;go_enter Tryz.func122,Tryz.ntmps122
 go_wp2_with (refine Ab 47 _ rfl rfl p0 0 16 rfl _ Rm rfl Ag (by rw[Hl.out];omega) _ (by rw[Ak _ _ (Hl.out)]) ?_)
 obtain⟨B,hB⟩:∃ B,B=w.heap.size:=⟨_,rfl⟩;rw[←hB]at p0 p1⊢;have hwB:w.heap.size≤B:=by omega
 have HB0:=Aa hB;clear hB;refine(FK zs _ Hl.out HB.out).mono ?_
 rintro e w1 ⟨rfl,e1⟩
 have q0:=p0.ext e1;have q1:=p1.ext e1;have E2:=E1.trans e1;have q2:=IB.new w1 47 (List.replicate 16 0);have l1:=q1.lt;have q1a:=q1.alloc (.cells (ic (List.replicate 16 0)) 47);have q0a:=q0.alloc (.cells (ic (List.replicate 16 0)) 47);have E2a:=E2.trans (Ext.alloc w1 (.cells (ic (List.replicate 16 0)) 47));have hs2:=E2.size;clear p0 p1 E1 e1 q0 q1 E2;go_wp2_with (refine Af 47 _ _ rfl rfl q2 0 16 rfl _ rfl _ rfl Ag (HH.out) (by simp) ?_;intro w2 i2 g2;refine Hid.out ?_)
 rw[Ap (by rw[HH.out];simp)]at i2;have E3:Ext w w2:=Ext.grown E2a g2 (fun k e=>by cases e;omega);have q0:=q0a.gr g2 (FN (by omega));have q1:=q1a.gr g2 (FN (by omega));obtain⟨O,hO⟩:∃ O,O=w1.heap.size:=⟨_,rfl⟩;rw[←hO]at i2 l1⊢;have hwO:w.heap.size≤O:=by omega
 have HO:=Aa hO;clear hO hs2 q0a q1a E2a q2 g2;refine Aa ?_;go_wp2_with fail
 go_loopw [4] (fun i wr=>∃ k:Nat,k≤16∧i= .int .i64 k∧Ext w wr∧IB wr (B+1) 47 (List.replicate 16 0)∧IB wr O 47 (mixI (ihad zs) (had zs) k)) (fun i _=>16-(intOf i).toNat)
 case atStart=>exact⟨0,by omega,rfl,E3,q1,by rw[AO];exact i2⟩
 case round =>
  obtain⟨k,hk,rfl,E4,r1,r2⟩:=hrel;clear q0 q1 i2 E3
  by_cases hlt:k<16
  ·have hd:decide ((k:Int)<16)=true:=by simp;omega
   have c0:=r2.cell (i:=k) (by rw[AE _ _ _ 16 HI.out HH.out];exact hlt);rw[JM HI.out HH.out (Nat.le_refl _) hlt]at c0;have f0:=r2.frozen k;have hbk:=Hbd.out k;have hset:=Bl (ihad zs) (had zs) k 16 HI.out HH.out hlt;rw[JL _ hlt]at hset;have Hset:=Aa hset;clear hset;generalize nth (had zs) k=z at *;go_wp2_with fail
   refine(LM z _ (by omega) (by omega)).mono ?_
   rintro e w3 ⟨rfl,rfl⟩
   go_wp2;go_roundw
   case rel=>exact⟨k+1,by omega,by go_num,Ext.grown E4 (Ax _ _ _ _) (fun q hq=>by cases hq;omega),r1.set_other (by omega),by rw[←Hset.out];exact r2.set k _⟩
   case measure=>simp[intOf];omega
  ·obtain rfl:k=16:=by omega
   rw[AY _ _ 16 HI.out HH.out]at r2;go_wp2_with (first|(refine Ab 47 _ rfl rfl r2 0 16 rfl _ Rm rfl Ag (by rw[HI.out];omega) _ (by rw[Ak _ _ (HI.out)]) ?_)|(refine Af 47 _ _ rfl rfl r1 0 16 rfl _ rfl _ rfl Ag (HI.out) (by simp) ?_;intro w6 p6 g6;refine Hid.out ?_))
   rw[Ap (by rw[HI.out];simp)]at p6;have E6:Ext w w6:=Ext.grown E4 g6 (fun q hq=>by cases hq;omega);refine Aa ?_;go_wp2;exact bodyPost_ret (v := .agg (ic (ihad zs))) (results_cell_row rfl _ _ (B+1) 47 (ic (ihad zs)) (0,0) _ rfl p6 Rm rfl (by rw[AJ,Co];exact Ag)) rfl ⟨rfl,E6⟩
theorem Fp (zs:List Int)(w:World)(hl:zs.length=16)(hb:inB 4080 zs=true):
 Calls Tryz.prog 97 #[.agg (ic zs)] w fun e w'=>e= .returned (.agg (ic (ihad zs)))∧Ext w w':=by
 have hbA:=EP (M:=1048576) (by omega) hb (by omega);have Hl:=Aa hl;have HB:=Aa hbA;have HW:=Aa hb;have HH:=Aa (BD zs);have HI:=Aa (Co zs);have Hbd:=Aa (KV hbA);clear hl hb hbA;have a2:=Ext.alloc (w.alloc (.cells (ic zs) 47)) (.cells (ic (List.replicate 16 0)) 47);have p0:=(IB.new w 47 zs).ext a2;have p1:=IB.new (w.alloc (.cells (ic zs) 47)) 47 (List.replicate 16 0);have E1:=(Ext.alloc w (.cells (ic zs) 47)).trans a2;simp only[World.size_alloc]at p1;clear a2;go_enter Tryz.func97,Tryz.ntmps97
 go_wp2_with (refine Ab 47 _ rfl rfl p0 0 16 rfl _ Rm rfl Ag (by rw[Hl.out];omega) _ (by rw[Ak _ _ (Hl.out)]) ?_)
 obtain⟨B,hB⟩:∃ B,B=w.heap.size:=⟨_,rfl⟩;rw[←hB]at p0 p1⊢;have hwB:w.heap.size≤B:=by omega
 have HB0:=Aa hB;clear hB;refine(A4 zs 4080 _ Hl.out (by omega) (by omega)).mono ?_;rw[HW.out]
 rintro e w0 ⟨rfl,e0⟩
 have p0a:=p0.ext e0;have p1a:=p1.ext e0;have E0a:=E1.trans e0;clear p0 p1 E1 e0;have p0:=p0a;have p1:=p1a;have E1:=E0a;clear p0a p1a E0a;go_wp2_with (refine Ab 47 _ rfl rfl p0 0 16 rfl _ Rm rfl Ag (by rw[Hl.out];omega) _ (by rw[Ak _ _ (Hl.out)]) ?_)
 refine(EC zs _ Hl.out HB.out).mono ?_
 rintro e w1 ⟨rfl,e1⟩
 have q0:=p0.ext e1;have q1:=p1.ext e1;have E2:=E1.trans e1;have q2:=IB.new w1 47 (List.replicate 16 0);have l1:=q1.lt;have q1a:=q1.alloc (.cells (ic (List.replicate 16 0)) 47);have q0a:=q0.alloc (.cells (ic (List.replicate 16 0)) 47);have E2a:=E2.trans (Ext.alloc w1 (.cells (ic (List.replicate 16 0)) 47));have hs2:=E2.size;clear p0 p1 E1 e1 q0 q1 E2;go_wp2_with (refine Af 47 _ _ rfl rfl q2 0 16 rfl _ rfl _ rfl Ag (HH.out) (by simp) ?_;intro w2 i2 g2;refine Hid.out ?_)
 rw[Ap (by rw[HH.out];simp)]at i2;have E3:Ext w w2:=Ext.grown E2a g2 (fun k e=>by cases e;omega);have q0:=q0a.gr g2 (FN (by omega));have q1:=q1a.gr g2 (FN (by omega));obtain⟨O,hO⟩:∃ O,O=w1.heap.size:=⟨_,rfl⟩;rw[←hO]at i2 l1⊢;have hwO:w.heap.size≤O:=by omega
 have HO:=Aa hO;clear hO hs2 q0a q1a E2a q2 g2;refine Aa ?_;go_wp2_with (refine Ab 47 _ rfl rfl i2 0 16 rfl _ Rm rfl Ag (by rw[HH.out];omega) _ (by rw[Ak _ _ (HH.out)]) ?_)
 go_loopw [13] (fun i wr=>∃ k:Nat,k≤16∧i= .int .i64 k∧Ext w wr∧IB wr (B+1) 47 (List.replicate 16 0)∧IB wr O 47 (mixI (ihad zs) (had zs) k)) (fun i _=>16-(intOf i).toNat)
 case atStart=>exact⟨0,by omega,rfl,E3,q1,by rw[AO];exact i2⟩
 case round =>
  obtain⟨k,hk,rfl,E4,r1,r2⟩:=hrel;clear q0 q1 i2 E3
  by_cases hlt:k<16
  ·have hd:decide ((k:Int)<16)=true:=by simp;omega
   have c0:=r2.cell (i:=k) (by rw[AE _ _ _ 16 HI.out HH.out];exact hlt);have f0:=r2.frozen k;have hbk:=Hbd.out k;have hset:=Bl (ihad zs) (had zs) k 16 HI.out HH.out hlt;rw[JL _ hlt]at hset;have Hset:=Aa hset;clear hset;go_wp2_with (refine AF _ _ _ rfl rfl (had zs) rfl k 16 _ rfl rfl _ Rm Rt AC hlt HH.out ?_)
   go_roundw
   case rel=>exact⟨k+1,by omega,by go_num,Ext.grown E4 (Ax _ _ _ _) (fun q hq=>by cases hq;omega),r1.set_other (by omega),by rw[←Hset.out];exact r2.set k _⟩
   case measure=>simp[intOf];omega
  ·obtain rfl:k=16:=by omega
   rw[AY _ _ 16 HI.out HH.out]at r2;go_wp2_with (first|(refine Ab 47 _ rfl rfl r2 0 16 rfl _ Rm rfl Ag (by rw[HI.out];omega) _ (by rw[Ak _ _ (HI.out)]) ?_)|(refine Af 47 _ _ rfl rfl r1 0 16 rfl _ rfl _ rfl Ag (HI.out) (by simp) ?_;intro w6 p6 g6;refine Hid.out ?_))
   rw[Ap (by rw[HI.out];simp)]at p6;have E6:Ext w w6:=Ext.grown E4 g6 (fun q hq=>by cases hq;omega);refine Aa ?_;go_wp2;exact bodyPost_ret (v := .agg (ic (ihad zs))) (results_cell_row rfl _ _ (B+1) 47 (ic (ihad zs)) (0,0) _ rfl p6 Rm rfl (by rw[AJ,Co];exact Ag)) rfl ⟨rfl,E6⟩
theorem DC (zs:List Int)(q:Nat)(w:World)(hT:TabQ w)(hl:zs.length=16)(hb:inB 255 zs=true)(hq:q<16):
 Calls Tryz.prog 47 #[.agg (ic zs),.int .i64 q] w fun e w'=>e= .returned (.agg (ic (cod zs q)))∧Ext w w':=by
 have hbA:=EP (M:=1048576) (by omega) hb (by omega);have Hbd:=Aa (fun k (hk:k<16)=>Gg hl hb hk);have Hl:=Aa hl;have HB:=Aa hbA;have HW:=Aa hb;have HT:=Aa hT;have HH:=Aa (BD zs);have HI:=Aa (BF zs q);clear hl hb hbA hT;have a2:=Ext.alloc (w.alloc (.cells (ic zs) 47)) (.cells (ic (List.replicate 16 0)) 47);have p0:=(IB.new w 47 zs).ext a2;have p1:=IB.new (w.alloc (.cells (ic zs) 47)) 47 (List.replicate 16 0);have E1:=(Ext.alloc w (.cells (ic zs) 47)).trans a2;simp only[World.size_alloc]at p1;clear a2;go_enter Tryz.func47,Tryz.ntmps47
 go_wp2_with fail
 obtain⟨B,hB⟩:∃ B,B=w.heap.size:=⟨_,rfl⟩;rw[←hB]at p0 p1⊢;have hwB:w.heap.size≤B:=by omega
 have HB0:=Aa hB;clear hB;refine(Bw _ _ (by omega) (by omega)).mono ?_
 rintro e w0 ⟨rfl,rfl⟩
 go_wp2_with (refine Ab 47 _ rfl rfl p0 0 16 rfl _ Rm rfl Ag (by rw[Hl.out];omega) _ (by rw[Ak _ _ (Hl.out)]) ?_)
 refine(A4 zs 255 _ Hl.out (by omega) (by omega)).mono ?_;rw[HW.out]
 rintro e w0 ⟨rfl,e0⟩
 have p0a:=p0.ext e0;have p1a:=p1.ext e0;have E0a:=E1.trans e0;clear p0 p1 E1 e0;have p0:=p0a;have p1:=p1a;have E1:=E0a;clear p0a p1a E0a;go_wp2_with (refine Ab 47 _ rfl rfl p0 0 16 rfl _ Rm rfl Ag (by rw[Hl.out];omega) _ (by rw[Ak _ _ (Hl.out)]) ?_)
 refine(EC zs _ Hl.out HB.out).mono ?_
 rintro e w1 ⟨rfl,e1⟩
 have q0:=p0.ext e1;have q1:=p1.ext e1;have E2:=E1.trans e1;have q2:=IB.new w1 47 (List.replicate 16 0);have l1:=q1.lt;have q1a:=q1.alloc (.cells (ic (List.replicate 16 0)) 47);have q0a:=q0.alloc (.cells (ic (List.replicate 16 0)) 47);have E2a:=E2.trans (Ext.alloc w1 (.cells (ic (List.replicate 16 0)) 47));have hs2:=E2.size;clear p0 p1 E1 e1 q0 q1 E2;go_wp2_with (refine Af 47 _ _ rfl rfl q2 0 16 rfl _ rfl _ rfl Ag (HH.out) (by simp) ?_;intro w2 i2 g2;refine Hid.out ?_)
 rw[Ap (by rw[HH.out];simp)]at i2;have E3:Ext w w2:=Ext.grown E2a g2 (fun k e=>by cases e;omega);have q0:=q0a.gr g2 (FN (by omega));have q1:=q1a.gr g2 (FN (by omega));obtain⟨O,hO⟩:∃ O,O=w1.heap.size:=⟨_,rfl⟩;rw[←hO]at i2 l1⊢;have hwO:w.heap.size≤O:=by omega
 have HO:=Aa hO;clear hO hs2 q0a q1a E2a q2 g2;refine Aa ?_;go_wp2_with (refine Ab 47 _ rfl rfl i2 0 16 rfl _ Rm rfl Ag (by rw[HH.out];omega) _ (by rw[Ak _ _ (HH.out)]) ?_)
 go_loopw [20] (fun i wr=>∃ k:Nat,k≤16∧i= .int .i64 k∧Ext w wr∧IB wr (B+1) 47 (List.replicate 16 0)∧IB wr O 47 (mixI (cod zs q) (had zs) k)) (fun i _=>16-(intOf i).toNat)
 case atStart=>exact⟨0,by omega,rfl,E3,q1,by rw[AO];exact i2⟩
 case round =>
  obtain⟨k,hk,rfl,E4,r1,r2⟩:=hrel;clear q0 q1 i2 E3
  by_cases hlt:k<16
  ·have hd:decide ((k:Int)<16)=true:=by simp;omega
   have hbk:=Hbd.out k hlt;have hset:=Bl (cod zs q) (had zs) k 16 HI.out HH.out hlt;rw[Lc _ _ hlt]at hset;have Hset:=Aa hset;clear hset;go_wp2_with (refine AF _ _ _ rfl rfl (had zs) rfl k 16 _ rfl rfl _ Rm Rt AC hlt HH.out ?_)
   refine(Iv (nth (had zs) k) q _ (HT.out.ext E4) hbk.1 hbk.2 hq).mono ?_
   rintro e w3 ⟨rfl,m3,rfl⟩
   have E5:=Ext.trans_drewN E4 m3;have s1:=r1.drewN m3;have s2:=r2.drewN m3;have c0:=s2.cell (i:=k) (by rw[AE _ _ _ 16 HI.out HH.out];exact hlt);have f0:=s2.frozen k;clear r1 r2 E4;generalize wr.drewN m3=w4 at *;go_wp2;go_roundw
   case rel=>exact⟨k+1,by omega,by go_num,Ext.grown E5 (Ax _ _ _ _) (fun q hq=>by cases hq;omega),s1.set_other (by omega),by rw[←Hset.out];exact s2.set k _⟩
   case measure=>simp[intOf];omega
  ·obtain rfl:k=16:=by omega
   rw[AY _ _ 16 HI.out HH.out]at r2;go_wp2_with (first|(refine Ab 47 _ rfl rfl r2 0 16 rfl _ Rm rfl Ag (by rw[HI.out];omega) _ (by rw[Ak _ _ (HI.out)]) ?_)|(refine Af 47 _ _ rfl rfl r1 0 16 rfl _ rfl _ rfl Ag (HI.out) (by simp) ?_;intro w6 p6 g6;refine Hid.out ?_))
   rw[Ap (by rw[HI.out];simp)]at p6;have E6:Ext w w6:=Ext.grown E4 g6 (fun q hq=>by cases hq;omega);refine Aa ?_;go_wp2;exact bodyPost_ret (v := .agg (ic (cod zs q))) (results_cell_row rfl _ _ (B+1) 47 (ic (cod zs q)) (0,0) _ rfl p6 Rm rfl (by rw[AJ,BF];exact Ag)) rfl ⟨rfl,E6⟩
theorem ifT {α:Type}(x y:α):(if true=true then x else y)=x:=rfl
theorem ifF {α:Type}(x y:α):(if false=true then x else y)=y:=rfl
theorem Ca (zs:List Int)(q:Nat)(w:World)(hT:TabQ w)(hl:zs.length=16)(hb:inB 4080 zs=true)(hq:q<16):
 Calls Tryz.prog 50 #[.agg (ic zs),.int .i64 q] w fun e w'=>e= .returned (.agg (ic (dec zs q)))∧Ext w w':=by
 have Hbd:=Aa (fun k (hk:k<16)=>inB_iff.1 hb k (by omega));have Hnd:=Aa (fun k (hk:k<16)=>GV zs q (k:=k) (by omega));have HD:=Aa (show(zs.map (fun x=>dq x q)).length=16 by simp[hl]);have HDr:=Aa (KS zs q);have Hde:=Aa (show dec zs q=ihad (zs.map (fun x=>dq x q))from rfl);obtain⟨D,hD⟩:∃ D,D=zs.map (fun x=>dq x q):=⟨_,rfl⟩;rw[←hD]at Hnd HD HDr Hde;have Hl:=Aa hl;have HW:=Aa hb;have HT:=Aa hT;clear hl hb hT hD;have a2:=Ext.alloc (w.alloc (.cells (ic zs) 47)) (.cells (ic (List.replicate 16 0)) 47);have p0:=(IB.new w 47 zs).ext a2;have p1:=IB.new (w.alloc (.cells (ic zs) 47)) 47 (List.replicate 16 0);have E1:=(Ext.alloc w (.cells (ic zs) 47)).trans a2;simp only[World.size_alloc]at p1;clear a2;go_enter Tryz.func50,Tryz.ntmps50
 go_wp2_with fail
 obtain⟨B,hB⟩:∃ B,B=w.heap.size:=⟨_,rfl⟩;rw[←hB]at p0 p1⊢;have hwB:w.heap.size≤B:=by omega
 have HB0:=Aa hB;clear hB;refine(Bw _ _ (by omega) (by omega)).mono ?_
 rintro e w0 ⟨rfl,rfl⟩
 go_wp2_with (refine Ab 47 _ rfl rfl p0 0 16 rfl _ Rm rfl Ag (by rw[Hl.out];omega) _ (by rw[Ak _ _ (Hl.out)]) ?_)
 refine(A4 zs 4080 _ Hl.out (by omega) (by omega)).mono ?_;rw[HW.out]
 rintro e w0 ⟨rfl,e0⟩
 have q0:=p0.ext e0;have q1:=p1.ext e0;have E3:=E1.trans e0;clear p0 p1 E1 e0;go_wp2_with (refine Ab 47 _ rfl rfl q0 0 16 rfl _ Rm rfl Ag (by rw[Hl.out];omega) _ (by rw[Ak _ _ (Hl.out)]) ?_)
 go_loopw [17] (fun i wr=>∃ k:Nat,k≤16∧i= .int .i64 k∧Ext w wr∧IB wr B 47 (mixI D zs k)∧IB wr (B+1) 47 (List.replicate 16 0)) (fun i _=>16-(intOf i).toNat)
 case atStart=>exact⟨0,by omega,rfl,E3,by rw[AO];exact q0,q1⟩
 case round =>
  obtain⟨k,hk,rfl,E4,r0,r1⟩:=hrel;clear q0 q1 E3
  by_cases hlt:k<16
  ·have hd:decide ((k:Int)<16)=true:=by simp;omega
   have hbk:=Hbd.out k hlt;have hset:=Bl D zs k 16 HD.out Hl.out hlt;rw[Hnd.out k hlt]at hset;have Hset:=Aa hset;have c0:=r0.cell (i:=k) (by rw[AE _ _ _ 16 HD.out Hl.out];exact hlt);have f0:=r0.frozen k;clear hset;go_wp2_with (refine AF _ _ _ rfl rfl zs rfl k 16 _ rfl rfl _ Rm Rt AC hlt Hl.out ?_)
   refine(GQ (nth zs k) q _ (HT.out.ext E4) hbk.1 hbk.2 hq).mono ?_
   rintro e w3 ⟨rfl,rfl⟩
   go_wp2;go_roundw
   case rel=>exact⟨k+1,by omega,by go_num,Ext.grown E4 (Ax _ _ _ _) (fun q hq=>by cases hq;omega),by rw[←Hset.out];exact r0.set k _,r1.set_other (by omega)⟩
   case measure=>simp[intOf];omega
  ·obtain rfl:k=16:=by omega
   rw[AY _ _ 16 HD.out Hl.out]at r0;go_wp2_with (refine Ab 47 _ rfl rfl r0 0 16 rfl _ Rm rfl Ag (by rw[HD.out];omega) _ (by rw[Ak _ _ (HD.out)]) ?_)
   refine(Fp D _ HD.out HDr.out).mono ?_
   rintro e w5 ⟨rfl,e5⟩
   have s1:=r1.ext e5;have E5:=E4.trans e5;have HI:=Aa (Co D);clear r0 r1 E4 e5;go_wp2_with (refine Af 47 _ _ rfl rfl s1 0 16 rfl _ rfl _ rfl Ag (HI.out) (by simp) ?_;intro w6 p6 g6;refine Hid.out ?_)
   rw[Ap (by rw[HI.out];simp)]at p6;have E6:Ext w w6:=Ext.grown E5 g6 (fun q hq=>by cases hq;omega);refine Aa ?_;go_wp2;exact bodyPost_ret (v := .agg (ic (dec zs q))) (results_cell_row rfl _ _ (B+1) 47 (ic (dec zs q)) (0,0) _ rfl (by rw[Hde.out];exact p6) Rm rfl (by rw[AJ,Dg];exact Ag)) rfl ⟨rfl,E6⟩
theorem EU (zs:List Int)(q:Nat)(w:World)(hl:zs.length=16)(hb:inB 4080 zs=true)(hq:q<16):
 Calls Tryz.prog 77 #[.agg (ic zs),.int .i64 q] w fun e w'=>e= .returned (.agg (ic (dec zs q)))∧Ext w w':=by
 have Hbd:=Aa (fun k (hk:k<16)=>inB_iff.1 hb k (by omega));have Hnd:=Aa (fun k (hk:k<16)=>GV zs q (k:=k) (by omega));have HD:=Aa (show(zs.map (fun x=>dq x q)).length=16 by simp[hl]);have HDr:=Aa (EP (M:=1048576) (by omega) (KS zs q) (by omega));have Hde:=Aa (show dec zs q=ihad (zs.map (fun x=>dq x q))from rfl);obtain⟨D,hD⟩:∃ D,D=zs.map (fun x=>dq x q):=⟨_,rfl⟩;rw[←hD]at Hnd HD HDr Hde;have Hl:=Aa hl;have Hz:=Aa (show(List.replicate 16 (0:Int)).length=16 by simp);have hs:=Do hq;have HQ:=Aa (fun w=>Cu q w hq);have Hdq:=Aa (fun l=>show dq l q=AZ (l*stp q) (-4080) 4080 from rfl);generalize stp q=s at *;clear hl hb hD;have a2:=Ext.alloc (w.alloc (.cells (ic zs) 47)) (.cells (ic (List.replicate 16 0)) 47);have a3:=Ext.alloc ((w.alloc (.cells (ic zs) 47)).alloc (.cells (ic (List.replicate 16 0)) 47)) (.cells (ic (List.replicate 16 0)) 47);have p0:=((IB.new w 47 zs).ext a2).ext a3;have p1:=(IB.new (w.alloc (.cells (ic zs) 47)) 47 (List.replicate 16 0)).ext a3;have p2:=IB.new ((w.alloc (.cells (ic zs) 47)).alloc (.cells (ic (List.replicate 16 0)) 47)) 47 (List.replicate 16 0);have E1:=((Ext.alloc w (.cells (ic zs) 47)).trans a2).trans a3;simp only[World.size_alloc]at p1 p2;clear a2 a3;go_enter Tryz.func77,Tryz.ntmps77
 go_wp2_with fail
 try simp only[World.size_alloc]
 obtain⟨B,hB⟩:∃ B,B=w.heap.size:=⟨_,rfl⟩;rw[←hB]at p0 p1 p2⊢;have hwB:w.heap.size≤B:=by omega
 have HB0:=Aa hB;clear hB;go_loopw [6] (fun i wr=>∃ k:Nat,k≤16∧i= .int .i64 k∧Ext w wr∧IB wr B 47 zs∧IB wr (B+1) 47 (List.replicate 16 0)∧IB wr (B+1+1) 47 (mixI D (List.replicate 16 0) k)) (fun i _=>16-(intOf i).toNat)
 case atStart=>exact⟨0,by omega,rfl,E1,p0,p1,by rw[AO];exact p2⟩
 case round =>
  obtain⟨k,hk,rfl,E4,r0,r1,r2⟩:=hrel;clear p0 p1 p2 E1
  by_cases hlt:k<16
  ·have hd:decide ((k:Int)<16)=true:=by simp;omega
   have hbk:=Hbd.out k hlt;have hset:=Bl D (List.replicate 16 0) k 16 HD.out Hz.out hlt;rw[Hnd.out k hlt,Hdq.out]at hset;have Hset:=Aa hset;have c0:=Aa (fun(wx:World) (h:IB wx B 47 zs)=>h.cell (i:=k) (by rw[Hl.out];exact hlt));clear hset;generalize nth zs k=z at *;have hm:=NO hbk.1 hbk.2 hs.1 hs.2;obtain⟨v,hv⟩:∃ v,v=AZ (z*s) (-4080) 4080:=⟨_,rfl⟩;rw[←hv]at Hset;have HV:=Aa hv;clear hv;have HM:=Aa (fun(k:Nat) (hk:k≤16)=>AE D (List.replicate 16 0) k 16 HD.out Hz.out);have G0:Ext w wr∧IB wr B 47 zs∧IB wr (B+1) 47 (List.replicate 16 0)∧IB wr (B+1+1) 47 (mixI D (List.replicate 16 0) k):=⟨E4,r0,r1,r2⟩;clear E4 r0 r1 r2;go_wp2_with fail
   refine Am (by kernel_rfl) [(12,0),(13,1),(14,2),(15,3),(16,4),(17,5),(18,6),(19,7),(20,8)] [[],[],[1],[1,2],[],[4],[1,2,3,4,5],[1,2,3,4,5,6],[0,1,2,3,4,5,6,7],[0,1,2,3,4,5,6,7,8]] (fun i own ys wx=>match i with|0=>own= .int .i64 (k:Nat)|1=>own= .int .i64 (k:Nat)|2=>own= .pointer (some ⟨B,k,none⟩)|3=>own= .int .i64 z|4=>own= .int .i64 (q:Nat)|5=>own= .int .i64 s|6=>own= .int .i64 (z*s)|7=>own= .int .i64 v|8=>own= .pointer (some ⟨B+1+1,k,none⟩)|9=>True|_=>True) (fun Lx wx=>Ext w wx∧IB wx B 47 zs∧IB wx (B+1) 47 (List.replicate 16 0)∧IB wx (B+1+1) 47 (if Lx 9=true then mixI D (List.replicate 16 0) (k+1)else mixI D (List.replicate 16 0) k)) (by kernel_rfl) (by kernel_rfl) (by kernel_rfl) ?g0_r1 ?gop_r1 ?gend_r1
   case g0_r1=>exact⟨Ext.trans_drewN G0.1 1,G0.2.1.drewN 1,G0.2.2.1.drewN 1,G0.2.2.2.drewN 1⟩
   case gop_r1 =>
    refine⟨?_,?_,?o2,?o3,?_,?o5,?o6,?o7,?o8,?o9,trivial⟩ <;> (intro Lx xs wx hG hl ha hb hD hI Qo Kx hK hQo;simp only[Ad,Nat.reduceAdd,Nat.reduceEqDiff,↓reduceIte]at hQo⊢)
    case o2 =>
     clear hl ha hb;rw[ddq (hD 1 rfl)]at hQo⊢;clear hD hI;go_wp2;exact hK.out _ _ ⟨rfl,hG,kkp⟩
    case o3 =>
     clear hl ha hb;rw[ddq (hD 2 rfl)]at hQo⊢;clear hD hI;have cx:=c0.out wx hG.2.1;go_wp2;exact hK.out _ _ ⟨rfl,hG,kkp⟩
    case o5 =>
     clear hl ha hb;rw[ddq (hD 4 rfl)]at hQo⊢;clear hD hI;go_wp2_with fail
     refine(HQ.out _).mono ?_
     rintro e w9 ⟨rfl,e9⟩
     go_wp2;exact hK.out _ _ ⟨rfl,⟨hG.1.trans e9,hG.2.1.ext e9,hG.2.2.1.ext e9,hG.2.2.2.ext e9⟩,fun _ _ _ _ _ _ h=>h⟩
    case o6 =>
     clear hl ha hb;rw[ddq (hD 3 rfl),ddq (hD 5 rfl)]at hQo⊢;clear hD hI;go_wp2;exact hK.out _ _ ⟨rfl,hG,kkp⟩
    case o7 =>
     clear hl ha hb;rw[ddq (hD 6 rfl)]at hQo⊢;clear hD hI;go_wp2_with fail
     refine(DF _ _ _ _).mono ?_
     rintro e w9 ⟨rfl,rfl⟩
     rw[←HV.out];go_wp2;exact hK.out _ _ ⟨rfl,hG,kkp⟩
    case o8 =>
     clear hl ha hb;rw[ddq (hD 0 rfl)]at hQo⊢;clear hD hI;go_wp2;exact hK.out _ _ ⟨rfl,hG,kkp⟩
    case o9 =>
     have l9:Lx 9=false:=hl;clear hl ha hb;rw[ddq (hD 7 rfl),ddq (hD 8 rfl)]at hQo⊢;clear hD hI;rw[l9,ifF]at hG;have cx:=hG.2.2.2.cell (i:=k) (by rw[HM.out k hk];exact hlt);have fx:=hG.2.2.2.frozen k;have s2:=hG.2.2.2.set k v;rw[Hset.out]at s2;have gE:=Ext.grown hG.1 (Ax _ (B+1+1) k (.int .i64 v)) (fun q hq=>by cases hq;omega);have g0':=hG.2.1.set_other (c:=B+1+1) (i:=k) (v := .int .i64 v) (by omega);have g1':=hG.2.2.1.set_other (c:=B+1+1) (i:=k) (v := .int .i64 v) (by omega);go_wp2;exact hQo undef _ (hK.out _ _ ⟨trivial,⟨gE,g0',g1',s2⟩,fun _ _ _ _ _ _ h=>h⟩)
    all_goals
     clear hl ha hb hD hI;go_wp2;exact hK.out _ _ ⟨rfl,hG,kkp⟩
   intro xs wx hV hG0;obtain⟨Lx,hL,hG⟩:=hG0;have l9:Lx 9=true:=hL 9 (by decide);clear hL hV;simp only[Ad,Nat.reduceAdd,Nat.reduceEqDiff,↓reduceIte];generalize xs 0=y0,xs 1=y1,xs 2=y2,xs 3=y3,xs 4=y4,xs 5=y5,xs 6=y6,xs 7=y7,xs 8=y8,xs 9=y9 at *
   replace hG:Ext w wx∧IB wx B 47 zs∧IB wx (B+1) 47 (List.replicate 16 0)∧IB wx (B+1+1) 47 (if Lx 9=true then mixI D (List.replicate 16 0) (k+1)else mixI D (List.replicate 16 0) k):=hG
   rw[l9,ifT]at hG;clear G0 c0;obtain⟨E5,s0,s1,s2⟩:=hG;go_wp2;go_roundw
   case rel=>exact⟨k+1,by omega,by go_num,E5,s0,s1,s2⟩
   case measure=>simp[intOf];omega
  ·obtain rfl:k=16:=by omega
   rw[AY _ _ 16 HD.out Hz.out]at r2;go_wp2_with (refine Ab 47 _ rfl rfl r2 0 16 rfl _ Rm rfl Ag (by rw[HD.out];omega) _ (by rw[Ak _ _ (HD.out)]) ?_)
   refine(Kc D _ HD.out HDr.out).mono ?_
   rintro e w5 ⟨rfl,e5⟩
   have s1:=r1.ext e5;have E5:=E4.trans e5;have HI:=Aa (Co D);clear r0 r1 r2 E4 e5;go_wp2_with (refine Af 47 _ _ rfl rfl s1 0 16 rfl _ rfl _ rfl Ag (HI.out) (by simp) ?_;intro w6 p6 g6;refine Hid.out ?_)
   rw[Ap (by rw[HI.out];simp)]at p6;have E6:Ext w w6:=Ext.grown E5 g6 (fun q hq=>by cases hq;omega);refine Aa ?_;go_wp2;exact bodyPost_ret (v := .agg (ic (dec zs q))) (results_cell_row rfl _ _ (B+1) 47 (ic (dec zs q)) (0,0) _ rfl (by rw[Hde.out];exact p6) Rm rfl (by rw[AJ,Dg];exact Ag)) rfl ⟨rfl,E6⟩
theorem DT (zs:List Int)(q:Nat)(w:World)(hl:zs.length=16)(hb:inB 255 zs=true)(hq:q<16):
 Calls Tryz.prog 74 #[.agg (ic zs),.int .i64 q] w fun e w'=>e= .returned (.agg (ic (cod zs q)))∧Ext w w':=by
 have hbA:=EP (M:=1048576) (by omega) hb (by omega);have Hbd:=Aa (fun k (hk:k<16)=>Gg hl hb hk);have Hl:=Aa hl;have HB:=Aa hbA;have HW:=Aa hb;have HH:=Aa (BD zs);have HI:=Aa (BF zs q);have Hz:=Aa (show(List.replicate 16 (0:Int)).length=16 by simp);clear hl hb hbA;have a2:=Ext.alloc (w.alloc (.cells (ic zs) 47)) (.cells (ic (List.replicate 16 0)) 47);have a3:=Ext.alloc ((w.alloc (.cells (ic zs) 47)).alloc (.cells (ic (List.replicate 16 0)) 47)) (.cells (ic (List.replicate 16 0)) 47);have p0:=((IB.new w 47 zs).ext a2).ext a3;have p1:=(IB.new (w.alloc (.cells (ic zs) 47)) 47 (List.replicate 16 0)).ext a3;have p2:=IB.new ((w.alloc (.cells (ic zs) 47)).alloc (.cells (ic (List.replicate 16 0)) 47)) 47 (List.replicate 16 0);have E1:=((Ext.alloc w (.cells (ic zs) 47)).trans a2).trans a3;simp only[World.size_alloc]at p1 p2;clear a2 a3;go_enter Tryz.func74,Tryz.ntmps74
 go_wp2_with (refine Ab 47 _ rfl rfl p0 0 16 rfl _ Rm rfl Ag (by rw[Hl.out];omega) _ (by rw[Ak _ _ (Hl.out)]) ?_)
 try simp only[World.size_alloc]
 obtain⟨B,hB⟩:∃ B,B=w.heap.size:=⟨_,rfl⟩;rw[←hB]at p0 p1 p2⊢;have hwB:w.heap.size≤B:=by omega
 have HB0:=Aa hB;clear hB;refine(GH zs 255 _ Hl.out (by omega) (by omega)).mono ?_;rw[HW.out]
 rintro e w0 ⟨rfl,e0⟩
 have p0a:=p0.ext e0;have p1a:=p1.ext e0;have p2a:=p2.ext e0;have E0a:=E1.trans e0;clear p0 p1 p2 E1 e0;go_wp2_with fail
 refine(Az _ _ _ _ (by omega) (by omega)).mono ?_
 rintro e w1 ⟨rfl,rfl⟩
 go_wp2_with (refine Ab 47 _ rfl rfl p0a 0 16 rfl _ Rm rfl Ag (by rw[Hl.out];omega) _ (by rw[Ak _ _ (Hl.out)]) ?_)
 refine(FK zs _ Hl.out HB.out).mono ?_
 rintro e w1 ⟨rfl,e1⟩
 have q1:=p1a.ext e1;have q2:=p2a.ext e1;have E2:=E0a.trans e1;have q3:=IB.new w1 47 (List.replicate 16 0);have l1:=q2.lt;have q1a:=q1.alloc (.cells (ic (List.replicate 16 0)) 47);have q2a:=q2.alloc (.cells (ic (List.replicate 16 0)) 47);have E2a:=E2.trans (Ext.alloc w1 (.cells (ic (List.replicate 16 0)) 47));have hs2:=E2.size;clear p0a p1a p2a E0a e1 q1 q2 E2;go_wp2_with (refine Af 47 _ _ rfl rfl q3 0 16 rfl _ rfl _ rfl Ag (HH.out) (by simp) ?_;intro w2 i2 g2;refine Hid.out ?_)
 rw[Ap (by rw[HH.out];simp)]at i2;have E3:Ext w w2:=Ext.grown E2a g2 (fun k e=>by cases e;omega);have q1:=q1a.gr g2 (FN (by omega));have q2:=q2a.gr g2 (FN (by omega));obtain⟨O,hO⟩:∃ O,O=w1.heap.size:=⟨_,rfl⟩;rw[←hO]at i2 l1⊢;have HO:=Aa hO;clear hO hs2 q1a q2a E2a q3 g2;refine Aa ?_;go_wp2_with fail
 go_loopw [7] (fun i wr=>∃ k:Nat,k≤16∧i= .int .i64 k∧Ext w wr∧IB wr (B+1) 47 (List.replicate 16 0)∧IB wr O 47 (had zs)∧IB wr (B+1+1) 47 (mixI (cod zs q) (List.replicate 16 0) k)) (fun i _=>16-(intOf i).toNat)
 case atStart=>exact⟨0,by omega,rfl,E3,q1,i2,by rw[AO];exact q2⟩
 case round =>
  obtain⟨k,hk,rfl,E4,r1,r3,r2⟩:=hrel;clear q1 q2 i2 E3
  by_cases hlt:k<16
  ·have hd:decide ((k:Int)<16)=true:=by simp;omega
   have hbk:=Hbd.out k hlt;have hset:=Bl (cod zs q) (List.replicate 16 0) k 16 HI.out Hz.out hlt;rw[Lc _ _ hlt]at hset;have Hset:=Aa hset;have c3:=r3.cell (i:=k) (by rw[HH.out];exact hlt);clear hset;go_wp2_with fail
   refine(MW (nth (had zs) k) q _ hbk.1 hbk.2 hq).mono ?_
   rintro e w3 ⟨rfl,e3⟩
   have E5:=E4.trans e3;have s1:=r1.ext e3;have s2:=r2.ext e3;have s3:=r3.ext e3;have c0:=s2.cell (i:=k) (by rw[AE _ _ _ 16 HI.out Hz.out];exact hlt);have f0:=s2.frozen k;clear r1 r2 r3 E4 c3 e3;go_wp2;go_roundw
   case rel=>exact⟨k+1,by omega,by go_num,Ext.grown E5 (Ax _ _ _ _) (fun q hq=>by cases hq;omega),s1.set_other (by omega),s3.set_other (by omega),by rw[←Hset.out];exact s2.set k _⟩
   case measure=>simp[intOf];omega
  ·obtain rfl:k=16:=by omega
   rw[AY _ _ 16 HI.out Hz.out]at r2;go_wp2_with (first|(refine Ab 47 _ rfl rfl r2 0 16 rfl _ Rm rfl Ag (by rw[HI.out];omega) _ (by rw[Ak _ _ (HI.out)]) ?_)|(refine Af 47 _ _ rfl rfl r1 0 16 rfl _ rfl _ rfl Ag (HI.out) (by simp) ?_;intro w6 p6 g6;refine Hid.out ?_))
   rw[Ap (by rw[HI.out];simp)]at p6;have E6:Ext w w6:=Ext.grown E4 g6 (fun q hq=>by cases hq;omega);refine Aa ?_;go_wp2;exact bodyPost_ret (v := .agg (ic (cod zs q))) (results_cell_row rfl _ _ (B+1) 47 (ic (cod zs q)) (0,0) _ rfl p6 Rm rfl (by rw[AJ,BF];exact Ag)) rfl ⟨rfl,E6⟩
theorem Dw (za zb:List Int)(w:World)(hx:za.length=16)(hy:zb.length=16)(bx:bdA 1099511627776 za)(by':bdA 1099511627776 zb):
 Calls Tryz.prog 48 #[.agg (ic za),.agg (ic zb)] w fun e w'=>e= .returned (.agg (ic (dif za zb)))∧Ext w w':=by
 have Hx:=Aa hx;have Hy:=Aa hy;have Bx:=Aa bx;have By:=Aa by'
 have HI:=Aa (Bo za zb);clear hx hy bx by'
 have a2:=Ext.alloc (w.alloc (.cells (ic za) 47)) (.cells (ic zb) 47);have a3:=Ext.alloc ((w.alloc (.cells (ic za) 47)).alloc (.cells (ic zb) 47)) (.cells (ic (List.replicate 16 0)) 47);have p0:=((IB.new w 47 za).ext a2).ext a3;have p1:=(IB.new (w.alloc (.cells (ic za) 47)) 47 zb).ext a3;have p2:=IB.new ((w.alloc (.cells (ic za) 47)).alloc (.cells (ic zb) 47)) 47 (List.replicate 16 0);have E1:=((Ext.alloc w (.cells (ic za) 47)).trans a2).trans a3;simp only[World.size_alloc]at p1 p2;clear a2 a3;go_enter Tryz.func48,Tryz.ntmps48
 go_wp2_with (refine Ab 47 _ rfl rfl p1 0 16 rfl _ Rm rfl Ag (by rw[Hy.out];omega) _ (by rw[Ak _ _ (Hy.out)]) ?_)
 try simp only[World.size_alloc]
 obtain⟨B,hB⟩:∃ B,B=w.heap.size:=⟨_,rfl⟩;rw[←hB]at p0 p1 p2⊢;have hwB:w.heap.size≤B:=by omega
 have HB0:=Aa hB;clear hB;go_loopw [8] (fun i wr=>∃ k:Nat,k≤16∧i= .int .i64 k∧Ext w wr∧IB wr B 47 (mixI (dif za zb) za k)∧IB wr (B+1) 47 zb∧IB wr (B+1+1) 47 (List.replicate 16 0)) (fun i _=>16-(intOf i).toNat)
 case atStart=>exact⟨0,by omega,rfl,E1,by rw[AO];exact p0,p1,p2⟩
 case round =>
  obtain⟨k,hk,rfl,E4,r0,r1,r2⟩:=hrel;clear p0 p1 p2 E1
  by_cases hlt:k<16
  ·have hd:decide ((k:Int)<16)=true:=by simp;omega
   have b0:=Bx.out k;have b1:=By.out k;have hset:=Bl (dif za zb) za k 16 HI.out Hx.out hlt;rw[Je _ _ hlt]at hset;have Hset:=Aa hset;have c0:=r0.cell (i:=k) (by rw[AE _ _ _ 16 HI.out Hx.out];exact hlt);rw[JM HI.out Hx.out (Nat.le_refl _) hlt]at c0;have f0:=r0.frozen k;have c1:=r1.cell (i:=k) (by rw[Hy.out];exact hlt);clear hset c1;go_wp2_with (refine AF _ _ _ rfl rfl zb rfl k 16 _ rfl rfl _ Rm Rt AC hlt Hy.out ?_)
   go_roundw
   case rel=>exact⟨k+1,by omega,by go_num,Ext.grown E4 (Ax _ _ _ _) (fun q hq=>by cases hq;omega),by rw[←Hset.out];exact r0.set k _,r1.set_other (by omega),r2.set_other (by omega)⟩
   case measure=>simp[intOf];omega
  ·obtain rfl:k=16:=by omega
   rw[AY _ _ 16 HI.out Hx.out]at r0;go_wp2_with (first|(refine Ab 47 _ rfl rfl r0 0 16 rfl _ Rm rfl Ag (by rw[HI.out];omega) _ (by rw[Ak _ _ (HI.out)]) ?_)|(refine Af 47 _ _ rfl rfl r2 0 16 rfl _ rfl _ rfl Ag (HI.out) (by simp) ?_;intro w6 p6 g6;refine Hid.out ?_))
   rw[Ap (by rw[HI.out];simp)]at p6;have E6:Ext w w6:=Ext.grown E4 g6 (fun q hq=>by cases hq;omega);refine Aa ?_;go_wp2;exact bodyPost_ret (v := .agg (ic (dif za zb))) (results_cell_row rfl _ _ (B+1+1) 47 (ic (dif za zb)) (0,0) _ rfl p6 Rm rfl (by rw[AJ,Bo];exact Ag)) rfl ⟨rfl,E6⟩
theorem IM (za zb:List Int)(w:World)(hx:za.length=16)(hy:zb.length=16)(bx:bdA 1099511627776 za)(by':bdA 1099511627776 zb):
 Calls Tryz.prog 75 #[.agg (ic za),.agg (ic zb)] w fun e w'=>e= .returned (.agg (ic (dif za zb)))∧Ext w w':=by
 have Hx:=Aa hx;have Hy:=Aa hy;have Bx:=Aa bx;have By:=Aa by'
 have HI:=Aa (Bo za zb);clear hx hy bx by'
 have a2:=Ext.alloc (w.alloc (.cells (ic za) 47)) (.cells (ic zb) 47);have a3:=Ext.alloc ((w.alloc (.cells (ic za) 47)).alloc (.cells (ic zb) 47)) (.cells (ic (List.replicate 16 0)) 47);have p0:=((IB.new w 47 za).ext a2).ext a3;have p1:=(IB.new (w.alloc (.cells (ic za) 47)) 47 zb).ext a3;have p2:=IB.new ((w.alloc (.cells (ic za) 47)).alloc (.cells (ic zb) 47)) 47 (List.replicate 16 0);have E1:=((Ext.alloc w (.cells (ic za) 47)).trans a2).trans a3;simp only[World.size_alloc]at p1 p2;clear a2 a3;go_enter Tryz.func75,Tryz.ntmps75
 go_wp2_with fail
 try simp only[World.size_alloc]
 obtain⟨B,hB⟩:∃ B,B=w.heap.size:=⟨_,rfl⟩;rw[←hB]at p0 p1 p2⊢;have hwB:w.heap.size≤B:=by omega
 have HB0:=Aa hB;clear hB;go_loopw [5] (fun i wr=>∃ k:Nat,k≤16∧i= .int .i64 k∧Ext w wr∧IB wr B 47 (mixI (dif za zb) za k)∧IB wr (B+1) 47 zb∧IB wr (B+1+1) 47 (List.replicate 16 0)) (fun i _=>16-(intOf i).toNat)
 case atStart=>exact⟨0,by omega,rfl,E1,by rw[AO];exact p0,p1,p2⟩
 case round =>
  obtain⟨k,hk,rfl,E4,r0,r1,r2⟩:=hrel;clear p0 p1 p2 E1
  by_cases hlt:k<16
  ·have hd:decide ((k:Int)<16)=true:=by simp;omega
   have b0:=Bx.out k;have b1:=By.out k;have hset:=Bl (dif za zb) za k 16 HI.out Hx.out hlt;rw[Je _ _ hlt]at hset;have Hset:=Aa hset;have c0:=r0.cell (i:=k) (by rw[AE _ _ _ 16 HI.out Hx.out];exact hlt);rw[JM HI.out Hx.out (Nat.le_refl _) hlt]at c0;have f0:=r0.frozen k;have c1:=r1.cell (i:=k) (by rw[Hy.out];exact hlt);clear hset;have C0:=Aa c0;have C1:=Aa c1;have HM:=Aa (AE (dif za zb) za k 16 HI.out Hx.out);generalize nth za k=u at *;generalize nth zb k=v at *;have G0:Ext w wr∧IB wr (B+1) 47 zb∧IB wr (B+1+1) 47 (List.replicate 16 0)∧IB wr B 47 (mixI (dif za zb) za k):=⟨E4,r1,r2,r0⟩;have HcU:=Aa (fun(wx:World) (h:IB wx B 47 (mixI (dif za zb) za k))=>(h.cell (i:=k) (by rw[HM.out];exact hlt)).trans ((r0.cell (i:=k) (by rw[HM.out];exact hlt)).symm.trans C0.out));have HcV:=Aa (fun(wx:World) (h:IB wx (B+1) 47 zb)=>(h.cell (i:=k) (by rw[Hy.out];exact hlt)).trans ((r1.cell (i:=k) (by rw[Hy.out];exact hlt)).symm.trans C1.out));clear E4 r0 r1 r2 c0 c1 f0;go_wp2_with fail
   refine Am (by kernel_rfl) [(10,0),(11,1),(12,2),(13,3),(14,4),(15,5),(16,6),(17,7),(18,8)] [[],[],[1],[1,2],[],[4],[4,5],[1,2,3,4,5,6],[0,1,2,3,4,5,6,7],[0,1,2,3,4,5,6,7,8]] (fun i own ys wx=>match i with|0=>own= .int .i64 (k:Nat)|1=>own= .int .i64 (k:Nat)|2=>own= .pointer (some ⟨B,k,none⟩)|3=>own= .int .i64 u|4=>own= .int .i64 (k:Nat)|5=>own= .pointer (some ⟨B+1,k,none⟩)|6=>own= .int .i64 v|7=>own= .int .i64 (u-v)|8=>own= .pointer (some ⟨B,k,none⟩)|9=>True|_=>True) (fun Lx wx=>Ext w wx∧IB wx (B+1) 47 zb∧IB wx (B+1+1) 47 (List.replicate 16 0)∧IB wx B 47 (if Lx 9=true then mixI (dif za zb) za (k+1)else mixI (dif za zb) za k)) (by kernel_rfl) (by kernel_rfl) (by kernel_rfl) ?g0_r2 ?gop_r2 ?gend_r2
   case g0_r2=>exact⟨Ext.trans_drewN G0.1 1,G0.2.1.drewN 1,G0.2.2.1.drewN 1,G0.2.2.2.drewN 1⟩
   case gop_r2 =>
    refine⟨?_,?_,?o2,?o3,?_,?o5,?o6,?o7,?o8,?o9,trivial⟩ <;> (intro Lx xs wx hG hl ha hb hD hI Qo Kx hK hQo;simp only[Ad,Nat.reduceAdd,Nat.reduceEqDiff,↓reduceIte]at hQo⊢)
    case o2 =>
     clear hl ha hb;rw[ddq (hD 1 rfl)]at hQo⊢;clear hD hI;go_wp2;exact hK.out _ _ ⟨rfl,hG,kkp⟩
    case o3 =>
     have l9:Lx 9=false:=hb 9 rfl;clear hl ha hb;rw[ddq (hD 2 rfl)]at hQo⊢;clear hD hI;have hG2:=hG.2.2.2;rw[l9,ifF]at hG2;have cx:=HcU.out wx hG2;clear hG2;go_wp2;exact hK.out _ _ ⟨rfl,hG,kkp⟩
    case o5 =>
     clear hl ha hb;rw[ddq (hD 4 rfl)]at hQo⊢;clear hD hI;go_wp2;exact hK.out _ _ ⟨rfl,hG,kkp⟩
    case o6 =>
     clear hl ha hb;rw[ddq (hD 5 rfl)]at hQo⊢;clear hD hI;have cx:=HcV.out wx hG.2.1;go_wp2;exact hK.out _ _ ⟨rfl,hG,kkp⟩
    case o7 =>
     clear hl ha hb;rw[ddq (hD 3 rfl),ddq (hD 6 rfl)]at hQo⊢;clear hD hI;go_wp2;exact hK.out _ _ ⟨rfl,hG,kkp⟩
    case o8 =>
     clear hl ha hb;rw[ddq (hD 0 rfl)]at hQo⊢;clear hD hI;go_wp2;exact hK.out _ _ ⟨rfl,hG,kkp⟩
    case o9 =>
     have l9:Lx 9=false:=hl;clear hl ha hb;rw[ddq (hD 7 rfl),ddq (hD 8 rfl)]at hQo⊢;clear hD hI;rw[l9,ifF]at hG;have cx:=hG.2.2.2.cell (i:=k) (by rw[HM.out];exact hlt);have fx:=hG.2.2.2.frozen k;have s2:=hG.2.2.2.set k (u-v);rw[Hset.out]at s2;have gE:=Ext.grown hG.1 (Ax _ B k (.int .i64 (u-v))) (fun q hq=>by cases hq;omega);have g0':=hG.2.1.set_other (c:=B) (i:=k) (v := .int .i64 (u-v)) (by omega);have g1':=hG.2.2.1.set_other (c:=B) (i:=k) (v := .int .i64 (u-v)) (by omega);go_wp2;exact hQo undef _ (hK.out _ _ ⟨trivial,⟨gE,g0',g1',s2⟩,fun _ _ _ _ _ _ h=>h⟩)
    all_goals
     clear hl ha hb hD hI;go_wp2;exact hK.out _ _ ⟨rfl,hG,kkp⟩
   intro xs wx hV hG0;obtain⟨Lx,hL,hG⟩:=hG0;have l9:Lx 9=true:=hL 9 (by decide);clear hL hV;simp only[Ad,Nat.reduceAdd,Nat.reduceEqDiff,↓reduceIte];generalize xs 0=y0,xs 1=y1,xs 2=y2,xs 3=y3,xs 4=y4,xs 5=y5,xs 6=y6,xs 7=y7,xs 8=y8,xs 9=y9 at *
   replace hG:Ext w wx∧IB wx (B+1) 47 zb∧IB wx (B+1+1) 47 (List.replicate 16 0)∧IB wx B 47 (if Lx 9=true then mixI (dif za zb) za (k+1)else mixI (dif za zb) za k):=hG
   rw[l9,ifT]at hG;clear G0 HcU HcV;obtain⟨E5,s1,s2,s0⟩:=hG;go_wp2;go_roundw
   case rel=>exact⟨k+1,by omega,by go_num,E5,s0,s1,s2⟩
   case measure=>simp[intOf];omega
  ·obtain rfl:k=16:=by omega
   rw[AY _ _ 16 HI.out Hx.out]at r0;go_wp2_with (first|(refine Ab 47 _ rfl rfl r0 0 16 rfl _ Rm rfl Ag (by rw[HI.out];omega) _ (by rw[Ak _ _ (HI.out)]) ?_)|(refine Af 47 _ _ rfl rfl r2 0 16 rfl _ rfl _ rfl Ag (HI.out) (by simp) ?_;intro w6 p6 g6;refine Hid.out ?_))
   rw[Ap (by rw[HI.out];simp)]at p6;have E6:Ext w w6:=Ext.grown E4 g6 (fun q hq=>by cases hq;omega);refine Aa ?_;go_wp2;exact bodyPost_ret (v := .agg (ic (dif za zb))) (results_cell_row rfl _ _ (B+1+1) 47 (ic (dif za zb)) (0,0) _ rfl p6 Rm rfl (by rw[AJ,Bo];exact Ag)) rfl ⟨rfl,E6⟩
theorem lenZ : (List.replicate 16 (0:Int)).length=16:=by simp
theorem GX (L:List Int)(x y:Nat)(hx:x≤4)(hy:y≤4)(a:Option Addr)(c:Nat)(w:World)(r:Sl w a 64 (L.map (Value.int .i64))):
 Calls Tryz.prog 61 #[.slice a 64 c,.int .i64 (x:Nat),.int .i64 (y:Nat)] w fun e w'=>e= .returned (.agg (ic (pof L (x) (y))))∧Ext w w':=by
 have HI:=Aa (BX L (x) (y));have a2:=Ext.alloc (w.alloc (.cells (ic (List.replicate 16 0)) 47)) (.cells (ic (List.replicate 16 0)) 47);have p0:=(IB.new w 47 (List.replicate 16 0)).ext a2;have p1:=IB.new (w.alloc (.cells (ic (List.replicate 16 0)) 47)) 47 (List.replicate 16 0);have E1:=(Ext.alloc w (.cells (ic (List.replicate 16 0)) 47)).trans a2;simp only[World.size_alloc]at p1;clear a2;go_enter Tryz.func61,Tryz.ntmps61
 go_wp2_with fail
 try simp only[World.size_alloc]
 obtain⟨B,hB⟩:∃ B,B=w.heap.size:=⟨_,rfl⟩;rw[←hB]at p0 p1⊢;have hwB:w.heap.size≤B:=by omega
 have HB0:=Aa hB;clear hB;go_loopw [9] (fun i wr=>∃ k:Nat,k≤16∧i= .int .i64 k∧Ext w wr∧IB wr B 47 (List.replicate 16 0)∧IB wr (B+1) 47 (mixI (pof L (x) (y)) (List.replicate 16 0) k)) (fun i _=>16-(intOf i).toNat)
 case atStart=>exact⟨0,by omega,rfl,E1,p0,by rw[AO];exact p1⟩
 case round =>
  obtain⟨k,hk,rfl,E4,r0,r1⟩:=hrel;clear p0 p1 E1
  by_cases hlt:k<16
  ·have hd:decide ((k:Int)<16)=true:=by simp;omega
   have hset:=Bl (pof L (x) (y)) (List.replicate 16 0) k 16 HI.out lenZ hlt;rw[Jf _ _ _ hlt]at hset;have Hset:=Aa hset;have c1:=r1.cell (i:=k) (by rw[AE _ _ _ 16 HI.out lenZ];exact hlt);have f1:=r1.frozen k;obtain⟨q,hq⟩:∃ q,q=(y+k/4)*8+x+k%4:=⟨_,rfl⟩;rw[←hq]at Hset;have hq64:q<64:=by omega
   obtain⟨b,off,rfl,hc⟩:=(r.ext E4).int hq64;have HQ:=Aa hq;have hcc:wr.cell? ⟨b,off+((y+k/4)*8+x+k%4),none⟩=some (.int .i64 (nth L q)):=by rw[←HQ.out];exact hc
   clear hset hq hc;generalize nth L q=z at *;go_wp2;go_roundw
   case rel=>exact⟨k+1,by omega,by go_num,Ext.grown E4 (Ax _ _ _ _) (fun q hq=>by cases hq;omega),r0.set_other (by omega),by rw[←Hset.out];exact r1.set k _⟩
   case measure=>simp[intOf];omega
  ·obtain rfl:k=16:=by omega
   rw[AY _ _ 16 HI.out lenZ]at r1;go_wp2_with (first|(refine Ab 47 _ rfl rfl r1 0 16 rfl _ Rm rfl Ag (by rw[HI.out];omega) _ (by rw[Ak _ _ (HI.out)]) ?_)|(refine Af 47 _ _ rfl rfl r0 0 16 rfl _ rfl _ rfl Ag (HI.out) (by simp) ?_;intro w6 p6 g6;refine Hid.out ?_))
   rw[Ap (by rw[HI.out];simp)]at p6;have E6:Ext w w6:=Ext.grown E4 g6 (fun q hq=>by cases hq;omega);refine Aa ?_;go_wp2;exact bodyPost_ret (v := .agg (ic (pof L (x) (y)))) (results_cell_row rfl _ _ B 47 (ic (pof L (x) (y))) (0,0) _ rfl p6 Rm rfl (by rw[AJ,BX];exact Ag)) rfl ⟨rfl,E6⟩
theorem DJ (L:List Int)(u:Nat)(hu:u<4)(a:Option Addr)(c:Nat)(w:World)(r:Sl w a 64 (L.map (Value.int .i64))):
 Calls Tryz.prog 72 #[.slice a 64 c,.int .i64 (u:Nat)] w fun e w'=>e= .returned (.agg (ic (pof L (u%2*4) (u/2*4))))∧Ext w w':=by
 have HI:=Aa (BX L (u%2*4) (u/2*4));have a2:=Ext.alloc (w.alloc (.cells (ic (List.replicate 16 0)) 47)) (.cells (ic (List.replicate 16 0)) 47);have p0:=(IB.new w 47 (List.replicate 16 0)).ext a2;have p1:=IB.new (w.alloc (.cells (ic (List.replicate 16 0)) 47)) 47 (List.replicate 16 0);have E1:=(Ext.alloc w (.cells (ic (List.replicate 16 0)) 47)).trans a2;simp only[World.size_alloc]at p1;clear a2;go_enter Tryz.func72,Tryz.ntmps72
 go_wp2_with fail
 try simp only[World.size_alloc]
 obtain⟨B,hB⟩:∃ B,B=w.heap.size:=⟨_,rfl⟩;rw[←hB]at p0 p1⊢;have hwB:w.heap.size≤B:=by omega
 have HB0:=Aa hB;clear hB;go_loopw [6] (fun i wr=>∃ k:Nat,k≤16∧i= .int .i64 k∧Ext w wr∧IB wr B 47 (List.replicate 16 0)∧IB wr (B+1) 47 (mixI (pof L (u%2*4) (u/2*4)) (List.replicate 16 0) k)) (fun i _=>16-(intOf i).toNat)
 case atStart=>exact⟨0,by omega,rfl,E1,p0,by rw[AO];exact p1⟩
 case round =>
  obtain⟨k,hk,rfl,E4,r0,r1⟩:=hrel;clear p0 p1 E1
  by_cases hlt:k<16
  ·have hd:decide ((k:Int)<16)=true:=by simp;omega
   have hset:=Bl (pof L (u%2*4) (u/2*4)) (List.replicate 16 0) k 16 HI.out lenZ hlt;rw[Jf _ _ _ hlt]at hset;have Hset:=Aa hset;have c1:=r1.cell (i:=k) (by rw[AE _ _ _ 16 HI.out lenZ];exact hlt);have f1:=r1.frozen k;obtain⟨q,hq⟩:∃ q,q=(u/2*4+k/4)*8+u%2*4+k%4:=⟨_,rfl⟩;rw[←hq]at Hset;have hq64:q<64:=by omega
   obtain⟨b,off,rfl,hc⟩:=(r.ext E4).int hq64;have HQ:=Aa hq;have hcc:wr.cell? ⟨b,off+((u/2*4+k/4)*8+u%2*4+k%4),none⟩=some (.int .i64 (nth L q)):=by rw[←HQ.out];exact hc
   clear hset hq hc;generalize nth L q=z at *;go_wp2;go_roundw
   case rel=>exact⟨k+1,by omega,by go_num,Ext.grown E4 (Ax _ _ _ _) (fun q hq=>by cases hq;omega),r0.set_other (by omega),by rw[←Hset.out];exact r1.set k _⟩
   case measure=>simp[intOf];omega
  ·obtain rfl:k=16:=by omega
   rw[AY _ _ 16 HI.out lenZ]at r1;go_wp2_with (first|(refine Ab 47 _ rfl rfl r1 0 16 rfl _ Rm rfl Ag (by rw[HI.out];omega) _ (by rw[Ak _ _ (HI.out)]) ?_)|(refine Af 47 _ _ rfl rfl r0 0 16 rfl _ rfl _ rfl Ag (HI.out) (by simp) ?_;intro w6 p6 g6;refine Hid.out ?_))
   rw[Ap (by rw[HI.out];simp)]at p6;have E6:Ext w w6:=Ext.grown E4 g6 (fun q hq=>by cases hq;omega);refine Aa ?_;go_wp2;exact bodyPost_ret (v := .agg (ic (pof L (u%2*4) (u/2*4)))) (results_cell_row rfl _ _ B 47 (ic (pof L (u%2*4) (u/2*4))) (0,0) _ rfl p6 Rm rfl (by rw[AJ,BX];exact Ag)) rfl ⟨rfl,E6⟩
theorem Me (p:Pic)(x y:Int)(a:Option Addr)(c n:Nat)(w:World)(hv:p.valid)(hn:n=p.px.length)(r:Sl w a n (p.px.map (Value.int .i64)))(x1:0≤x)(x2:x≤1000)(y1:0≤y)(y2:y≤1000):
 Calls Tryz.prog 43 #[.agg #[.int .i64 p.w,.int .i64 p.h,.slice a n c],.int .i64 x,.int .i64 y] w fun e w'=>e= .returned (.agg (ic (prt p x y)))∧Ext w w':=by
 have HI:=Aa (CO p x y);have HN:=Aa hn;have HV:=Aa hv;clear hn hv;obtain⟨w0,hw0⟩:∃ w0,w0=w.alloc (.cells #[.int .i64 p.w,.int .i64 p.h,.slice a n c] 30):=⟨_,rfl⟩;have b0:=Aj w (.cells #[.int .i64 p.w,.int .i64 p.h,.slice a n c] 30);have E0:=Ext.alloc w (.cells #[.int .i64 p.w,.int .i64 p.h,.slice a n c] 30);have s0:w0.heap.size=w.heap.size+1:=by rw[hw0];simp
 rw[←hw0]at b0 E0;have a1:=Ext.alloc w0 (.cells (ic (List.replicate 16 0)) 47);have a2:=Ext.alloc (w0.alloc (.cells (ic (List.replicate 16 0)) 47)) (.cells (ic (List.replicate 16 0)) 47);have bx:=(b0:w0.heap[w.heap.size]?=_);have b1:=a2.blk (a1.blk bx);have p0:=(IB.new w0 47 (List.replicate 16 0)).ext a2;have p1:=IB.new (w0.alloc (.cells (ic (List.replicate 16 0)) 47)) 47 (List.replicate 16 0);have E1:=(E0.trans a1).trans a2;simp only[World.size_alloc]at p1;rw[s0]at p0 p1;clear a1 a2 b0 bx s0;go_enter Tryz.func43,Tryz.ntmps43
 go_wp2_with fail
 rw[←hw0];try simp only[World.size_alloc]
 obtain⟨B,hB⟩:∃ B,B=w.heap.size:=⟨_,rfl⟩;rw[←hB]at p0 p1 b1⊢;have hwB:w.heap.size≤B:=by omega
 have HB0:=Aa hB;have HW0:=Aa hw0;clear hB hw0;go_loopw [9] (fun i wr=>∃ k:Nat,k≤16∧i= .int .i64 k∧Ext w wr∧Hid (wr.heap[B]?=some (.cells #[.int .i64 p.w,.int .i64 p.h,.slice a n c] 30 (0,0)))∧IB wr (B+1) 47 (List.replicate 16 0)∧IB wr (B+1+1) 47 (mixI (prt p x y) (List.replicate 16 0) k)) (fun i _=>16-(intOf i).toNat)
 case atStart=>exact⟨0,by omega,rfl,E1,Aa b1,p0,by rw[AO];exact p1⟩
 case round =>
  obtain⟨k,hk,rfl,E4,X4,r0,r1⟩:=hrel;clear p0 p1 E1 b1
  by_cases hlt:k<16
  ·have hd:decide ((k:Int)<16)=true:=by simp;omega
   have hset:=Bl (prt p x y) (List.replicate 16 0) k 16 HI.out lenZ hlt;rw[Ld _ _ _ hlt]at hset;have Hset:=Aa hset;obtain⟨-,k0,k1,k2,-⟩:=bx3 X4.out;clear hset;go_wp2_with fail
   refine(BS p (x+(k%4:Nat)) (y+(k/4:Nat)) a c n _ HV.out HN.out (r.ext E4)).mono ?_
   rintro e w3 ⟨rfl,e3⟩
   have E5:=E4.trans e3;have X5:=Aa (e3.blk X4.out);have s0:=r0.ext e3;have s1:=r1.ext e3;have c1:=s1.cell (i:=k) (by rw[AE _ _ _ 16 HI.out lenZ];exact hlt);have f1:=s1.frozen k;clear r0 r1 E4 X4 e3 k0 k1 k2;go_wp2;go_roundw
   case rel=>exact⟨k+1,by omega,by go_num,Ext.grown E5 (Ax _ _ _ _) (fun q hq=>by cases hq;omega),Aa (Ai X5.out (by omega)),s0.set_other (by omega),by rw[←Hset.out];exact s1.set k _⟩
   case measure=>simp[intOf];omega
  ·obtain rfl:k=16:=by omega
   rw[AY _ _ 16 HI.out lenZ]at r1;go_wp2_with (first|(refine Ab 47 _ rfl rfl r1 0 16 rfl _ Rm rfl Ag (by rw[HI.out];omega) _ (by rw[Ak _ _ (HI.out)]) ?_)|(refine Af 47 _ _ rfl rfl r0 0 16 rfl _ rfl _ rfl Ag (HI.out) (by simp) ?_;intro w6 p6 g6;refine Hid.out ?_))
   rw[Ap (by rw[HI.out];simp)]at p6;have E6:Ext w w6:=Ext.grown E4 g6 (fun q hq=>by cases hq;omega);refine Aa ?_;go_wp2;exact bodyPost_ret (v := .agg (ic (prt p x y))) (results_cell_row rfl _ _ (B+1) 47 (ic (prt p x y)) (0,0) _ rfl p6 Rm rfl (by rw[AJ,CO];exact Ag)) rfl ⟨rfl,E6⟩
theorem Mc {w:World}{base e g n c:Nat}{zs:List Int}(h:w.ownsRow base e 1 (.slice (some ⟨g,0,none⟩) n c) n (zs.map (Value.int .i64))){i:Nat}(hi:i<n):w.cell? ⟨g,i,none⟩=some (.int .i64 (nth zs i)):=by
 obtain⟨b,o,e,hc⟩:=(Sl.of_owns h).int hi;simp only[Option.some.injEq,Addr.mk.injEq,and_true]at e;obtain⟨rfl,rfl⟩:=e
 rwa [Nat.zero_add]at hc
theorem Qm {w:World}{base e g n c:Nat}{zs:List Int}(h:w.ownsRow base e 1 (.slice (some ⟨g,0,none⟩) n c) n (zs.map (Value.int .i64)))(i:Nat)(v:Int):(w.setCell ⟨g,i,none⟩ (.int .i64 v)).ownsRow base e 1 (.slice (some ⟨g,0,none⟩) n c) n ((zs.set i v).map (Value.int .i64)):=by
 have o2:=(h.stored i (.int .i64 v)).1;rw[←List.map_set]at o2;exact o2
structure PG (w : World) (B base g W H n c x0 : Nat) (pr rs : List Int) (Z : List Int) (wx : World) : Prop where
 gr:w.grownBy wx (some g)
 own:wx.ownsRow base 3 1 (.slice (some ⟨g,0,none⟩) n c) n (Z.map (Value.int .i64))
 b0:wx.heap[B]?=some (.cells #[.int .i64 W,.int .i64 H,.slice (some ⟨g,0,none⟩) n c] 30 (0,0))
 b1:IB wx (B+1) 47 pr
 b2:IB wx (B+1+1) 47 rs
 gB:g<B
theorem PG.drew {w wx:World}{B base g W H n c x0:Nat}{pr rs Z:List Int}(h:PG w B base g W H n c x0 pr rs Z wx):PG w B base g W H n c x0 pr rs Z wx.drew :=
 ⟨KU h.gr,h.own,h.b0,h.b1.drewN 1,h.b2.drewN 1,h.gB⟩
theorem PG.set {w wx:World}{B base g W H n c x0:Nat}{pr rs Z:List Int}(h:PG w B base g W H n c x0 pr rs Z wx)(i:Nat)(v:Int):PG w B base g W H n c x0 pr rs (Z.set i v) (wx.setCell ⟨g,i,none⟩ (.int .i64 v)):=by
 have:=h.gB;exact⟨grownBy_trans h.gr (Ax _ _ _ _),Qm h.own i v,Ai h.b0 (by omega),h.b1.set_other (by omega),h.b2.set_other (by omega),h.gB⟩
theorem Ji (W H x y base g n c:Nat)(px pr rs:List Int)(w:World)(hp:pr.length=16)(hr:rs.length=16)(bp:bdA 1099511627776 pr)(br:bdA 1099511627776 rs)(hW:W≤32)(hx:x≤1000)(hy:y≤1000)(hn:(y+3)*W+x+3<n)(hnb:n≤1099511627776)
 (own:w.ownsRow base 3 1 (.slice (some ⟨g,0,none⟩) n c) n (px.map (Value.int .i64))) :
 Calls Tryz.prog 49 #[.agg #[.int .i64 W,.int .i64 H,.slice (some ⟨g,0,none⟩) n c],.int .i64 (x:Nat),.int .i64 (y:Nat),.agg (ic pr),.agg (ic rs)] w fun e w'=>e= .returned (.tuple #[])∧w'.ownsRow base 3 1 (.slice (some ⟨g,0,none⟩) n c) n ((putS px W x y pr rs 16).map (Value.int .i64))∧w.grownBy w' (some g):=by
 have Hp:=Aa hp;have Hr:=Aa hr;have Bp:=Aa bp;have Br:=Aa br;have hgB:g<w.heap.size:=(own.lt g rfl).2;have P0:PG w w.heap.size base g W H n c 0 pr rs px (((w.alloc (.cells #[.int .i64 W,.int .i64 H,.slice (some ⟨g,0,none⟩) n c] 30)).alloc (.cells (ic pr) 47)).alloc (.cells (ic rs) 47)):=by
  have a1:=Ext.alloc w (.cells #[.int .i64 W,.int .i64 H,.slice (some ⟨g,0,none⟩) n c] 30);have a2:=Ext.alloc (w.alloc (.cells #[.int .i64 W,.int .i64 H,.slice (some ⟨g,0,none⟩) n c] 30)) (.cells (ic pr) 47);have a3:=Ext.alloc ((w.alloc (.cells #[.int .i64 W,.int .i64 H,.slice (some ⟨g,0,none⟩) n c] 30)).alloc (.cells (ic pr) 47)) (.cells (ic rs) 47);have q1:=(IB.new (w.alloc (.cells #[.int .i64 W,.int .i64 H,.slice (some ⟨g,0,none⟩) n c] 30)) 47 pr).ext a3;have q2:=IB.new ((w.alloc (.cells #[.int .i64 W,.int .i64 H,.slice (some ⟨g,0,none⟩) n c] 30)).alloc (.cells (ic pr) 47)) 47 rs;simp only[World.size_alloc]at q1 q2;exact⟨BH (BV _ _) ((a1.trans a2).trans a3),Ae own ((a1.trans a2).trans a3),a3.blk (a2.blk (Aj _ _)),q1,q2,hgB⟩
 have q2:=P0.b2;clear hp hr bp br;go_enter Tryz.func49,Tryz.ntmps49
 go_wp2_with (refine Ab 47 _ rfl rfl q2 0 16 rfl _ Rm rfl Ag (by rw[Hr.out];omega) _ (by rw[Ak _ _ (Hr.out)]) ?_)
 try simp only[World.size_alloc]
 obtain⟨B,hB⟩:∃ B,B=w.heap.size:=⟨_,rfl⟩;rw[←hB]at P0⊢;have HB0:=Aa hB;clear hB own hgB q2;go_loopw [13] (fun i wr=>∃ k:Nat,k≤16∧i= .int .i64 k∧PG w B base g W H n c 0 pr rs (putS px W x y pr rs k) wr) (fun i _=>16-(intOf i).toNat)
 case atStart=>exact⟨0,by omega,rfl,P0⟩
 case round =>
  obtain⟨k,hk,rfl,P1⟩:=hrel;clear P0
  by_cases hlt:k<16
  ·have hd:decide ((k:Int)<16)=true:=by simp;omega
   have hS:=Aa (show putS px W x y pr rs (k+1)=(putS px W x y pr rs k).set ((y+k/4)*W+x+k%4) (AZ (nth pr k+nth rs k) 0 255)from rfl);obtain⟨u,hu⟩:∃ u,u=y+k/4:=⟨_,rfl⟩;rw[←hu]at hS;have hu1:u*W≤(y+3)*W:=Nat.mul_le_mul_right W (by omega);obtain⟨q,hq⟩:∃ q,q=u*W+x+k%4:=⟨_,rfl⟩;rw[←hq]at hS;have hqn:q<n:=by omega
   have hu2:u≤2000:=by omega
   have hm1:(u:Int)*(W:Int)=((u*W:Nat):Int):=by rw[Int.natCast_mul]
   have hm:0≤(u:Int)*(W:Int)∧(u:Int)*(W:Int)≤1099511627776:=by omega
   have Hu:=Aa (show(y:Int)+(k:Int)/4=(u:Int) by omega);have Hq:=Aa (show(u:Int)*(W:Int)+(x:Int)+(k:Int)%4=(q:Int) by omega);have v0b:=Bp.out k;have v1b:=Br.out k;have C0:=Aa (fun(wx:World) (h:IB wx (B+1) 47 pr)=>h.cell (i:=k) (by rw[Hp.out];exact hlt));have C1:=Aa (fun(wx:World) (h:IB wx (B+1+1) 47 rs)=>h.cell (i:=k) (by rw[Hr.out];exact hlt));go_wp2_with (refine AF _ _ _ rfl rfl rs rfl k 16 _ rfl rfl _ Rm Rt AC hlt Hr.out ?_)
   generalize nth pr k=v0 at *;generalize nth rs k=v1 at *;obtain⟨v,hv⟩:∃ v,v=AZ (v0+v1) 0 255:=⟨_,rfl⟩;rw[←hv]at hS;have Hv:=Aa hv;have hku:k/4≤3:=by omega
   clear hv hu hq hu1 hm1;generalize putS px W x y pr rs k=Zk at *;obtain⟨Zk1,hZk1⟩:∃ Z,Z=putS px W x y pr rs (k+1):=⟨_,rfl⟩;rw[←hZk1]at hS;have HZk1:=Aa hZk1;clear hZk1;refine Am (by kernel_rfl) [(17,0),(18,1),(19,2),(20,3),(21,4),(22,5),(23,6),(24,7),(25,8),(26,9),(27,10),(28,11),(29,12),(30,13),(31,14),(32,15),(33,16),(34,17),(35,18),(36,19),(37,20)] [[],[0],[],[],[3],[2,3,4],[],[6],[2,3,4,5,6,7],[],[2,3,4,5,6,7,8,9],[],[11],[2,3,4,5,6,7,8,9,10,11,12],[],[14],[14,15],[],[14,15,16,17],[14,15,16,17,18],[0,1,2,3,4,5,6,7,8,9,10,11,12,13,14,15,16,17,18,19],[0,1,2,3,4,5,6,7,8,9,10,11,12,13,14,15,16,17,18,19,20]] (fun i own ys wx=>match i with|0=>own= .pointer (some ⟨B,2,none⟩)|1=>own= .slice (some ⟨g,0,none⟩) n c|2=>own= .int .i64 (y:Nat)|3=>own= .int .i64 (k:Nat)|4=>own= .int .i64 ((k:Int)/4)|5=>own= .int .i64 (u:Nat)|6=>own= .pointer (some ⟨B,0,none⟩)|7=>own= .int .i64 (W:Nat)|8=>own= .int .i64 ((u:Int)*(W:Int))|9=>own= .int .i64 (x:Nat)|10=>own= .int .i64 ((u:Int)*(W:Int)+(x:Int))|11=>own= .int .i64 (k:Nat)|12=>own= .int .i64 ((k:Int)%4)|13=>own= .int .i64 (q:Nat)|14=>own= .int .i64 (k:Nat)|15=>own= .pointer (some ⟨B+1,k,none⟩)|16=>own= .int .i64 v0|17=>own= .int .i64 v1|18=>own= .int .i64 (v0+v1)|19=>own= .int .i64 v|20=>own= .pointer (some ⟨g,q,none⟩)|21=>True|_=>True) (fun Lx wx=>PG w B base g W H n c 0 pr rs (if Lx 21=true then Zk1 else Zk) wx) (by kernel_rfl) (by kernel_rfl) (by kernel_rfl) ?g0_r1 ?gop_r1 ?gend_r1
   case g0_r1=>exact P1.drew
   case gop_r1 =>
    refine⟨?_,?o1,?_,?_,?o4,?o5,?_,?o7,?o8,?_,?o10,?_,?o12,?o13,?_,?o15,?o16,?_,?o18,?o19,?o20,?o21,trivial⟩ <;> (intro Lx xs wx hG hl ha hb hD hI Qo Kx hK hQo;simp only[Ad,Nat.reduceAdd,Nat.reduceEqDiff,↓reduceIte]at hQo⊢)
    case o1 =>
     clear hl ha hb;rw[ddq (hD 0 rfl)]at hQo⊢;clear hD hI;obtain⟨-,k0,k1,k2,-⟩:=bx3 hG.b0;go_wp2;exact hK.out _ _ ⟨rfl,hG,kkp⟩
    case o4 =>
     clear hl ha hb;rw[ddq (hD 3 rfl)]at hQo⊢;clear hD hI;go_wp2;exact hK.out _ _ ⟨rfl,hG,kkp⟩
    case o5 =>
     clear hl ha hb;rw[ddq (hD 2 rfl),ddq (hD 4 rfl)]at hQo⊢;clear hD hI;go_wp2;exact hK.out _ _ ⟨by rw[←Hu.out],hG,fun _ _ _ _ _ _ h=>h⟩
    case o7 =>
     clear hl ha hb;rw[ddq (hD 6 rfl)]at hQo⊢;clear hD hI;obtain⟨-,k0,k1,k2,-⟩:=bx3 hG.b0;go_wp2;exact hK.out _ _ ⟨rfl,hG,kkp⟩
    case o8 =>
     clear hl ha hb;rw[ddq (hD 5 rfl),ddq (hD 7 rfl)]at hQo⊢;clear hD hI;go_wp2;exact hK.out _ _ ⟨rfl,hG,kkp⟩
    case o10 =>
     clear hl ha hb;rw[ddq (hD 8 rfl),ddq (hD 9 rfl)]at hQo⊢;clear hD hI;go_wp2;exact hK.out _ _ ⟨rfl,hG,kkp⟩
    case o12 =>
     clear hl ha hb;rw[ddq (hD 11 rfl)]at hQo⊢;clear hD hI;go_wp2;exact hK.out _ _ ⟨rfl,hG,kkp⟩
    case o13 =>
     clear hl ha hb;rw[ddq (hD 10 rfl),ddq (hD 12 rfl)]at hQo⊢;clear hD hI;go_wp2;exact hK.out _ _ ⟨by rw[←Hq.out],hG,fun _ _ _ _ _ _ h=>h⟩
    case o15 =>
     clear hl ha hb;rw[ddq (hD 14 rfl)]at hQo⊢;clear hD hI;go_wp2;exact hK.out _ _ ⟨rfl,hG,kkp⟩
    case o16 =>
     clear hl ha hb;rw[ddq (hD 15 rfl)]at hQo⊢;clear hD hI;have cx:=C0.out wx hG.b1;go_wp2;exact hK.out _ _ ⟨rfl,hG,kkp⟩
    case o18 =>
     clear hl ha hb;rw[ddq (hD 16 rfl),ddq (hD 17 rfl)]at hQo⊢;clear hD hI;go_wp2;exact hK.out _ _ ⟨rfl,hG,kkp⟩
    case o19 =>
     clear hl ha hb;rw[ddq (hD 18 rfl)]at hQo⊢;clear hD hI;go_wp2_with fail
     refine(Eg _ _ _ _ (by omega)).mono ?_
     rintro e w9 ⟨rfl,rfl⟩
     rw[←Hv.out];go_wp2;exact hK.out _ _ ⟨rfl,hG,kkp⟩
    case o20 =>
     clear hl ha hb;rw[ddq (hD 1 rfl),ddq (hD 13 rfl)]at hQo⊢;clear hD hI;go_wp2;exact hK.out _ _ ⟨rfl,hG,kkp⟩
    case o21 =>
     have l21:Lx 21=false:=hl;clear hl ha hb;rw[ddq (hD 19 rfl),ddq (hD 20 rfl)]at hQo⊢;clear hD hI;rw[l21,ifF]at hG;have cx:=Mc hG.own hqn;have fx:=hG.own.frozenAt q;have s2:=hG.set q v;rw[←hS.out]at s2;go_wp2;exact hQo undef _ (hK.out _ _ ⟨trivial,s2,fun _ _ _ _ _ _ h=>h⟩)
    all_goals
     clear hl ha hb hD hI;go_wp2;exact hK.out _ _ ⟨rfl,hG,kkp⟩
   intro xs wx hV hG0;obtain⟨Lx,hL,hG⟩:=hG0;have l21:Lx 21=true:=hL 21 (by decide);clear hL hV;simp only[Ad,Nat.reduceAdd,Nat.reduceEqDiff,↓reduceIte];generalize xs 0=y0,xs 1=y1,xs 2=y2,xs 3=y3,xs 4=y4,xs 5=y5,xs 6=y6,xs 7=y7,xs 8=y8,xs 9=y9,xs 10=y10,xs 11=y11,xs 12=y12,xs 13=y13,xs 14=y14,xs 15=y15,xs 16=y16,xs 17=y17,xs 18=y18,xs 19=y19,xs 20=y20,xs 21=y21 at *
   replace hG:PG w B base g W H n c 0 pr rs (if Lx 21=true then Zk1 else Zk) wx:=hG
   rw[l21,ifT]at hG;clear P1 C0 C1;have HG:=Aa hG;clear hG;go_wp2;go_roundw
   case rel=>exact⟨k+1,by omega,by go_num,by rw[←HZk1.out];exact HG.out⟩
   case measure=>simp[intOf];omega
  ·obtain rfl:k=16:=by omega
   have HP:=Aa P1;clear P1;go_wp2;go_end0
   exact⟨rfl,HP.out.own,HP.out.gr⟩
theorem Iy (W H x y base g n c:Nat)(px pr rs:List Int)(w:World)(hp:pr.length=16)(hr:rs.length=16)(bp:bdA 1099511627776 pr)(br:bdA 1099511627776 rs)(hW:W≤32)(hx:x≤1000)(hy:y≤1000)(hn:(y+3)*W+x+3<n)(hnb:n≤1099511627776)
 (own:w.ownsRow base 3 1 (.slice (some ⟨g,0,none⟩) n c) n (px.map (Value.int .i64))) :
 Calls Tryz.prog 76 #[.agg #[.int .i64 W,.int .i64 H,.slice (some ⟨g,0,none⟩) n c],.int .i64 (x:Nat),.int .i64 (y:Nat),.agg (ic pr),.agg (ic rs)] w fun e w'=>e= .returned (.tuple #[])∧w'.ownsRow base 3 1 (.slice (some ⟨g,0,none⟩) n c) n ((putS px W x y pr rs 16).map (Value.int .i64))∧w.grownBy w' (some g):=by
 have Hp:=Aa hp;have Hr:=Aa hr;have Bp:=Aa bp;have Br:=Aa br;have hgB:g<w.heap.size:=(own.lt g rfl).2;have P0:PG w w.heap.size base g W H n c 0 pr rs px (((w.alloc (.cells #[.int .i64 W,.int .i64 H,.slice (some ⟨g,0,none⟩) n c] 30)).alloc (.cells (ic pr) 47)).alloc (.cells (ic rs) 47)):=by
  have a1:=Ext.alloc w (.cells #[.int .i64 W,.int .i64 H,.slice (some ⟨g,0,none⟩) n c] 30);have a2:=Ext.alloc (w.alloc (.cells #[.int .i64 W,.int .i64 H,.slice (some ⟨g,0,none⟩) n c] 30)) (.cells (ic pr) 47);have a3:=Ext.alloc ((w.alloc (.cells #[.int .i64 W,.int .i64 H,.slice (some ⟨g,0,none⟩) n c] 30)).alloc (.cells (ic pr) 47)) (.cells (ic rs) 47);have q1:=(IB.new (w.alloc (.cells #[.int .i64 W,.int .i64 H,.slice (some ⟨g,0,none⟩) n c] 30)) 47 pr).ext a3;have q2:=IB.new ((w.alloc (.cells #[.int .i64 W,.int .i64 H,.slice (some ⟨g,0,none⟩) n c] 30)).alloc (.cells (ic pr) 47)) 47 rs;simp only[World.size_alloc]at q1 q2;exact⟨BH (BV _ _) ((a1.trans a2).trans a3),Ae own ((a1.trans a2).trans a3),a3.blk (a2.blk (Aj _ _)),q1,q2,hgB⟩
 have q2:=P0.b2;clear hp hr bp br;go_enter Tryz.func76,Tryz.ntmps76
 go_wp2_with fail
 try simp only[World.size_alloc]
 obtain⟨B,hB⟩:∃ B,B=w.heap.size:=⟨_,rfl⟩;rw[←hB]at P0⊢;have HB0:=Aa hB;clear hB own hgB q2;go_loopw [10] (fun i wr=>∃ k:Nat,k≤16∧i= .int .i64 k∧PG w B base g W H n c 0 pr rs (putS px W x y pr rs k) wr) (fun i _=>16-(intOf i).toNat)
 case atStart=>exact⟨0,by omega,rfl,P0⟩
 case round =>
  obtain⟨k,hk,rfl,P1⟩:=hrel;clear P0
  by_cases hlt:k<16
  ·have hd:decide ((k:Int)<16)=true:=by simp;omega
   have hS:=Aa (show putS px W x y pr rs (k+1)=(putS px W x y pr rs k).set ((y+k/4)*W+x+k%4) (AZ (nth pr k+nth rs k) 0 255)from rfl);obtain⟨u,hu⟩:∃ u,u=y+k/4:=⟨_,rfl⟩;rw[←hu]at hS;have hu1:u*W≤(y+3)*W:=Nat.mul_le_mul_right W (by omega);obtain⟨q,hq⟩:∃ q,q=u*W+x+k%4:=⟨_,rfl⟩;rw[←hq]at hS;have hqn:q<n:=by omega
   have hu2:u≤2000:=by omega
   have hm1:(u:Int)*(W:Int)=((u*W:Nat):Int):=by rw[Int.natCast_mul]
   have hm:0≤(u:Int)*(W:Int)∧(u:Int)*(W:Int)≤1099511627776:=by omega
   have Hu:=Aa (show(y:Int)+(k:Int)/4=(u:Int) by omega);have Hq:=Aa (show(u:Int)*(W:Int)+(x:Int)+(k:Int)%4=(q:Int) by omega);have v0b:=Bp.out k;have v1b:=Br.out k;have C0:=Aa (fun(wx:World) (h:IB wx (B+1) 47 pr)=>h.cell (i:=k) (by rw[Hp.out];exact hlt));have C1:=Aa (fun(wx:World) (h:IB wx (B+1+1) 47 rs)=>h.cell (i:=k) (by rw[Hr.out];exact hlt));go_wp2_with fail
   generalize nth pr k=v0 at *;generalize nth rs k=v1 at *;obtain⟨v,hv⟩:∃ v,v=AZ (v0+v1) 0 255:=⟨_,rfl⟩;rw[←hv]at hS;have Hv:=Aa hv;have hku:k/4≤3:=by omega
   clear hv hu hq hu1 hm1;generalize putS px W x y pr rs k=Zk at *;obtain⟨Zk1,hZk1⟩:∃ Z,Z=putS px W x y pr rs (k+1):=⟨_,rfl⟩;rw[←hZk1]at hS;have HZk1:=Aa hZk1;clear hZk1;refine Am (by kernel_rfl) [(15,0),(16,1),(17,2),(18,3),(19,4),(20,5),(21,6),(22,7),(23,8),(24,9),(25,10),(26,11),(27,12),(28,13),(29,14),(30,15),(31,16),(32,17),(33,18),(34,19),(35,20),(36,21),(37,22)] [[],[0],[],[],[3],[2,3,4],[],[6],[2,3,4,5,6,7],[],[2,3,4,5,6,7,8,9],[],[11],[2,3,4,5,6,7,8,9,10,11,12],[],[14],[14,15],[],[17],[17,18],[14,15,16,17,18,19],[14,15,16,17,18,19,20],[0,1,2,3,4,5,6,7,8,9,10,11,12,13,14,15,16,17,18,19,20,21],[0,1,2,3,4,5,6,7,8,9,10,11,12,13,14,15,16,17,18,19,20,21,22]] (fun i own ys wx=>match i with|0=>own= .pointer (some ⟨B,2,none⟩)|1=>own= .slice (some ⟨g,0,none⟩) n c|2=>own= .int .i64 (y:Nat)|3=>own= .int .i64 (k:Nat)|4=>own= .int .i64 ((k:Int)/4)|5=>own= .int .i64 (u:Nat)|6=>own= .pointer (some ⟨B,0,none⟩)|7=>own= .int .i64 (W:Nat)|8=>own= .int .i64 ((u:Int)*(W:Int))|9=>own= .int .i64 (x:Nat)|10=>own= .int .i64 ((u:Int)*(W:Int)+(x:Int))|11=>own= .int .i64 (k:Nat)|12=>own= .int .i64 ((k:Int)%4)|13=>own= .int .i64 (q:Nat)|14=>own= .int .i64 (k:Nat)|15=>own= .pointer (some ⟨B+1,k,none⟩)|16=>own= .int .i64 v0|17=>own= .int .i64 (k:Nat)|18=>own= .pointer (some ⟨B+1+1,k,none⟩)|19=>own= .int .i64 v1|20=>own= .int .i64 (v0+v1)|21=>own= .int .i64 v|22=>own= .pointer (some ⟨g,q,none⟩)|23=>True|_=>True) (fun Lx wx=>PG w B base g W H n c 0 pr rs (if Lx 23=true then Zk1 else Zk) wx) (by kernel_rfl) (by kernel_rfl) (by kernel_rfl) ?g0_r2 ?gop_r2 ?gend_r2
   case g0_r2=>exact P1.drew
   case gop_r2 =>
    refine⟨?_,?o1,?_,?_,?o4,?o5,?_,?o7,?o8,?_,?o10,?_,?o12,?o13,?_,?o15,?o16,?_,?o18,?o19,?o20,?o21,?o22,?o23,trivial⟩ <;> (intro Lx xs wx hG hl ha hb hD hI Qo Kx hK hQo;simp only[Ad,Nat.reduceAdd,Nat.reduceEqDiff,↓reduceIte]at hQo⊢)
    case o1 =>
     clear hl ha hb;rw[ddq (hD 0 rfl)]at hQo⊢;clear hD hI;obtain⟨-,k0,k1,k2,-⟩:=bx3 hG.b0;go_wp2;exact hK.out _ _ ⟨rfl,hG,kkp⟩
    case o4 =>
     clear hl ha hb;rw[ddq (hD 3 rfl)]at hQo⊢;clear hD hI;go_wp2;exact hK.out _ _ ⟨rfl,hG,kkp⟩
    case o5 =>
     clear hl ha hb;rw[ddq (hD 2 rfl),ddq (hD 4 rfl)]at hQo⊢;clear hD hI;go_wp2;exact hK.out _ _ ⟨by rw[←Hu.out],hG,fun _ _ _ _ _ _ h=>h⟩
    case o7 =>
     clear hl ha hb;rw[ddq (hD 6 rfl)]at hQo⊢;clear hD hI;obtain⟨-,k0,k1,k2,-⟩:=bx3 hG.b0;go_wp2;exact hK.out _ _ ⟨rfl,hG,kkp⟩
    case o8 =>
     clear hl ha hb;rw[ddq (hD 5 rfl),ddq (hD 7 rfl)]at hQo⊢;clear hD hI;go_wp2;exact hK.out _ _ ⟨rfl,hG,kkp⟩
    case o10 =>
     clear hl ha hb;rw[ddq (hD 8 rfl),ddq (hD 9 rfl)]at hQo⊢;clear hD hI;go_wp2;exact hK.out _ _ ⟨rfl,hG,kkp⟩
    case o12 =>
     clear hl ha hb;rw[ddq (hD 11 rfl)]at hQo⊢;clear hD hI;go_wp2;exact hK.out _ _ ⟨rfl,hG,kkp⟩
    case o13 =>
     clear hl ha hb;rw[ddq (hD 10 rfl),ddq (hD 12 rfl)]at hQo⊢;clear hD hI;go_wp2;exact hK.out _ _ ⟨by rw[←Hq.out],hG,fun _ _ _ _ _ _ h=>h⟩
    case o15 =>
     clear hl ha hb;rw[ddq (hD 14 rfl)]at hQo⊢;clear hD hI;go_wp2;exact hK.out _ _ ⟨rfl,hG,kkp⟩
    case o16 =>
     clear hl ha hb;rw[ddq (hD 15 rfl)]at hQo⊢;clear hD hI;have cx:=C0.out wx hG.b1;go_wp2;exact hK.out _ _ ⟨rfl,hG,kkp⟩
    case o18 =>
     clear hl ha hb;rw[ddq (hD 17 rfl)]at hQo⊢;clear hD hI;go_wp2;exact hK.out _ _ ⟨rfl,hG,kkp⟩
    case o19 =>
     clear hl ha hb;rw[ddq (hD 18 rfl)]at hQo⊢;clear hD hI;have cx:=C1.out wx hG.b2;go_wp2;exact hK.out _ _ ⟨rfl,hG,kkp⟩
    case o20 =>
     clear hl ha hb;rw[ddq (hD 16 rfl),ddq (hD 19 rfl)]at hQo⊢;clear hD hI;go_wp2;exact hK.out _ _ ⟨rfl,hG,kkp⟩
    case o21 =>
     clear hl ha hb;rw[ddq (hD 20 rfl)]at hQo⊢;clear hD hI;go_wp2_with fail
     refine(DF _ _ _ _).mono ?_
     rintro e w9 ⟨rfl,rfl⟩
     rw[←Hv.out];go_wp2;exact hK.out _ _ ⟨rfl,hG,kkp⟩
    case o22 =>
     clear hl ha hb;rw[ddq (hD 1 rfl),ddq (hD 13 rfl)]at hQo⊢;clear hD hI;go_wp2;exact hK.out _ _ ⟨rfl,hG,kkp⟩
    case o23 =>
     have l23:Lx 23=false:=hl;clear hl ha hb;rw[ddq (hD 21 rfl),ddq (hD 22 rfl)]at hQo⊢;clear hD hI;rw[l23,ifF]at hG;have cx:=Mc hG.own hqn;have fx:=hG.own.frozenAt q;have s2:=hG.set q v;rw[←hS.out]at s2;go_wp2;exact hQo undef _ (hK.out _ _ ⟨trivial,s2,fun _ _ _ _ _ _ h=>h⟩)
    all_goals
     clear hl ha hb hD hI;go_wp2;exact hK.out _ _ ⟨rfl,hG,kkp⟩
   intro xs wx hV hG0;obtain⟨Lx,hL,hG⟩:=hG0;have l23:Lx 23=true:=hL 23 (by decide);clear hL hV;simp only[Ad,Nat.reduceAdd,Nat.reduceEqDiff,↓reduceIte];generalize xs 0=y0,xs 1=y1,xs 2=y2,xs 3=y3,xs 4=y4,xs 5=y5,xs 6=y6,xs 7=y7,xs 8=y8,xs 9=y9,xs 10=y10,xs 11=y11,xs 12=y12,xs 13=y13,xs 14=y14,xs 15=y15,xs 16=y16,xs 17=y17,xs 18=y18,xs 19=y19,xs 20=y20,xs 21=y21,xs 22=y22,xs 23=y23 at *
   replace hG:PG w B base g W H n c 0 pr rs (if Lx 23=true then Zk1 else Zk) wx:=hG
   rw[l23,ifT]at hG;clear P1 C0 C1;have HG:=Aa hG;clear hG;go_wp2;go_roundw
   case rel=>exact⟨k+1,by omega,by go_num,by rw[←HZk1.out];exact HG.out⟩
   case measure=>simp[intOf];omega
  ·obtain rfl:k=16:=by omega
   have HP:=Aa P1;clear P1;go_wp2;go_end0
   exact⟨rfl,HP.out.own,HP.out.gr⟩
section
variable {P : Program}
def setL (arr:Array Value):Nat→List Value→Array Value
 | _,[]=>arr
 | i,y::ys=>setL (arr.setIfInBounds i y) (i+1) ys
theorem KE : ∀(ys:List Value) (i:Nat) (arr:Array Value),i+ys.length≤arr.size→(setL arr i ys).toList=arr.toList.take i++ys++arr.toList.drop (i+ys.length)
 | [],i,arr,h=>by simp[setL]
 | y::ys,i,arr,h=>by
  have hi:i<arr.toList.length:=by simp at h⊢;omega
  unfold setL;rw[KE ys (i+1) _ (by simp at h⊢;omega),Array.toList_setIfInBounds,List.take_set,List.drop_set_of_lt (by omega),List.take_succ_eq_append_getElem hi,List.set_append_right _ _ (by simp;omega)];have e:i-(List.take i arr.toList).length=0:=by simp at hi⊢;omega
  rw[e];simp[Nat.add_assoc,Nat.add_comm 1]
theorem Py {ys:List Value}{arr:Array Value}(h:ys.length=arr.size):setL arr 0 ys=ys.toArray:=by
 apply Array.toList_inj.1;rw[KE _ _ _ (by omega)];have:arr.toList.length≤0+ys.length:=by simp;omega
 rw[List.drop_of_length_le this];simp
theorem Ep {b T:Nat}: ∀(ys:List Value) (i:Nat) (arr:Array Value) (w:World),(∀ y∈ys,y.oneCell'=true)→w.heap[b]?=some (.cells arr T (0,0))→i+ys.length≤arr.size →
 ∃ w',(storeCells ⟨b,0,none⟩ ys i).run P w= .ok () w'∧w'.heap[b]?=some (.cells (setL arr i ys) T (0,0))∧w.grownBy w' (some b)
 | [],i,arr,w,_,h,hl=>⟨w,by simp[storeCells],h,World.grownBy.refl _ _⟩
 | y::ys,i,arr,w,hy,h,hl=>by
  have hlt:i<arr.size:=by simp at hl;omega
  have hadd:(⟨b,0,none⟩:Addr).add i=⟨b,i,none⟩:=by rw[Addr.add_lit,Nat.zero_add]
  have hc:w.cell? ⟨b,i,none⟩=some arr[i]:=by simp[World.cell?,h,hlt]
  have hst:(store ((⟨b,0,none⟩:Addr).add i) y).run P w= .ok () (w.setCell ⟨b,i,none⟩ y):=by
   rw[hadd,run_store P w _ y _ (hy y (by simp)),hc];simp[World.frozen?,h]
  have h1:=heap_setCell_same w b i arr T y h;obtain⟨w',k1,k2,k3⟩:=Ep ys (i+1) (arr.setIfInBounds i y) _ (fun z hz=>hy z (by simp[hz])) h1 (by simp at hl⊢;omega);refine⟨w',?_,k2,grownBy_trans (Ax _ _ _ _) k3⟩;simp only[storeCells,Sem.run_bind,hst,Result.andThen_ok,k1]
theorem A7 {ops:Array Oper}{rest:List Oper}{o:Oper}{a:Act}{w:World}{Q:Exit→Act→World→Prop}(ty:TypeId)(x y:Operand)(ho:o.op= .store ty x y)(hgd:Region.wanted o (yielded ops a.tmps)=true)
 {b T:Nat} {arr:Array Value} (h:w.heap[b]?=some (.cells arr T (0,0))) (hx:a.eval x= .pointer (some ⟨b,0,none⟩)) (cs:Array Value) (hy:a.eval y= .agg cs) (h1:∀ u∈cs.toList,u.oneCell'=true)
 (n:Nat) (hi:(P.info? ty).map (·.size)=some n) (hn:cs.size=n) (hn2:arr.size=n)
 (hK:∀ w',w'.heap[b]?=some (.cells cs T (0,0))→w.grownBy w' (some b)→wpList P ops Q rest (a.put o.dst undef) w'):wpList P ops Q (o::rest) a w:=by
 refine AG hgd fun _ hK' => ?_
 obtain⟨w',k1,k2,k3⟩:=Ep (P:=P) cs.toList 0 arr w h1 h (by simp;omega);rw[Py (by simp;omega)]at k2;have hs:(storeVar ty ⟨b,0,none⟩ (.agg cs)).run P w= .ok () w':=by
  cases hq:P.info? ty with
  | none=>simp[hq]at hi
  | some i =>
   have hs:i.size=n:=by simpa [hq] using hi
   have e:(Value.agg cs).cells=cs:=rfl;simp[storeVar,sizeOf,typeInfo,hq,e,hs,hn,k1]
 unfold Oper.wp execOp;simp only[ho,hx,hy,Instr.storeAt,Instr.sureAddr,Sem.run_bind,Sem.run_pure,Result.andThen_ok,hs];exact hK' _ _ (hK w' (by simpa using k2) k3)
theorem AA {ops:Array Oper}{rest:List Oper}{o:Oper}{a:Act}{w:World}{Q:Exit→Act→World→Prop}(ty:TypeId)(x:Operand)(ho:o.op= .load ty x)(hgd:Region.wanted o (yielded ops a.tmps)=true)
 {b T:Nat} {cs:Array Value} (h:w.heap[b]?=some (.cells cs T (0,0))) (hx:a.eval x= .pointer (some ⟨b,0,none⟩)) (d:TypeDesc)
 (hu:P.underlying ty=some d) (hd:(match d with | .struct _ | .array _ _=>true|_=>false)=true) (n:Nat) (hi:(P.info? ty).map (·.size)=some n) (hn:cs.size=n)
 (hK:wpList P ops Q rest (a.put o.dst (.agg cs)) w):wpList P ops Q (o::rest) a w:=by
 refine AG hgd fun _ hK' => ?_
 have hl:=run_loadVar_row (P:=P) w b T ty cs (0,0) d h hu hd (by rw[hi,hn]);unfold Oper.wp execOp;simp only[ho,hx,Instr.loadAt,Instr.sureAddr,Sem.run_bind,Sem.run_pure,Result.andThen_ok,hl];exact hK' _ _ hK
end
def edC (e:Ed):Array Value:=(e.ab.map (Value.int .i64)++(e.lf.map (Value.int .i64) ++ [Value.int .i64 e.co,Value.bool e.up,Value.bool e.le])).toArray
structure Ed.ln (e : Ed) : Prop where
 ab:e.ab.length=4
 lf:e.lf.length=4
theorem Ed.ok.ln {e:Ed}(h:e.ok):e.ln:=⟨h.ab,h.lf⟩
theorem As {e:Ed}(h:e.ln):(edC e).size=11:=by simp[edC,h.ab,h.lf]
theorem QK {e:Ed}(h:e.ln){k:Nat}(hk:k<4):(edC e)[k]?=some (.int .i64 (nth e.ab k)):=by
 have:=h.ab;simp[edC,nth,List.getElem?_append_left (show k<(e.ab.map (Value.int .i64)).length by simp;omega),show k<e.ab.length by omega]
theorem QL {e:Ed}(h:e.ln){k:Nat}(hk:k<4):(edC e)[4+k]?=some (.int .i64 (nth e.lf k)):=by
 have h1:=h.ab;have h2:=h.lf;simp[edC,nth,List.getElem?_append_right (show(e.ab.map (Value.int .i64)).length≤4+k by simp;omega),h1,List.getElem?_append_left (show k<(e.lf.map (Value.int .i64)).length by simp;omega),show k<e.lf.length by omega]
theorem O0 {e:Ed}(h:e.ln)(k:Nat):(edC e)[8+k]? = [Value.int .i64 e.co,.bool e.up,.bool e.le][k]?:=by
 have h1:=h.ab;have h2:=h.lf;have e1:(edC e).toList=(e.ab.map (Value.int .i64)++e.lf.map (Value.int .i64)) ++ [Value.int .i64 e.co,Value.bool e.up,Value.bool e.le]:=by simp[edC]
 rw[←Array.getElem?_toList,e1,List.getElem?_append_right (by simp;omega)]
 congr 1
 simp;omega
def EB (w:World)(b:Nat)(e:Ed):Prop:=w.heap[b]?=some (.cells (edC e) 67 (0,0))
theorem EB.at {w:World}{b:Nat}{e:Ed}(h:EB w b e){i:Nat}{v:Value}(hi:(edC e)[i]?=some v):w.cell? ⟨b,i,none⟩=some v:=by
 have:w.heap[b]?=some (.cells (edC e) 67 (0,0)):=h;simp[World.cell?,this,hi]
theorem EB.ab {w:World}{b:Nat}{e:Ed}(h:EB w b e)(l:e.ln){k:Nat}(hk:k<4):w.cell? ⟨b,k,none⟩=some (.int .i64 (nth e.ab k)):=h.at (QK l hk)
theorem EB.lf {w:World}{b:Nat}{e:Ed}(h:EB w b e)(l:e.ln){k:Nat}(hk:k<4):w.cell? ⟨b,4+k,none⟩=some (.int .i64 (nth e.lf k)):=h.at (QL l hk)
theorem EB.co {w:World}{b:Nat}{e:Ed}(h:EB w b e)(l:e.ln):w.cell? ⟨b,8,none⟩=some (.int .i64 e.co):=h.at (O0 l 0)
theorem EB.up {w:World}{b:Nat}{e:Ed}(h:EB w b e)(l:e.ln):w.cell? ⟨b,9,none⟩=some (.bool e.up):=h.at (O0 l 1)
theorem EB.le {w:World}{b:Nat}{e:Ed}(h:EB w b e)(l:e.ln):w.cell? ⟨b,10,none⟩=some (.bool e.le):=h.at (O0 l 2)
theorem EB.frozen {w:World}{b:Nat}{e:Ed}(h:EB w b e)(i:Nat):w.frozen? ⟨b,i,none⟩=false:=by
 have:w.heap[b]?=some (.cells (edC e) 67 (0,0)):=h;simp[World.frozen?,this]
theorem EB.lt {w:World}{b:Nat}{e:Ed}(h:EB w b e):b<w.heap.size:=lt_of_block h
theorem EB.ext {w w':World}{b:Nat}{e:Ed}(h:EB w b e)(x:Ext w w'):EB w' b e:=x.blk h
theorem EB.gr {w w':World}{b:Nat}{e:Ed}{row:Option Nat}(h:EB w b e)(g:w.grownBy w' row)(hne:row≠some b):EB w' b e:=Ar h g hne
theorem EB.set_other {w:World}{b c i:Nat}{v:Value}{e:Ed}(h:EB w b e)(hne:b≠c):EB (w.setCell ⟨c,i,none⟩ v) b e:=Ai h hne
theorem EB.new (w:World)(e:Ed):EB (w.alloc (.cells (edC e) 67)) w.heap.size e:=Aj w _
theorem EB.set_ab {w:World}{b:Nat}{e:Ed}(h:EB w b e)(l:e.ln){k:Nat}(hk:k<4)(v:Int):EB (w.setCell ⟨b,k,none⟩ (.int .i64 v)) b { e with ab:=e.ab.set k v } := by
 have h1:=heap_setCell_same w b k (edC e) _ (.int .i64 v) h;have h2:(edC e).setIfInBounds k (.int .i64 v)=edC { e with ab:=e.ab.set k v } := by
  apply Array.toList_inj.1;have:=l.ab;rw[Array.toList_setIfInBounds];simp only[edC];rw[List.set_append_left _ _ (by simp;omega),List.map_set]
 rw[h2]at h1;exact h1
theorem EB.set_lf {w:World}{b:Nat}{e:Ed}(h:EB w b e)(l:e.ln){k:Nat}(hk:k<4)(v:Int):EB (w.setCell ⟨b,4+k,none⟩ (.int .i64 v)) b { e with lf:=e.lf.set k v } := by
 have h1:=heap_setCell_same w b (4+k) (edC e) _ (.int .i64 v) h;have h2:(edC e).setIfInBounds (4+k) (.int .i64 v)=edC { e with lf:=e.lf.set k v } := by
  apply Array.toList_inj.1;have a1:=l.ab;have a2:=l.lf;rw[Array.toList_setIfInBounds];simp only[edC];rw[List.set_append_right _ _ (by simp;omega),List.length_map,a1,show 4+k-4=k by omega,List.set_append_left _ _ (by simp;omega),List.map_set]
 rw[h2]at h1;exact h1
theorem EB.set_co {w:World}{b:Nat}{e:Ed}(h:EB w b e)(l:e.ln)(v:Int):EB (w.setCell ⟨b,8,none⟩ (.int .i64 v)) b { e with co:=v } := by
 have h1:=heap_setCell_same w b 8 (edC e) _ (.int .i64 v) h;have h2:(edC e).setIfInBounds 8 (.int .i64 v)=edC { e with co:=v } := by
  apply Array.toList_inj.1;have a1:=l.ab;have a2:=l.lf;rw[Array.toList_setIfInBounds];simp only[edC];rw[List.set_append_right _ _ (by simp;omega),List.length_map,a1,List.set_append_right _ _ (by simp;omega),List.length_map,a2];rfl
 rw[h2]at h1;exact h1
theorem CJ (e:Ed):∀ u∈(edC e).toList,u.oneCell'=true:=by
 intro u hu;simp only[edC,List.mem_append,List.mem_map,List.mem_cons,List.not_mem_nil,or_false]at hu;rcases hu with⟨z,-,rfl⟩|⟨z,-,rfl⟩|rfl|rfl|rfl <;> rfl
theorem Aq : (Tryz.prog.info? 67).map (·.size)=some 11:=by kernel_rfl
end Go.Proofs.YtijnbalgnhigbaaGreatDoor
namespace Go.Proofs.YtijnbalgnhigbaaGreatDoor
open Go.RowKit
theorem El {e:Ed}(h:mnN e 4≠0):mean e=rnd (mnT e 4) (mnN e 4):=by unfold mean rnd;rw[if_neg h]
theorem KB {e:Ed}(h:mnN e 4=0):mean e=128:=by unfold mean;rw[if_pos h]
theorem DZ (e:Ed)(k:Nat):0≤mnN e k∧mnN e k≤2*k:=by
 unfold mnN;cases e.up <;> cases e.le <;> simp <;> omega
theorem K5 (e:Ed)(x y:Int)(w:World)(ok:e.ok)(hu:e.up=true)(hl:e.le=true):
 Calls Tryz.prog 87 #[.agg (edC e),.int .i64 x,.int .i64 y] w fun r w'=>r= .returned (.int .i64 (mean e))∧Ext w w':=by
 have HT:=Aa (fun(k:Nat)=>show mnT e (k+1)=mnT e k+nth e.ab k+nth e.lf k by simp only[mnT,hu,hl,if_true,if_false,Bool.false_eq_true,Int.add_zero]);have HNn:=Aa (fun(k:Nat)=>show mnN e (k+1)=mnN e k+1+1 by unfold mnN;rw[hu,hl];simp;try omega);have h0:mnT e 0=0:=rfl;have n0:mnN e 0=0:=by simp[mnN]
 have n4:mnN e 4=8:=by unfold mnN;rw[hu,hl];simp
 have R:=Aa (fun(k:Nat) (hk:k≤4)=>Dk ok hk);have RN:=Aa (fun(k:Nat)=>DZ e k);have HM:=Aa (El (e:=e) (by rw[n4];decide));have b0:=EB.new w e;have E0:=Ext.alloc w (.cells (edC e) 67);have L:=Aa ok.ln;have cu:=b0.up ok.ln;have cl:=b0.le ok.ln;rw[hu]at cu;rw[hl]at cl;have OK:=Aa ok;have H0:=Aa h0;have N0:=Aa n0;have N4:=Aa n4;clear hu hl h0 n0 n4 ok;go_enter Tryz.func87,Tryz.ntmps87
 go_wp2_with fail
 go_loop [7,8,10] (fun t n i=>∃ k:Nat,k≤4∧i= .int .i64 k∧t= .int .i64 (mnT e k)∧n= .int .i64 (mnN e k)) (fun _ _ i=>4-(intOf i).toNat)
 case atStart=>exact⟨0,by omega,rfl,by rw[H0.out],by rw[N0.out]⟩
 case round =>
  obtain⟨k,hk,rfl,rfl,rfl⟩:=hrel;have r1:=R.out k hk;have r2:=RN.out k
  by_cases hlt:k<4
  ·have hd:decide ((k:Int)<4)=true:=by simp;omega
   have ca:=b0.ab L.out hlt;have cf:=b0.lf L.out hlt;have ha:=AD OK.out.sab (i:=k) (by rw[OK.out.ab];exact hlt);have hf:=AD OK.out.slf (i:=k) (by rw[OK.out.lf];exact hlt);have Hs:=Aa (HT.out k);have Hn:=Aa (HNn.out k);generalize nth e.ab k=va at *;generalize nth e.lf k=vl at *;obtain⟨T1,hT1⟩:∃ T1,T1=mnT e (k+1):=⟨_,rfl⟩;obtain⟨N1,hN1⟩:∃ N1,N1=mnN e (k+1):=⟨_,rfl⟩;rw[←hT1]at Hs;rw[←hN1]at Hn;have HT1:=Aa hT1;have HN1:=Aa hN1;clear hT1 hN1;generalize mnT e k=T0 at *;generalize mnN e k=M0 at *;go_wp2;go_round
   case rel=>exact⟨k+1,by omega,by go_num,by rw[←HT1.out,Hs.out],by rw[←HN1.out,Hn.out]⟩
   case measure=>simp[intOf];omega
  ·obtain rfl:k=4:=by omega
   have hz:(mnN e 4 == 0)=false:=by rw[N4.out];rfl
   have hb4:4≤mnN e 4:=by rw[N4.out];omega
   go_wp2_with fail
   refine(D5 (mnT e 4) (mnN e 4) _ r1.1 (by omega) (by omega) (by omega)).mono ?_
   rintro r w2 ⟨rfl,rfl⟩
   go_wp2;go_ret
   exact⟨(AN HM).symm,E0⟩
theorem K6 (e:Ed)(x y:Int)(w:World)(ok:e.ok)(hu:e.up=true)(hl:e.le=false):
 Calls Tryz.prog 87 #[.agg (edC e),.int .i64 x,.int .i64 y] w fun r w'=>r= .returned (.int .i64 (mean e))∧Ext w w':=by
 have HT:=Aa (fun(k:Nat)=>show mnT e (k+1)=mnT e k+nth e.ab k by simp only[mnT,hu,hl,if_true,if_false,Bool.false_eq_true,Int.add_zero]);have HNn:=Aa (fun(k:Nat)=>show mnN e (k+1)=mnN e k+1 by unfold mnN;rw[hu,hl];simp;try omega);have h0:mnT e 0=0:=rfl;have n0:mnN e 0=0:=by simp[mnN]
 have n4:mnN e 4=4:=by unfold mnN;rw[hu,hl];simp
 have R:=Aa (fun(k:Nat) (hk:k≤4)=>Dk ok hk);have RN:=Aa (fun(k:Nat)=>DZ e k);have HM:=Aa (El (e:=e) (by rw[n4];decide));have b0:=EB.new w e;have E0:=Ext.alloc w (.cells (edC e) 67);have L:=Aa ok.ln;have cu:=b0.up ok.ln;have cl:=b0.le ok.ln;rw[hu]at cu;rw[hl]at cl;have OK:=Aa ok;have H0:=Aa h0;have N0:=Aa n0;have N4:=Aa n4;clear hu hl h0 n0 n4 ok;go_enter Tryz.func87,Tryz.ntmps87
 go_wp2_with fail
 go_loop [7,8,10] (fun t n i=>∃ k:Nat,k≤4∧i= .int .i64 k∧t= .int .i64 (mnT e k)∧n= .int .i64 (mnN e k)) (fun _ _ i=>4-(intOf i).toNat)
 case atStart=>exact⟨0,by omega,rfl,by rw[H0.out],by rw[N0.out]⟩
 case round =>
  obtain⟨k,hk,rfl,rfl,rfl⟩:=hrel;have r1:=R.out k hk;have r2:=RN.out k
  by_cases hlt:k<4
  ·have hd:decide ((k:Int)<4)=true:=by simp;omega
   have ca:=b0.ab L.out hlt;have cf:=b0.lf L.out hlt;have ha:=AD OK.out.sab (i:=k) (by rw[OK.out.ab];exact hlt);have hf:=AD OK.out.slf (i:=k) (by rw[OK.out.lf];exact hlt);have Hs:=Aa (HT.out k);have Hn:=Aa (HNn.out k);generalize nth e.ab k=va at *;generalize nth e.lf k=vl at *;obtain⟨T1,hT1⟩:∃ T1,T1=mnT e (k+1):=⟨_,rfl⟩;obtain⟨N1,hN1⟩:∃ N1,N1=mnN e (k+1):=⟨_,rfl⟩;rw[←hT1]at Hs;rw[←hN1]at Hn;have HT1:=Aa hT1;have HN1:=Aa hN1;clear hT1 hN1;generalize mnT e k=T0 at *;generalize mnN e k=M0 at *;go_wp2;go_round
   case rel=>exact⟨k+1,by omega,by go_num,by rw[←HT1.out,Hs.out],by rw[←HN1.out,Hn.out]⟩
   case measure=>simp[intOf];omega
  ·obtain rfl:k=4:=by omega
   have hz:(mnN e 4 == 0)=false:=by rw[N4.out];rfl
   have hb4:4≤mnN e 4:=by rw[N4.out];omega
   go_wp2_with fail
   refine(D5 (mnT e 4) (mnN e 4) _ r1.1 (by omega) (by omega) (by omega)).mono ?_
   rintro r w2 ⟨rfl,rfl⟩
   go_wp2;go_ret
   exact⟨(AN HM).symm,E0⟩
theorem KZ (e:Ed)(x y:Int)(w:World)(ok:e.ok)(hu:e.up=false)(hl:e.le=true):
 Calls Tryz.prog 87 #[.agg (edC e),.int .i64 x,.int .i64 y] w fun r w'=>r= .returned (.int .i64 (mean e))∧Ext w w':=by
 have HT:=Aa (fun(k:Nat)=>show mnT e (k+1)=mnT e k+nth e.lf k by simp only[mnT,hu,hl,if_true,if_false,Bool.false_eq_true,Int.add_zero]);have HNn:=Aa (fun(k:Nat)=>show mnN e (k+1)=mnN e k+1 by unfold mnN;rw[hu,hl];simp;try omega);have h0:mnT e 0=0:=rfl;have n0:mnN e 0=0:=by simp[mnN]
 have n4:mnN e 4=4:=by unfold mnN;rw[hu,hl];simp
 have R:=Aa (fun(k:Nat) (hk:k≤4)=>Dk ok hk);have RN:=Aa (fun(k:Nat)=>DZ e k);have HM:=Aa (El (e:=e) (by rw[n4];decide));have b0:=EB.new w e;have E0:=Ext.alloc w (.cells (edC e) 67);have L:=Aa ok.ln;have cu:=b0.up ok.ln;have cl:=b0.le ok.ln;rw[hu]at cu;rw[hl]at cl;have OK:=Aa ok;have H0:=Aa h0;have N0:=Aa n0;have N4:=Aa n4;clear hu hl h0 n0 n4 ok;go_enter Tryz.func87,Tryz.ntmps87
 go_wp2_with fail
 go_loop [7,8,10] (fun t n i=>∃ k:Nat,k≤4∧i= .int .i64 k∧t= .int .i64 (mnT e k)∧n= .int .i64 (mnN e k)) (fun _ _ i=>4-(intOf i).toNat)
 case atStart=>exact⟨0,by omega,rfl,by rw[H0.out],by rw[N0.out]⟩
 case round =>
  obtain⟨k,hk,rfl,rfl,rfl⟩:=hrel;have r1:=R.out k hk;have r2:=RN.out k
  by_cases hlt:k<4
  ·have hd:decide ((k:Int)<4)=true:=by simp;omega
   have ca:=b0.ab L.out hlt;have cf:=b0.lf L.out hlt;have ha:=AD OK.out.sab (i:=k) (by rw[OK.out.ab];exact hlt);have hf:=AD OK.out.slf (i:=k) (by rw[OK.out.lf];exact hlt);have Hs:=Aa (HT.out k);have Hn:=Aa (HNn.out k);generalize nth e.ab k=va at *;generalize nth e.lf k=vl at *;obtain⟨T1,hT1⟩:∃ T1,T1=mnT e (k+1):=⟨_,rfl⟩;obtain⟨N1,hN1⟩:∃ N1,N1=mnN e (k+1):=⟨_,rfl⟩;rw[←hT1]at Hs;rw[←hN1]at Hn;have HT1:=Aa hT1;have HN1:=Aa hN1;clear hT1 hN1;generalize mnT e k=T0 at *;generalize mnN e k=M0 at *;go_wp2;go_round
   case rel=>exact⟨k+1,by omega,by go_num,by rw[←HT1.out,Hs.out],by rw[←HN1.out,Hn.out]⟩
   case measure=>simp[intOf];omega
  ·obtain rfl:k=4:=by omega
   have hz:(mnN e 4 == 0)=false:=by rw[N4.out];rfl
   have hb4:4≤mnN e 4:=by rw[N4.out];omega
   go_wp2_with fail
   refine(D5 (mnT e 4) (mnN e 4) _ r1.1 (by omega) (by omega) (by omega)).mono ?_
   rintro r w2 ⟨rfl,rfl⟩
   go_wp2;go_ret
   exact⟨(AN HM).symm,E0⟩
theorem K4 (e:Ed)(x y:Int)(w:World)(ok:e.ok)(hu:e.up=false)(hl:e.le=false):
 Calls Tryz.prog 87 #[.agg (edC e),.int .i64 x,.int .i64 y] w fun r w'=>r= .returned (.int .i64 (mean e))∧Ext w w':=by
 have HT:=Aa (fun(k:Nat)=>show mnT e (k+1)=mnT e k by simp only[mnT,hu,hl,if_true,if_false,Bool.false_eq_true,Int.add_zero]);have HNn:=Aa (fun(k:Nat)=>show mnN e (k+1)=mnN e k by unfold mnN;rw[hu,hl];simp;try omega);have h0:mnT e 0=0:=rfl;have n0:mnN e 0=0:=by simp[mnN]
 have n4:mnN e 4=0:=by unfold mnN;rw[hu,hl];simp
 have R:=Aa (fun(k:Nat) (hk:k≤4)=>Dk ok hk);have RN:=Aa (fun(k:Nat)=>DZ e k);have HM:=Aa (KB n4);have b0:=EB.new w e;have E0:=Ext.alloc w (.cells (edC e) 67);have L:=Aa ok.ln;have cu:=b0.up ok.ln;have cl:=b0.le ok.ln;rw[hu]at cu;rw[hl]at cl;have OK:=Aa ok;have H0:=Aa h0;have N0:=Aa n0;have N4:=Aa n4;clear hu hl h0 n0 n4 ok;go_enter Tryz.func87,Tryz.ntmps87
 go_wp2_with fail
 go_loop [7,8,10] (fun t n i=>∃ k:Nat,k≤4∧i= .int .i64 k∧t= .int .i64 (mnT e k)∧n= .int .i64 (mnN e k)) (fun _ _ i=>4-(intOf i).toNat)
 case atStart=>exact⟨0,by omega,rfl,by rw[H0.out],by rw[N0.out]⟩
 case round =>
  obtain⟨k,hk,rfl,rfl,rfl⟩:=hrel;have r1:=R.out k hk;have r2:=RN.out k
  by_cases hlt:k<4
  ·have hd:decide ((k:Int)<4)=true:=by simp;omega
   have ca:=b0.ab L.out hlt;have cf:=b0.lf L.out hlt;have ha:=AD OK.out.sab (i:=k) (by rw[OK.out.ab];exact hlt);have hf:=AD OK.out.slf (i:=k) (by rw[OK.out.lf];exact hlt);have Hs:=Aa (HT.out k);have Hn:=Aa (HNn.out k);generalize nth e.ab k=va at *;generalize nth e.lf k=vl at *;obtain⟨T1,hT1⟩:∃ T1,T1=mnT e (k+1):=⟨_,rfl⟩;obtain⟨N1,hN1⟩:∃ N1,N1=mnN e (k+1):=⟨_,rfl⟩;rw[←hT1]at Hs;rw[←hN1]at Hn;have HT1:=Aa hT1;have HN1:=Aa hN1;clear hT1 hN1;generalize mnT e k=T0 at *;generalize mnN e k=M0 at *;go_wp2;go_round
   case rel=>exact⟨k+1,by omega,by go_num,by rw[←HT1.out,Hs.out],by rw[←HN1.out,Hn.out]⟩
   case measure=>simp[intOf];omega
  ·obtain rfl:k=4:=by omega
   have hz:(mnN e 4 == 0)=true:=by rw[N4.out];rfl
   go_wp2;go_ret
   exact⟨(AN HM).symm,E0⟩
theorem J8 (e:Ed)(x y:Int)(w:World)(ok:e.ok):
 Calls Tryz.prog 87 #[.agg (edC e),.int .i64 x,.int .i64 y] w fun r w'=>r= .returned (.int .i64 (mean e))∧Ext w w':=by
 cases hu:e.up <;> cases hl:e.le
 ·exact K4 e x y w ok hu hl
 ·exact KZ e x y w ok hu hl
 ·exact K6 e x y w ok hu hl
 ·exact K5 e x y w ok hu hl
theorem Ov (e:Ed)(w:World)(ok:e.ok)(hu:e.up=true)(hl:e.le=true):
 Calls Tryz.prog 115 #[.agg (edC e)] w fun r w'=>r= .returned (.int .i64 (mean e))∧Ext w w':=by
 have HT:=Aa (fun(k:Nat)=>show mnT e (k+1)=mnT e k+nth e.ab k+nth e.lf k by simp only[mnT,hu,hl,if_true,if_false,Bool.false_eq_true,Int.add_zero]);have HNn:=Aa (fun(k:Nat)=>show mnN e (k+1)=mnN e k+1+1 by unfold mnN;rw[hu,hl];simp;try omega);have h0:mnT e 0=0:=rfl;have n0:mnN e 0=0:=by simp[mnN]
 have n4:mnN e 4=8:=by unfold mnN;rw[hu,hl];simp
 have R:=Aa (fun(k:Nat) (hk:k≤4)=>Dk ok hk);have RN:=Aa (fun(k:Nat)=>DZ e k);have HM:=Aa (El (e:=e) (by rw[n4];decide));have b0:=EB.new w e;have E0:=Ext.alloc w (.cells (edC e) 67);have L:=Aa ok.ln;have cu:=b0.up ok.ln;have cl:=b0.le ok.ln;rw[hu]at cu;rw[hl]at cl;have OK:=Aa ok;have H0:=Aa h0;have N0:=Aa n0;have N4:=Aa n4;clear hu hl h0 n0 n4 ok;go_enter Tryz.func115,Tryz.ntmps115
 go_wp2_with fail
 go_loop [3,4,5] (fun t n i=>∃ k:Nat,k≤4∧i= .int .i64 k∧t= .int .i64 (mnT e k)∧n= .int .i64 (mnN e k)) (fun _ _ i=>4-(intOf i).toNat)
 case atStart=>exact⟨0,by omega,rfl,by rw[H0.out],by rw[N0.out]⟩
 case round =>
  obtain⟨k,hk,rfl,rfl,rfl⟩:=hrel;have r1:=R.out k hk;have r2:=RN.out k
  by_cases hlt:k<4
  ·have hd:decide ((k:Int)<4)=true:=by simp;omega
   have ca:=b0.ab L.out hlt;have cf:=b0.lf L.out hlt;have ha:=AD OK.out.sab (i:=k) (by rw[OK.out.ab];exact hlt);have hf:=AD OK.out.slf (i:=k) (by rw[OK.out.lf];exact hlt);have Hs:=Aa (HT.out k);have Hn:=Aa (HNn.out k);generalize nth e.ab k=va at *;generalize nth e.lf k=vl at *;obtain⟨T1,hT1⟩:∃ T1,T1=mnT e (k+1):=⟨_,rfl⟩;obtain⟨N1,hN1⟩:∃ N1,N1=mnN e (k+1):=⟨_,rfl⟩;rw[←hT1]at Hs;rw[←hN1]at Hn;have HT1:=Aa hT1;have HN1:=Aa hN1;clear hT1 hN1;generalize mnT e k=T0 at *;generalize mnN e k=M0 at *;go_wp2;go_round
   case rel=>exact⟨k+1,by omega,by go_num,by rw[←HT1.out,Hs.out],by rw[←HN1.out,Hn.out]⟩
   case measure=>simp[intOf];omega
  ·obtain rfl:k=4:=by omega
   have hz:(mnN e 4 == 0)=false:=by rw[N4.out];rfl
   have hm:mean e=(mnT e 4+4)/8:=by rw[HM.out,N4.out];unfold rnd;omega
   have HM2:=Aa hm;rw[N4.out]at r1 r2 hz⊢;clear hm;go_wp2;go_ret
   exact⟨(AN HM2).symm,E0⟩
theorem Ow (e:Ed)(w:World)(ok:e.ok)(hu:e.up=true)(hl:e.le=false):
 Calls Tryz.prog 115 #[.agg (edC e)] w fun r w'=>r= .returned (.int .i64 (mean e))∧Ext w w':=by
 have HT:=Aa (fun(k:Nat)=>show mnT e (k+1)=mnT e k+nth e.ab k by simp only[mnT,hu,hl,if_true,if_false,Bool.false_eq_true,Int.add_zero]);have HNn:=Aa (fun(k:Nat)=>show mnN e (k+1)=mnN e k+1 by unfold mnN;rw[hu,hl];simp;try omega);have h0:mnT e 0=0:=rfl;have n0:mnN e 0=0:=by simp[mnN]
 have n4:mnN e 4=4:=by unfold mnN;rw[hu,hl];simp
 have R:=Aa (fun(k:Nat) (hk:k≤4)=>Dk ok hk);have RN:=Aa (fun(k:Nat)=>DZ e k);have HM:=Aa (El (e:=e) (by rw[n4];decide));have b0:=EB.new w e;have E0:=Ext.alloc w (.cells (edC e) 67);have L:=Aa ok.ln;have cu:=b0.up ok.ln;have cl:=b0.le ok.ln;rw[hu]at cu;rw[hl]at cl;have OK:=Aa ok;have H0:=Aa h0;have N0:=Aa n0;have N4:=Aa n4;clear hu hl h0 n0 n4 ok;go_enter Tryz.func115,Tryz.ntmps115
 go_wp2_with fail
 go_loop [3,4,5] (fun t n i=>∃ k:Nat,k≤4∧i= .int .i64 k∧t= .int .i64 (mnT e k)∧n= .int .i64 (mnN e k)) (fun _ _ i=>4-(intOf i).toNat)
 case atStart=>exact⟨0,by omega,rfl,by rw[H0.out],by rw[N0.out]⟩
 case round =>
  obtain⟨k,hk,rfl,rfl,rfl⟩:=hrel;have r1:=R.out k hk;have r2:=RN.out k
  by_cases hlt:k<4
  ·have hd:decide ((k:Int)<4)=true:=by simp;omega
   have ca:=b0.ab L.out hlt;have cf:=b0.lf L.out hlt;have ha:=AD OK.out.sab (i:=k) (by rw[OK.out.ab];exact hlt);have hf:=AD OK.out.slf (i:=k) (by rw[OK.out.lf];exact hlt);have Hs:=Aa (HT.out k);have Hn:=Aa (HNn.out k);generalize nth e.ab k=va at *;generalize nth e.lf k=vl at *;obtain⟨T1,hT1⟩:∃ T1,T1=mnT e (k+1):=⟨_,rfl⟩;obtain⟨N1,hN1⟩:∃ N1,N1=mnN e (k+1):=⟨_,rfl⟩;rw[←hT1]at Hs;rw[←hN1]at Hn;have HT1:=Aa hT1;have HN1:=Aa hN1;clear hT1 hN1;generalize mnT e k=T0 at *;generalize mnN e k=M0 at *;go_wp2;go_round
   case rel=>exact⟨k+1,by omega,by go_num,by rw[←HT1.out,Hs.out],by rw[←HN1.out,Hn.out]⟩
   case measure=>simp[intOf];omega
  ·obtain rfl:k=4:=by omega
   have hz:(mnN e 4 == 0)=false:=by rw[N4.out];rfl
   have hm:mean e=(mnT e 4+2)/4:=by rw[HM.out,N4.out];unfold rnd;omega
   have HM2:=Aa hm;rw[N4.out]at r1 r2 hz⊢;clear hm;go_wp2;go_ret
   exact⟨(AN HM2).symm,E0⟩
theorem Ot (e:Ed)(w:World)(ok:e.ok)(hu:e.up=false)(hl:e.le=true):
 Calls Tryz.prog 115 #[.agg (edC e)] w fun r w'=>r= .returned (.int .i64 (mean e))∧Ext w w':=by
 have HT:=Aa (fun(k:Nat)=>show mnT e (k+1)=mnT e k+nth e.lf k by simp only[mnT,hu,hl,if_true,if_false,Bool.false_eq_true,Int.add_zero]);have HNn:=Aa (fun(k:Nat)=>show mnN e (k+1)=mnN e k+1 by unfold mnN;rw[hu,hl];simp;try omega);have h0:mnT e 0=0:=rfl;have n0:mnN e 0=0:=by simp[mnN]
 have n4:mnN e 4=4:=by unfold mnN;rw[hu,hl];simp
 have R:=Aa (fun(k:Nat) (hk:k≤4)=>Dk ok hk);have RN:=Aa (fun(k:Nat)=>DZ e k);have HM:=Aa (El (e:=e) (by rw[n4];decide));have b0:=EB.new w e;have E0:=Ext.alloc w (.cells (edC e) 67);have L:=Aa ok.ln;have cu:=b0.up ok.ln;have cl:=b0.le ok.ln;rw[hu]at cu;rw[hl]at cl;have OK:=Aa ok;have H0:=Aa h0;have N0:=Aa n0;have N4:=Aa n4;clear hu hl h0 n0 n4 ok;go_enter Tryz.func115,Tryz.ntmps115
 go_wp2_with fail
 go_loop [3,4,5] (fun t n i=>∃ k:Nat,k≤4∧i= .int .i64 k∧t= .int .i64 (mnT e k)∧n= .int .i64 (mnN e k)) (fun _ _ i=>4-(intOf i).toNat)
 case atStart=>exact⟨0,by omega,rfl,by rw[H0.out],by rw[N0.out]⟩
 case round =>
  obtain⟨k,hk,rfl,rfl,rfl⟩:=hrel;have r1:=R.out k hk;have r2:=RN.out k
  by_cases hlt:k<4
  ·have hd:decide ((k:Int)<4)=true:=by simp;omega
   have ca:=b0.ab L.out hlt;have cf:=b0.lf L.out hlt;have ha:=AD OK.out.sab (i:=k) (by rw[OK.out.ab];exact hlt);have hf:=AD OK.out.slf (i:=k) (by rw[OK.out.lf];exact hlt);have Hs:=Aa (HT.out k);have Hn:=Aa (HNn.out k);generalize nth e.ab k=va at *;generalize nth e.lf k=vl at *;obtain⟨T1,hT1⟩:∃ T1,T1=mnT e (k+1):=⟨_,rfl⟩;obtain⟨N1,hN1⟩:∃ N1,N1=mnN e (k+1):=⟨_,rfl⟩;rw[←hT1]at Hs;rw[←hN1]at Hn;have HT1:=Aa hT1;have HN1:=Aa hN1;clear hT1 hN1;generalize mnT e k=T0 at *;generalize mnN e k=M0 at *;go_wp2;go_round
   case rel=>exact⟨k+1,by omega,by go_num,by rw[←HT1.out,Hs.out],by rw[←HN1.out,Hn.out]⟩
   case measure=>simp[intOf];omega
  ·obtain rfl:k=4:=by omega
   have hz:(mnN e 4 == 0)=false:=by rw[N4.out];rfl
   have hm:mean e=(mnT e 4+2)/4:=by rw[HM.out,N4.out];unfold rnd;omega
   have HM2:=Aa hm;rw[N4.out]at r1 r2 hz⊢;clear hm;go_wp2;go_ret
   exact⟨(AN HM2).symm,E0⟩
theorem Ou (e:Ed)(w:World)(ok:e.ok)(hu:e.up=false)(hl:e.le=false):
 Calls Tryz.prog 115 #[.agg (edC e)] w fun r w'=>r= .returned (.int .i64 (mean e))∧Ext w w':=by
 have HT:=Aa (fun(k:Nat)=>show mnT e (k+1)=mnT e k by simp only[mnT,hu,hl,if_true,if_false,Bool.false_eq_true,Int.add_zero]);have HNn:=Aa (fun(k:Nat)=>show mnN e (k+1)=mnN e k by unfold mnN;rw[hu,hl];simp;try omega);have h0:mnT e 0=0:=rfl;have n0:mnN e 0=0:=by simp[mnN]
 have n4:mnN e 4=0:=by unfold mnN;rw[hu,hl];simp
 have R:=Aa (fun(k:Nat) (hk:k≤4)=>Dk ok hk);have RN:=Aa (fun(k:Nat)=>DZ e k);have HM:=Aa (KB n4);have b0:=EB.new w e;have E0:=Ext.alloc w (.cells (edC e) 67);have L:=Aa ok.ln;have cu:=b0.up ok.ln;have cl:=b0.le ok.ln;rw[hu]at cu;rw[hl]at cl;have OK:=Aa ok;have H0:=Aa h0;have N0:=Aa n0;have N4:=Aa n4;clear hu hl h0 n0 n4 ok;go_enter Tryz.func115,Tryz.ntmps115
 go_wp2_with fail
 go_loop [3,4,5] (fun t n i=>∃ k:Nat,k≤4∧i= .int .i64 k∧t= .int .i64 (mnT e k)∧n= .int .i64 (mnN e k)) (fun _ _ i=>4-(intOf i).toNat)
 case atStart=>exact⟨0,by omega,rfl,by rw[H0.out],by rw[N0.out]⟩
 case round =>
  obtain⟨k,hk,rfl,rfl,rfl⟩:=hrel;have r1:=R.out k hk;have r2:=RN.out k
  by_cases hlt:k<4
  ·have hd:decide ((k:Int)<4)=true:=by simp;omega
   have ca:=b0.ab L.out hlt;have cf:=b0.lf L.out hlt;have ha:=AD OK.out.sab (i:=k) (by rw[OK.out.ab];exact hlt);have hf:=AD OK.out.slf (i:=k) (by rw[OK.out.lf];exact hlt);have Hs:=Aa (HT.out k);have Hn:=Aa (HNn.out k);generalize nth e.ab k=va at *;generalize nth e.lf k=vl at *;obtain⟨T1,hT1⟩:∃ T1,T1=mnT e (k+1):=⟨_,rfl⟩;obtain⟨N1,hN1⟩:∃ N1,N1=mnN e (k+1):=⟨_,rfl⟩;rw[←hT1]at Hs;rw[←hN1]at Hn;have HT1:=Aa hT1;have HN1:=Aa hN1;clear hT1 hN1;generalize mnT e k=T0 at *;generalize mnN e k=M0 at *;go_wp2;go_round
   case rel=>exact⟨k+1,by omega,by go_num,by rw[←HT1.out,Hs.out],by rw[←HN1.out,Hn.out]⟩
   case measure=>simp[intOf];omega
  ·obtain rfl:k=4:=by omega
   have hz:(mnN e 4 == 0)=true:=by rw[N4.out];rfl
   go_wp2;go_ret
   exact⟨(AN HM).symm,E0⟩
theorem DI (e:Ed)(w:World)(ok:e.ok):
 Calls Tryz.prog 115 #[.agg (edC e)] w fun r w'=>r= .returned (.int .i64 (mean e))∧Ext w w':=by
 cases hu:e.up <;> cases hl:e.le
 ·exact Ou e w ok hu hl
 ·exact Ot e w ok hu hl
 ·exact Ow e w ok hu hl
 ·exact Ov e w ok hu hl
theorem Lr (e:Ed)(x y:Nat)(w:World)(ok:e.ok)(hx:x<4)(hy:y<4):
 Calls Tryz.prog 88 #[.agg (edC e),.int .i64 (x:Nat),.int .i64 (y:Nat)] w fun r w'=>r= .returned (.int .i64 (prd1 1 e x y))∧Ext w w':=by
 have b0:=EB.new w e;have E0:=Ext.alloc w (.cells (edC e) 67);have c0:=b0.ab ok.ln hx;have HP:=Aa (show prd1 1 e x y=nth e.ab x from rfl);clear ok;go_enter Tryz.func88,Tryz.ntmps88
 go_wp2;go_ret
 exact⟨(AN HP).symm,E0⟩
theorem Jz (e:Ed)(x y:Nat)(w:World)(ok:e.ok)(hx:x<4)(hy:y<4):
 Calls Tryz.prog 89 #[.agg (edC e),.int .i64 (x:Nat),.int .i64 (y:Nat)] w fun r w'=>r= .returned (.int .i64 (prd1 2 e x y))∧Ext w w':=by
 have b0:=EB.new w e;have E0:=Ext.alloc w (.cells (edC e) 67);have c0:=b0.lf ok.ln hy;have HP:=Aa (show prd1 2 e x y=nth e.lf y from rfl);clear ok;go_enter Tryz.func89,Tryz.ntmps89
 go_wp2;go_ret
 exact⟨(AN HP).symm,E0⟩
theorem OJ (e:Ed)(x y:Nat)(w:World)(ok:e.ok)(hx:x<4)(hy:y<4):
 Calls Tryz.prog 91 #[.agg (edC e),.int .i64 (x:Nat),.int .i64 (y:Nat)] w fun r w'=>r= .returned (.int .i64 (prd1 4 e x y))∧Ext w w':=by
 have b0:=EB.new w e;have E0:=Ext.alloc w (.cells (edC e) 67);have HP:=Aa (show prd1 4 e x y=AZ (nth e.ab x+nth e.lf y-e.co) 0 255 from rfl);have ha:=AD ok.sab (i:=x) (by rw[ok.ab];exact hx);have hf:=AD ok.slf (i:=y) (by rw[ok.lf];exact hy);have hc:=ok.sco;have CA:=Aa (b0.ab ok.ln hx);have CL:=Aa (b0.lf ok.ln hy);have CC:=Aa (b0.co ok.ln);generalize nth e.ab x=va at *;generalize nth e.lf y=vl at *;obtain⟨v,hv⟩:∃ v,v=AZ (va+vl-e.co) 0 255:=⟨_,rfl⟩;rw[←hv]at HP;have HV:=Aa hv;clear hv ok b0;go_enter Tryz.func91,Tryz.ntmps91
 go_wp2_with fail
 obtain⟨B,hB⟩:∃ B,B=w.heap.size:=⟨_,rfl⟩;rw[←hB]at CA CL CC⊢;have HB:=Aa hB;clear hB;generalize w.alloc (.cells (edC e) 67)=w0 at *;refine An (by kernel_rfl) [(6,13),(7,0),(8,1),(9,2),(10,3),(11,4),(12,5),(13,6),(14,7),(15,8),(16,9),(17,10),(18,11),(19,12)] [[],[],[0,1],[0,1,2],[],[],[4,5],[4,5,6],[0,1,2,3,4,5,6,7],[],[9],[0,1,2,3,4,5,6,7,8,9,10],[0,1,2,3,4,5,6,7,8,9,10,11],[0,1,2,3,4,5,6,7,8,9,10,11,12]] (fun i own ys wx=>match i with|0=>own= .int .i64 (x:Nat)|1=>own= .pointer (some ⟨B,0,none⟩)|2=>own= .pointer (some ⟨B,x,none⟩)|3=>own= .int .i64 va|4=>own= .int .i64 (y:Nat)|5=>own= .pointer (some ⟨B,4,none⟩)|6=>own= .pointer (some ⟨B,4+y,none⟩)|7=>own= .int .i64 vl|8=>own= .int .i64 (va+vl)|9=>own= .pointer (some ⟨B,8,none⟩)|10=>own= .int .i64 e.co|11=>own= .int .i64 (va+vl-e.co)|12=>own= .int .i64 v|13=>own= .int .i64 v|_=>True) (fun kx wx=>Ext w0 wx) (by kernel_rfl) (by kernel_rfl) (by kernel_rfl) ?g0_r1 ?gop_r1 ?gend_r1
 case g0_r1=>exact Ext.drewN _ 1
 case gop_r1 =>
  refine⟨?_,?_,?o2,?o3,?_,?_,?o6,?o7,?o8,?_,?o10,?o11,?o12,?o13,trivial⟩ <;> (intro kx xs wx hk hG hD hI Qo Kx hK hQo;simp only[Ad,Nat.reduceAdd,Nat.reduceEqDiff,↓reduceIte]at hQo⊢)
  case o2 =>
   rw[ddq (hD 0 rfl),ddq (hD 1 rfl)]at hQo⊢;clear hD hI;go_wp2;exact hK.out _ _ ⟨rfl,hG,kkp⟩
  case o3 =>
   rw[ddq (hD 2 rfl)]at hQo⊢;clear hD hI;have cx:=AI hG CA.out;go_wp2;exact hK.out _ _ ⟨rfl,hG,kkp⟩
  case o6 =>
   rw[ddq (hD 4 rfl),ddq (hD 5 rfl)]at hQo⊢;clear hD hI;go_wp2;exact hK.out _ _ ⟨rfl,hG,kkp⟩
  case o7 =>
   rw[ddq (hD 6 rfl)]at hQo⊢;clear hD hI;have cx:=AI hG CL.out;go_wp2;exact hK.out _ _ ⟨rfl,hG,kkp⟩
  case o8 =>
   rw[ddq (hD 3 rfl),ddq (hD 7 rfl)]at hQo⊢;clear hD hI;go_wp2;exact hK.out _ _ ⟨rfl,hG,kkp⟩
  case o10 =>
   rw[ddq (hD 9 rfl)]at hQo⊢;clear hD hI;have cx:=AI hG CC.out;go_wp2;exact hK.out _ _ ⟨rfl,hG,kkp⟩
  case o11 =>
   rw[ddq (hD 8 rfl),ddq (hD 10 rfl)]at hQo⊢;clear hD hI;go_wp2;exact hK.out _ _ ⟨rfl,hG,kkp⟩
  case o12 =>
   rw[ddq (hD 11 rfl)]at hQo⊢;clear hD hI;go_wp2_with fail
   refine(Eg _ _ _ _ (by omega)).mono ?_
   rintro r w9 ⟨rfl,rfl⟩
   rw[←HV.out];go_wp2;exact hK.out _ _ ⟨rfl,hG,kkp⟩
  case o13 =>
   rw[ddq (hD 12 rfl)]at hQo⊢;clear hD hI;go_wp2;exact hK.out _ _ ⟨rfl,hG,kkp⟩
  all_goals
   clear hD hI;go_wp2;exact hK.out _ _ ⟨rfl,hG,kkp⟩
 intro xs wx hV hG;have d13:_=_:=hV 13 (by decide);clear hV;simp only[Ad,Nat.reduceAdd,Nat.reduceEqDiff,↓reduceIte];generalize xs 0=y0,xs 1=y1,xs 2=y2,xs 3=y3,xs 4=y4,xs 5=y5,xs 6=y6,xs 7=y7,xs 8=y8,xs 9=y9,xs 10=y10,xs 11=y11,xs 12=y12,xs 13=y13 at *
 replace hG:Ext w0 wx:=hG
 subst d13;go_wp2;go_ret
 exact⟨(AN HP).symm,E0.trans hG⟩
def Lv (e:Ed):List Int := [nth e.lf 3,nth e.lf 2,nth e.lf 1,nth e.lf 0,e.co,nth e.ab 0,nth e.ab 1,nth e.ab 2,nth e.ab 3]
theorem OG (e:Ed){k:Nat}(hk:k≤8):nth (Lv e) k=bord e k:=by
 match k,hk with
 | 0,_=>rfl
 | 1,_=>rfl
 | 2,_=>rfl
 | 3,_=>rfl
 | 4,_=>rfl
 | 5,_=>rfl
 | 6,_=>rfl
 | 7,_=>rfl
 | 8,_=>rfl
theorem KR (e:Ed)(x y:Nat)(w:World)(ok:e.ok)(hx:x<4)(hy:y<4):
 Calls Tryz.prog 90 #[.agg (edC e),.int .i64 (x:Nat),.int .i64 (y:Nat)] w fun r w'=>r= .returned (.int .i64 (prd1 3 e x y))∧Ext w w':=by
 have b0:=EB.new w e;have HP:=Aa (show prd1 3 e x y=(bord e (3+x-y)+2*bord e (4+x-y)+bord e (5+x-y)+2)/4 from rfl);have c0:=b0.lf ok.ln (k:=0) (by omega);have c1:=b0.lf ok.ln (k:=1) (by omega);have c2:=b0.lf ok.ln (k:=2) (by omega);have c3:=b0.lf ok.ln (k:=3) (by omega);have c4:=b0.co ok.ln;have c5:=b0.ab ok.ln (k:=0) (by omega);have c6:=b0.ab ok.ln (k:=1) (by omega);have c7:=b0.ab ok.ln (k:=2) (by omega);have c8:=b0.ab ok.ln (k:=3) (by omega);simp only[Nat.add_zero,Nat.reduceAdd]at c0 c1 c2 c3;have i1:=IB.new (w.alloc (.cells (edC e) 67)) 146 (Lv e);have E1:=(Ext.alloc w (.cells (edC e) 67)).trans (Ext.alloc _ (.cells (ic (Lv e)) 146));have q1:=Cj ok (k:=3+x-y) (by omega);have q2:=Cj ok (k:=4+x-y) (by omega);have q3:=Cj ok (k:=5+x-y) (by omega);simp only[World.size_alloc]at i1;have d1:=i1.cell (i:=3+x-y) (by show 3+x-y<9;omega);have d2:=i1.cell (i:=4+x-y) (by show 4+x-y<9;omega);have d3:=i1.cell (i:=5+x-y) (by show 5+x-y<9;omega);rw[OG e (by omega)]at d1 d2 d3;have K1:=Aa (show(4:Int)+(x:Int)-(y:Int)-1=((3+x-y:Nat):Int) by omega);have K2:=Aa (show(4:Int)+(x:Int)-(y:Int)=((4+x-y:Nat):Int) by omega);have K3:=Aa (show(4:Int)+(x:Int)-(y:Int)+1=((5+x-y:Nat):Int) by omega);have l1:3+x-y<9:=by omega
 have l2:4+x-y<9:=by omega
 have l3:5+x-y<9:=by omega
 generalize bord e (3+x-y)=v1 at *;generalize bord e (4+x-y)=v2 at *;generalize bord e (5+x-y)=v3 at *;obtain⟨k1,hk1⟩:∃ k,k=3+x-y:=⟨_,rfl⟩;obtain⟨k2,hk2⟩:∃ k,k=4+x-y:=⟨_,rfl⟩;obtain⟨k3,hk3⟩:∃ k,k=5+x-y:=⟨_,rfl⟩;rw[←hk1]at d1 K1 l1;rw[←hk2]at d2 K2 l2;rw[←hk3]at d3 K3 l3;have D1:=Aa d1;have D2:=Aa d2;have D3:=Aa d3;clear hk1 hk2 hk3 d1 d2 d3 i1 ok b0;go_enter Tryz.func90,Tryz.ntmps90
 go_wp2_with fail
 try simp only[World.size_alloc]
 obtain⟨B,hB⟩:∃ B,B=w.heap.size:=⟨_,rfl⟩;rw[←hB]at D1 D2 D3⊢;have HB:=Aa hB;clear hB c0 c1 c2 c3 c4 c5 c6 c7 c8;have hww:(w.alloc (.cells (edC e) 67)).alloc (.cells #[.int .i64 (nth e.lf 3),.int .i64 (nth e.lf 2),.int .i64 (nth e.lf 1),.int .i64 (nth e.lf 0),.int .i64 e.co,.int .i64 (nth e.ab 0),.int .i64 (nth e.ab 1),.int .i64 (nth e.ab 2),.int .i64 (nth e.ab 3)] 146)=(w.alloc (.cells (edC e) 67)).alloc (.cells (ic (Lv e)) 146):=rfl;rw[hww];clear hww;generalize (w.alloc (.cells (edC e) 67)).alloc (.cells (ic (Lv e)) 146)=w0 at *;refine An (by kernel_rfl) [(6,16),(40,0),(41,1),(42,2),(43,3),(44,4),(45,5),(46,6),(47,7),(48,8),(49,9),(50,10),(51,11),(52,12),(53,13),(54,14),(55,15)] [[],[0],[0,1],[0,1,2],[],[4],[4,5],[4,5,6],[0,1,2,3,4,5,6,7],[],[9],[9,10],[9,10,11],[0,1,2,3,4,5,6,7,8,9,10,11,12],[0,1,2,3,4,5,6,7,8,9,10,11,12,13],[0,1,2,3,4,5,6,7,8,9,10,11,12,13,14],[0,1,2,3,4,5,6,7,8,9,10,11,12,13,14,15]] (fun i own ys wx=>match i with|0=>own= .int .i64 (4+(x:Int)-(y:Int))|1=>own= .int .i64 (k1:Nat)|2=>own= .pointer (some ⟨B+1,k1,none⟩)|3=>own= .int .i64 v1|4=>own= .int .i64 (k2:Nat)|5=>own= .pointer (some ⟨B+1,k2,none⟩)|6=>own= .int .i64 v2|7=>own= .int .i64 (2*v2)|8=>own= .int .i64 (v1+2*v2)|9=>own= .int .i64 (4+(x:Int)-(y:Int))|10=>own= .int .i64 (k3:Nat)|11=>own= .pointer (some ⟨B+1,k3,none⟩)|12=>own= .int .i64 v3|13=>own= .int .i64 (v1+2*v2+v3)|14=>own= .int .i64 (v1+2*v2+v3+2)|15=>own= .int .i64 ((v1+2*v2+v3+2)/4)|16=>own= .int .i64 ((v1+2*v2+v3+2)/4)|_=>True) (fun kx wx=>Ext w0 wx) (by kernel_rfl) (by kernel_rfl) (by kernel_rfl) ?g0_r2 ?gop_r2 ?gend_r2
 case g0_r2=>exact Ext.drewN _ 1
 case gop_r2 =>
  refine⟨?_,?o1,?o2,?o3,?o4,?o5,?o6,?o7,?o8,?_,?o10,?o11,?o12,?o13,?o14,?o15,?o16,trivial⟩ <;> (intro kx xs wx hk hG hD hI Qo Kx hK hQo;simp only[Ad,Nat.reduceAdd,Nat.reduceEqDiff,↓reduceIte]at hQo⊢)
  case o1 =>
   rw[ddq (hD 0 rfl)]at hQo⊢;clear hD hI;go_wp2;exact hK.out _ _ ⟨by rw[←K1.out],hG,fun _ _ _ _ _ _ h=>h⟩
  case o2 =>
   rw[ddq (hD 1 rfl)]at hQo⊢;clear hD hI;go_wp2;exact hK.out _ _ ⟨rfl,hG,kkp⟩
  case o3 =>
   rw[ddq (hD 2 rfl)]at hQo⊢;clear hD hI;have cx:=AI hG D1.out;go_wp2;exact hK.out _ _ ⟨rfl,hG,kkp⟩
  case o4 =>
   clear hD hI;go_wp2;exact hK.out _ _ ⟨by rw[←K2.out],hG,fun _ _ _ _ _ _ h=>h⟩
  case o5 =>
   rw[ddq (hD 4 rfl)]at hQo⊢;clear hD hI;go_wp2;exact hK.out _ _ ⟨rfl,hG,kkp⟩
  case o6 =>
   rw[ddq (hD 5 rfl)]at hQo⊢;clear hD hI;have cx:=AI hG D2.out;go_wp2;exact hK.out _ _ ⟨rfl,hG,kkp⟩
  case o7 =>
   rw[ddq (hD 6 rfl)]at hQo⊢;clear hD hI;go_wp2;exact hK.out _ _ ⟨rfl,hG,kkp⟩
  case o8 =>
   rw[ddq (hD 3 rfl),ddq (hD 7 rfl)]at hQo⊢;clear hD hI;go_wp2;exact hK.out _ _ ⟨rfl,hG,kkp⟩
  case o10 =>
   rw[ddq (hD 9 rfl)]at hQo⊢;clear hD hI;go_wp2;exact hK.out _ _ ⟨by rw[←K3.out],hG,fun _ _ _ _ _ _ h=>h⟩
  case o11 =>
   rw[ddq (hD 10 rfl)]at hQo⊢;clear hD hI;go_wp2;exact hK.out _ _ ⟨rfl,hG,kkp⟩
  case o12 =>
   rw[ddq (hD 11 rfl)]at hQo⊢;clear hD hI;have cx:=AI hG D3.out;go_wp2;exact hK.out _ _ ⟨rfl,hG,kkp⟩
  case o13 =>
   rw[ddq (hD 8 rfl),ddq (hD 12 rfl)]at hQo⊢;clear hD hI;go_wp2;exact hK.out _ _ ⟨rfl,hG,kkp⟩
  case o14 =>
   rw[ddq (hD 13 rfl)]at hQo⊢;clear hD hI;go_wp2;exact hK.out _ _ ⟨rfl,hG,kkp⟩
  case o15 =>
   rw[ddq (hD 14 rfl)]at hQo⊢;clear hD hI;go_wp2;exact hK.out _ _ ⟨rfl,hG,kkp⟩
  case o16 =>
   rw[ddq (hD 15 rfl)]at hQo⊢;clear hD hI;go_wp2;exact hK.out _ _ ⟨rfl,hG,kkp⟩
  all_goals
   clear hD hI;go_wp2;exact hK.out _ _ ⟨rfl,hG,kkp⟩
 intro xs wx hV hG;have d16:_=_:=hV 16 (by decide);clear hV;simp only[Ad,Nat.reduceAdd,Nat.reduceEqDiff,↓reduceIte];generalize xs 0=y0,xs 1=y1,xs 2=y2,xs 3=y3,xs 4=y4,xs 5=y5,xs 6=y6,xs 7=y7,xs 8=y8,xs 9=y9,xs 10=y10,xs 11=y11,xs 12=y12,xs 13=y13,xs 14=y14,xs 15=y15,xs 16=y16 at *
 replace hG:Ext w0 wx:=hG
 subst d16;go_wp2;go_ret
 exact⟨(AN HP).symm,E1.trans hG⟩
theorem DG (e:Ed)(k:Nat)(w:World)(ok:e.ok)(hk:k≤8):
 Calls Tryz.prog 116 #[.agg (edC e),.int .i64 (k:Nat)] w fun r w'=>r= .returned (.int .i64 (bord e k))∧Ext w w':=by
 have b0:=EB.new w e;have E0:=Ext.alloc w (.cells (edC e) 67)
 by_cases h4:k<4
 ·have HP:=Aa (show bord e k=nth e.lf (3-k) by unfold bord;rw[if_pos h4]);have c0:=b0.lf ok.ln (k:=3-k) (by omega);have hd:decide ((k:Int)<4)=true:=by simp;omega
  clear ok;go_enter Tryz.func116,Tryz.ntmps116
  go_wp2;go_ret
  exact⟨(AN HP).symm,E0⟩
 ·have hd:decide ((k:Int)<4)=false:=by simp;omega
  by_cases h5:k=4
  ·have HP:=Aa (show bord e k=e.co by unfold bord;rw[if_neg h4,if_pos h5]);have c0:=b0.co ok.ln;have hd2:((k:Int) == 4)=true:=by simp;omega
   clear ok h5;go_enter Tryz.func116,Tryz.ntmps116
   go_wp2;go_ret
   exact⟨(AN HP).symm,E0⟩
  ·have HP:=Aa (show bord e k=nth e.ab (k-5) by unfold bord;rw[if_neg h4,if_neg h5]);have c0:=b0.ab ok.ln (k:=k-5) (by omega);have hd2:((k:Int) == 4)=false:=by simp;omega
   have hk5:5≤k:=by omega
   clear ok;go_enter Tryz.func116,Tryz.ntmps116
   go_wp2;go_ret
   exact⟨(AN HP).symm,E0⟩
end Go.Proofs.YtijnbalgnhigbaaGreatDoor
