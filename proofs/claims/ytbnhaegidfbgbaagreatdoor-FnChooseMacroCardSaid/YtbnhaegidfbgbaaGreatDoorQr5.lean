/- The 64 samples that predict a macroblock: both sides. | The transform of a block: both sides. | The transform of a block: the program's. | The transform of a block: the reference's. | MacroValid: the reference's. | The inverse transform, coding and decoding of a block of residuals: both sides. | Decoding of a block, the reference's coding, differences of blocks. -/
import Derived.Test.YtbnhaegidfbgbaaGreatDoorQr4
set_option linter.unusedVariables false
set_option linter.unusedSimpArgs false
set_option maxRecDepth 100000
set_option maxHeartbeats 4000000
namespace Go.Proofs.YtbnhaegidfbgbaaGreatDoor
open Go.RowKit
theorem blk_snoc (p:Pic) (x y vx vy:Int) {J I:Nat} (hJ:J<8) (hI:I<8):((blkL p x y vx vy).take (8*J+(I+1))).map (Value.int .i64)=((blkL p x y vx vy).take (8*J+I)).map (Value.int .i64) ++ [.int .i64 (hlf p (2*(x+(I:Int))+vx) (2*(y+(J:Int))+vy))]:=by
 rw[show 8*J+(I+1)=8*J+I+1 by omega,take_snoc_nth _ _ (by rw[blkL_len];omega),nth_blkL _ _ _ _ _ (by omega),show(8*J+I)%8=I by omega,show(8*J+I)/8=J by omega];simp
theorem mul8 (J:Nat):8*(J+1)=8*J+8:=by omega
theorem moved_any (p:Pic) (x y vx vy:Int) (a:Option Addr) (c n:Nat) (w:World) (hv:p.valid) (hn:n=p.px.length) (r:Sl w a n (p.px.map (Value.int .i64))) (x1:0≤x) (x2:x≤100) (y1:0≤y) (y2:y≤100) (v1 : -16≤vx) (v2:vx≤16) (v3 : -16≤vy) (v4:vy≤16) :
 Calls Tryz.prog 50 #[.agg #[.int .i64 p.w,.int .i64 p.h,.slice a n c],.int .i64 x,.int .i64 y,.agg #[.int .i64 vx,.int .i64 vy]] w fun e w'=>∃ a' c',e= .returned (.slice a' 64 c')∧w'.ownsRow w.heap.size 3 1 (.slice a' 64 c') 64 ((blkL p x y vx vy).map (Value.int .i64))∧Ext w w':=by
 have p0:=blk_alloc (blk_new w (.cells #[.int .i64 p.w,.int .i64 p.h,.slice a n c] 25)) (.cells #[.int .i64 vx,.int .i64 vy] 27);have q0:=blk_new (w.alloc (.cells #[.int .i64 p.w,.int .i64 p.h,.slice a n c] 25)) (.cells #[.int .i64 vx,.int .i64 vy] 27);have E0:=(Ext.alloc w (.cells #[.int .i64 p.w,.int .i64 p.h,.slice a n c] 25)).trans (Ext.alloc _ (.cells #[.int .i64 vx,.int .i64 vy] 27));simp only[World.size_alloc]at q0;obtain⟨B,hB⟩:∃ B,B=w.heap.size:=⟨_,rfl⟩;rw[←hB]at p0 q0⊢;have HB:=Lib.hid hB;have HN:=Lib.hid hn;have HV:=Lib.hid hv;clear hn hv;go_enter Tryz.func50,Tryz.ntmps50
 go_wp2_with (at_make;refine wpList_mk0 _ rfl _ _ 23 rfl 3 (.int .i64 0) 8 Tryz.underlying23 info_int _ 64 rfl rfl rfl (by omega) (by omega) ?_;intro w1 v1' hown hgrow)
 have E1:Ext w w1:=Ext.grown E0 hgrow (fun k e=>by cases e);have p1:=blk_gr p0 hgrow (by simp);have q1:=blk_gr q0 hgrow (by simp);simp only[World.size_alloc]at hown;rw[←hB]at hown⊢;clear hgrow;have X1:=Lib.hid (And.intro p1 q1);have hwB:w.heap.size≤B:=by omega
 clear p0 q0 p1 q1 E0 hB;go_loopw [9,13] (fun v j wr=>∃ J:Nat,J≤8∧j= .int .i64 J∧Ext w wr∧Hid (wr.heap[B]?=some (.cells #[.int .i64 p.w,.int .i64 p.h,.slice a n c] 25 (0,0))∧wr.heap[B+1]?=some (.cells #[.int .i64 vx,.int .i64 vy] 27 (0,0)))∧wr.ownsRow (B+2) 3 1 v (8*J) (((blkL p x y vx vy).take (8*J)).map (Value.int .i64))) (fun _ j _=>8-(intOf j).toNat)
 case atStart=>exact⟨0,by omega,rfl,E1,X1,by simpa using hown⟩
 case round =>
  obtain⟨J,hJ,rfl,EJ,XJ,oJ⟩:=hrel;obtain⟨wo,rfl⟩:∃ wo:World,wo=wr:=⟨_,rfl⟩
  by_cases hltJ:J<8
  ·have hdJ:decide ((J:Int)<8)=true:=by simp;omega
   go_wp2_with fail
   go_loopw [9,16] (fun v i wr2=>∃ I:Nat,I≤8∧i= .int .i64 I∧Ext w wr2∧Hid (wr2.heap[B]?=some (.cells #[.int .i64 p.w,.int .i64 p.h,.slice a n c] 25 (0,0))∧wr2.heap[B+1]?=some (.cells #[.int .i64 vx,.int .i64 vy] 27 (0,0)))∧wr2.ownsRow (B+2) 3 1 v (8*J+I) (((blkL p x y vx vy).take (8*J+I)).map (Value.int .i64))) (fun _ i _=>8-(intOf i).toNat)
   case atStart=>exact⟨0,by omega,rfl,EJ,XJ,oJ⟩
   case round =>
    obtain⟨I,hI,rfl,EI,XI,oI⟩:=hrel;clear EJ oJ XJ
    by_cases hltI:I<8
    ·have hdI:decide ((I:Int)<8)=true:=by simp;omega
     have Hsn:=Lib.hid (blk_snoc p x y vx vy hltJ hltI);obtain⟨-,k0,k1,k2,-⟩:=bx3 XI.out.1;obtain⟨-,g0,g1,-⟩:=bx2 XI.out.2;go_wp2_with fail
     refine(half_any p (2*(x+(I:Int))+vx) (2*(y+(J:Int))+vy) a c n _ HV.out HN.out (r.ext EI) (by omega) (by omega) (by omega) (by omega)).mono ?_
     rintro e w3 ⟨rfl,e3⟩
     have E3:=EI.trans e3;have X3:=Lib.hid (And.intro (e3.blk XI.out.1) (e3.blk XI.out.2));have o3:=owns_ext oI e3;have hs3:B+2≤w3.heap.size:=by have:=lt_of_block X3.out.2;omega
     clear EI oI XI e3 k0 k1 k2 g0 g1;go_wp2_with (at_builtin;refine wpList_app _ o3 hs3 _ rfl _ _ 23 rfl (.int .i64 0) 8 Tryz.underlying23 info_int rfl rfl rfl rfl (by omega) (by omega) ?_;intro v4 w4 own4 gr4 _)
     go_roundw
     case rel =>
      rw[←Hsn.out]at own4;have hge:=owns_ge o3;exact⟨I+1,by omega,by go_num,Ext.grown E3 gr4 (fun k e=>by have:=hge k e;omega),Lib.hid ⟨blk_gr X3.out.1 gr4 (fun e=>by have:=hge _ e;omega),blk_gr X3.out.2 gr4 (fun e=>by have:=hge _ e;omega)⟩,own4⟩
     case measure=>simp[intOf];omega
    ·obtain rfl:I=8:=by omega
     go_wp2;go_roundw
     case rel=>exact⟨J+1,by omega,by go_num,EI,XI,by rw[mul8];exact oI⟩
     case measure=>simp[intOf];omega
  ·obtain rfl:J=8:=by omega
   rw[List.take_of_length_le (by rw[blkL_len];omega)]at oJ;obtain⟨a8,c8,rfl⟩:=owns_form oJ;go_wp2;go_ret
   exact⟨_,_,rfl,owns_mono oJ (by omega),EJ⟩
theorem l7Block_any (p:Pic) (x y vx vy:Int) (a:Option Addr) (c n:Nat) (w:World) (hv:p.valid) (hn:n=p.px.length) (r:Sl w a n (p.px.map (Value.int .i64))) (x1:0≤x) (x2:x≤100) (y1:0≤y) (y2:y≤100) (v1 : -16≤vx) (v2:vx≤16) (v3 : -16≤vy) (v4:vy≤16) :
 Calls Tryz.prog 138 #[.agg #[.int .i64 p.w,.int .i64 p.h,.slice a n c],.int .i64 x,.int .i64 y,.agg #[.int .i64 vx,.int .i64 vy]] w fun e w'=>∃ a' c',e= .returned (.slice a' 64 c')∧w'.ownsRow w.heap.size 3 1 (.slice a' 64 c') 64 ((blkL p x y vx vy).map (Value.int .i64))∧Ext w w':=by
 have p0:=blk_alloc (blk_new w (.cells #[.int .i64 p.w,.int .i64 p.h,.slice a n c] 25)) (.cells #[.int .i64 vx,.int .i64 vy] 27);have q0:=blk_new (w.alloc (.cells #[.int .i64 p.w,.int .i64 p.h,.slice a n c] 25)) (.cells #[.int .i64 vx,.int .i64 vy] 27);have E0:=(Ext.alloc w (.cells #[.int .i64 p.w,.int .i64 p.h,.slice a n c] 25)).trans (Ext.alloc _ (.cells #[.int .i64 vx,.int .i64 vy] 27));simp only[World.size_alloc]at q0;obtain⟨B,hB⟩:∃ B,B=w.heap.size:=⟨_,rfl⟩;rw[←hB]at p0 q0⊢;have HB:=Lib.hid hB;have HN:=Lib.hid hn;have HV:=Lib.hid hv;clear hn hv;have hown:=World.ownsRow_made (base:=B+2) (e:=3) (size:=1) ((w.alloc (.cells #[.int .i64 p.w,.int .i64 p.h,.slice a n c] 25)).alloc (.cells #[.int .i64 vx,.int .i64 vy] 27)) #[] 0 (by simp;omega) (by simp) rfl;have EA:=Ext.alloc ((w.alloc (.cells #[.int .i64 p.w,.int .i64 p.h,.slice a n c] 25)).alloc (.cells #[.int .i64 vx,.int .i64 vy] 27)) (.cells #[] 3);have E1:=E0.trans EA;have p1:=EA.blk p0;have q1:=EA.blk q0;simp only[World.size_alloc]at hown;rw[←hB]at hown;clear EA;go_enter Tryz.func138,Tryz.ntmps138
 go_wp2_with fail
 try simp only[World.size_alloc]
 rw[←hB];generalize (((w.alloc (.cells #[.int .i64 p.w,.int .i64 p.h,.slice a n c] 25)).alloc (.cells #[.int .i64 vx,.int .i64 vy] 27)).alloc (.cells #[] 3))=w1 at *;have X1:=Lib.hid (And.intro p1 q1);have hwB:w.heap.size≤B:=by omega
 clear p0 q0 p1 q1 E0 hB;go_loopw [9,10] (fun v j wr=>∃ J:Nat,J≤8∧j= .int .i64 J∧Ext w wr∧Hid (wr.heap[B]?=some (.cells #[.int .i64 p.w,.int .i64 p.h,.slice a n c] 25 (0,0))∧wr.heap[B+1]?=some (.cells #[.int .i64 vx,.int .i64 vy] 27 (0,0)))∧wr.ownsRow (B+2) 3 1 v (8*J) (((blkL p x y vx vy).take (8*J)).map (Value.int .i64))) (fun _ j _=>8-(intOf j).toNat)
 case atStart=>exact⟨0,by omega,rfl,E1,X1,by simpa using hown⟩
 case round =>
  obtain⟨J,hJ,rfl,EJ,XJ,oJ⟩:=hrel;obtain⟨wo,rfl⟩:∃ wo:World,wo=wr:=⟨_,rfl⟩
  by_cases hltJ:J<8
  ·have hdJ:decide ((J:Int)<8)=true:=by simp;omega
   go_wp2_with fail
   go_loopw [9,11] (fun v i wr2=>∃ I:Nat,I≤8∧i= .int .i64 I∧Ext w wr2∧Hid (wr2.heap[B]?=some (.cells #[.int .i64 p.w,.int .i64 p.h,.slice a n c] 25 (0,0))∧wr2.heap[B+1]?=some (.cells #[.int .i64 vx,.int .i64 vy] 27 (0,0)))∧wr2.ownsRow (B+2) 3 1 v (8*J+I) (((blkL p x y vx vy).take (8*J+I)).map (Value.int .i64))) (fun _ i _=>8-(intOf i).toNat)
   case atStart=>exact⟨0,by omega,rfl,EJ,XJ,oJ⟩
   case round =>
    obtain⟨I,hI,rfl,EI,XI,oI⟩:=hrel;clear EJ oJ XJ
    by_cases hltI:I<8
    ·have hdI:decide ((I:Int)<8)=true:=by simp;omega
     have Hsn:=Lib.hid (blk_snoc p x y vx vy hltJ hltI);obtain⟨-,k0,k1,k2,-⟩:=bx3 XI.out.1;obtain⟨-,g0,g1,-⟩:=bx2 XI.out.2;go_wp2_with fail
     refine(l7Half_any p (2*(x+(I:Int))+vx) (2*(y+(J:Int))+vy) a c n _ HV.out HN.out (r.ext EI) (by omega) (by omega) (by omega) (by omega)).mono ?_
     rintro e w3 ⟨rfl,e3⟩
     have E3:=EI.trans e3;have X3:=Lib.hid (And.intro (e3.blk XI.out.1) (e3.blk XI.out.2));have o3:=owns_ext oI e3;have hs3:B+2≤w3.heap.size:=by have:=lt_of_block X3.out.2;omega
     clear EI oI XI e3 k0 k1 k2 g0 g1;go_wp2_with (at_builtin;refine wpList_app _ o3 hs3 _ rfl _ _ 23 rfl (.int .i64 0) 8 Tryz.underlying23 info_int rfl rfl rfl rfl (by omega) (by omega) ?_;intro v4 w4 own4 gr4 _)
     go_roundw
     case rel =>
      rw[←Hsn.out]at own4;have hge:=owns_ge o3;exact⟨I+1,by omega,by go_num,Ext.grown E3 gr4 (fun k e=>by have:=hge k e;omega),Lib.hid ⟨blk_gr X3.out.1 gr4 (fun e=>by have:=hge _ e;omega),blk_gr X3.out.2 gr4 (fun e=>by have:=hge _ e;omega)⟩,own4⟩
     case measure=>simp[intOf];omega
    ·obtain rfl:I=8:=by omega
     go_wp2;go_roundw
     case rel=>exact⟨J+1,by omega,by go_num,EI,XI,by rw[mul8];exact oI⟩
     case measure=>simp[intOf];omega
  ·obtain rfl:J=8:=by omega
   rw[List.take_of_length_le (by rw[blkL_len];omega)]at oJ;obtain⟨a8,c8,rfl⟩:=owns_form oJ;go_wp2;go_ret
   exact⟨_,_,rfl,owns_mono oJ (by omega),EJ⟩
/-- All numbers of a list are within M. -/
def bdA (M:Int) (zs:List Int):Prop:=∀ j,-M≤nth zs j∧nth zs j≤M
theorem bdA_set {M:Int} {zs:List Int} {v:Int} (h:bdA M zs) (i:Nat) (h1 : -M≤v) (h2:v≤M):bdA M (zs.set i v):=fun j=>by
 by_cases e:i=j
 ·subst e
  by_cases hl:i<zs.length
  ·rw[nth_set_same _ _ _ hl];exact⟨h1,h2⟩
  ·rw[List.set_eq_of_length_le (by omega)];exact h i
 ·rw[nth_set_ne _ _ _ _ e];exact h j
theorem bdA_mono {M M':Int} {zs:List Int} (h:bdA M zs) (hm:M≤M'):bdA M' zs:=fun j=>by have:=h j;omega
theorem bdA_of {M:Int} {zs:List Int} (hM:0≤M) (h:∀ j,j<zs.length → -M≤nth zs j∧nth zs j≤M):bdA M zs:=fun j=>by
 by_cases hl:j<zs.length
 ·exact h j hl
 ·rw[show nth zs j=0 by simp[nth,List.getElem?_eq_none (show zs.length≤j by omega)]];omega
theorem bfS_bd {M:Int} {zs:List Int} (h:bdA M zs) (i st:Nat):bdA (4*M) (bfS zs i st):=by
 have h0:=h i;have h1:=h (i+st);have h2:=h (i+2*st);have h3:=h (i+3*st);unfold bfS;refine bdA_set (bdA_set (bdA_set (bdA_set (bdA_mono h (by omega)) _ ?_ ?_) _ ?_ ?_) _ ?_ ?_) _ ?_ ?_ <;> omega
theorem bfS_len (zs:List Int) (i st:Nat):(bfS zs i st).length=zs.length:=by simp[bfS]
theorem bfR_len (zs:List Int) (k:Nat):(bfR zs k).length=zs.length:=by
 induction k with
 | zero=>rfl
 | succ k ih=>simp only[bfR];rw[bfS_len,ih]
theorem bfC_len (zs:List Int) (k:Nat):(bfC zs k).length=zs.length:=by
 induction k with
 | zero=>rfl
 | succ k ih=>simp only[bfC];rw[bfS_len,ih]
theorem four_bd (M:Int) (hM:0≤M) (f:Nat→List Int) (h0:bdA M (f 0)) (hs:∀ k N,bdA N (f k)→bdA (4*N) (f (k+1))):∀ k,k≤4→bdA (256*M) (f k):=by
 have h1:=hs 0 _ h0;have h2:=hs 1 _ h1;have h3:=hs 2 _ h2;have h4:=hs 3 _ h3;intro k hk
 match k,hk with
 | 0,_=>exact bdA_mono h0 (by omega)
 | 1,_=>exact bdA_mono h1 (by omega)
 | 2,_=>exact bdA_mono h2 (by omega)
 | 3,_=>exact bdA_mono h3 (by omega)
 | 4,_=>exact bdA_mono h4 (by omega)
theorem bfR_bd {zs:List Int} (h:bdA 1048576 zs):∀ k,k≤4→bdA 268435456 (bfR zs k) :=
 fun k hk=>bdA_mono (four_bd 1048576 (by omega) (bfR zs) h (fun k N hN=>bfS_bd hN _ _) k hk) (by omega)
theorem bfC_bd {zs:List Int} (h:bdA 268435456 zs):∀ k,k≤4→bdA 68719476736 (bfC zs k) :=
 fun k hk=>bdA_mono (four_bd 268435456 (by omega) (bfC zs) h (fun k N hN=>bfS_bd hN _ _) k hk) (by omega)
/-- A list, the one or the other of two stores made. -/
def stY (Z:List Int) (i1:Nat) (v1:Int) (i2:Nat) (v2:Int) (b1 b2:Bool):List Int:=if b2 then(if b1 then Z.set i1 v1 else Z).set i2 v2 else(if b1 then Z.set i1 v1 else Z)
theorem stY_one (Z:List Int) (i1:Nat) (v1:Int) (i2:Nat) (v2:Int) (b2:Bool) (hne:i1≠i2):(stY Z i1 v1 i2 v2 false b2).set i1 v1=stY Z i1 v1 i2 v2 true b2:=by
 cases b2
 ·rfl
 ·show(Z.set i2 v2).set i1 v1=(Z.set i1 v1).set i2 v2;exact List.set_comm _ _ (fun h=>hne h.symm)
theorem stY_two (Z:List Int) (i1:Nat) (v1:Int) (i2:Nat) (v2:Int) (b1:Bool):(stY Z i1 v1 i2 v2 b1 false).set i2 v2=stY Z i1 v1 i2 v2 b1 true:=rfl
theorem stY_len (Z:List Int) (i1:Nat) (v1:Int) (i2:Nat) (v2:Int) (b1 b2:Bool):(stY Z i1 v1 i2 v2 b1 b2).length=Z.length:=by
 cases b1 <;> cases b2 <;> simp[stY]
theorem gr_drew {w w':World} {row:Option Nat} (h:w.grownBy w' row):w.grownBy w'.drew row:=grown_ext h (Ext.drewN _ 1)
theorem butterflies_any (b A0 st:Nat) (zs:List Int) (w:World) (h:IB w b 29 zs) (hl:zs.length=16) (hb:bdA 1099511627776 zs) (h1:1≤st) (h2:A0+3*st<16) :
 Calls Tryz.prog 155 #[.pointer (some ⟨b,0,none⟩),.int .i64 (A0:Nat),.int .i64 (st:Nat)] w fun e w'=>e= .returned (.tuple #[])∧IB w' b 29 (bfS zs A0 st)∧w.grownBy w' (some b):=by
 have b0:=hb A0;have b1:=hb (A0+st);have b2:=hb (A0+2*st);have b3:=hb (A0+3*st);have HB:=Lib.hid (show bfS zs A0 st=(((zs.set A0 (nth zs A0+nth zs (A0+st)+nth zs (A0+2*st)+nth zs (A0+3*st))).set (A0+st) (nth zs A0+nth zs (A0+st)-nth zs (A0+2*st)-nth zs (A0+3*st))).set (A0+2*st) (nth zs A0-nth zs (A0+st)-nth zs (A0+2*st)+nth zs (A0+3*st))).set (A0+3*st) (nth zs A0-nth zs (A0+st)+nth zs (A0+2*st)-nth zs (A0+3*st))from rfl);have c0:=h.cell (i:=A0) (by omega);have c1:=h.cell (i:=A0+st) (by omega);have c2:=h.cell (i:=A0+2*st) (by omega);have c3:=h.cell (i:=A0+3*st) (by omega);obtain⟨A1,hA1⟩:∃ A1,A1=A0+st:=⟨_,rfl⟩;obtain⟨A2,hA2⟩:∃ A2,A2=A0+2*st:=⟨_,rfl⟩;obtain⟨A3,hA3⟩:∃ A3,A3=A0+3*st:=⟨_,rfl⟩;rw[←hA1]at b1 c1 HB;rw[←hA2]at b2 c2 HB;rw[←hA3]at b3 c3 HB;generalize nth zs A0=v0 at *;generalize nth zs A1=v1 at *;generalize nth zs A2=v2 at *;generalize nth zs A3=v3 at *;have i1:=Lib.hid (show(A0:Int)+(st:Int)=(A1:Int) by omega);have i2:=Lib.hid (show(A0:Int)+2*(st:Int)=(A2:Int) by omega);have i3:=Lib.hid (show(A0:Int)+3*(st:Int)=(A3:Int) by omega);have l0:A0<16:=by omega
 have l1:A1<16:=by omega
 have l2:A2<16:=by omega
 have l3:A3<16:=by omega
 have hst:st≤5:=by omega
 have n1:A0≠A1:=by omega
 have n2:A2≠A3:=by omega
 have Hl:=Lib.hid hl;have C0:=Lib.hid c0;have C1:=Lib.hid c1;have C2:=Lib.hid c2;have C3:=Lib.hid c3;clear hl hb hA1 hA2 hA3 h2 c0 c1 c2 c3;go_enter Tryz.func155,Tryz.ntmps155
 go_wp2_with fail
 refine wp_region_inv2 (by kernel_rfl) [(6,28),(7,29),(8,30),(9,31),(10,0),(11,1),(12,2),(13,3),(14,4),(15,5),(16,6),(17,7),(18,8),(19,9),(20,10),(21,11),(22,12),(23,13),(24,14),(25,15),(26,16),(27,17),(28,18),(29,19),(30,20),(31,21),(32,22),(33,23),(34,24),(35,25),(36,26),(37,27)] [[],[],[0],[0,1,2],[0,1,2,3],[],[],[],[6,7],[5],[5,6,7,8,9],[5,6,7,8,9,10],[],[],[],[14],[13,14,15],[12],[12,13,14,15,16,17],[12,13,14,15,16,17,18],[],[],[],[22],[21,22,23],[20],[20,21,22,23,24,25],[20,21,22,23,24,25,26],[0,1,2,3,4],[0,1,2,3,4,5,6,7,8,9,10,11,28],[0,1,2,3,4,5,6,7,8,9,10,11,12,13,14,15,16,17,18,19,28,29],[0,1,2,3,4,5,6,7,8,9,10,11,12,13,14,15,16,17,18,19,20,21,22,23,24,25,26,27,28,29,30]] (fun i own ys wx=>match i with|0=>own= .pointer (some ⟨b,0,none⟩)|1=>own= .int .i64 (A0:Nat)|2=>own= .pointer (some ⟨b,0,none⟩)|3=>own= .pointer (some ⟨b,A0,none⟩)|4=>own= .int .i64 v0|5=>own= .pointer (some ⟨b,0,none⟩)|6=>own= .int .i64 (A0:Nat)|7=>own= .int .i64 (st:Nat)|8=>own= .int .i64 (A1:Nat)|9=>own= .pointer (some ⟨b,0,none⟩)|10=>own= .pointer (some ⟨b,A1,none⟩)|11=>own= .int .i64 v1|12=>own= .pointer (some ⟨b,0,none⟩)|13=>own= .int .i64 (A0:Nat)|14=>own= .int .i64 (st:Nat)|15=>own= .int .i64 (2*(st:Int))|16=>own= .int .i64 (A2:Nat)|17=>own= .pointer (some ⟨b,0,none⟩)|18=>own= .pointer (some ⟨b,A2,none⟩)|19=>own= .int .i64 v2|20=>own= .pointer (some ⟨b,0,none⟩)|21=>own= .int .i64 (A0:Nat)|22=>own= .int .i64 (st:Nat)|23=>own= .int .i64 (3*(st:Int))|24=>own= .int .i64 (A3:Nat)|25=>own= .pointer (some ⟨b,0,none⟩)|26=>own= .pointer (some ⟨b,A3,none⟩)|27=>own= .int .i64 v3|28=>own= .int .i64 v0|29=>own= .int .i64 v1|30=>own= .int .i64 v2|31=>own= .int .i64 v3|_=>True) (fun kx wx=>Ext w wx) (by kernel_rfl) (by kernel_rfl) (by kernel_rfl) ?g0_r1 ?gop_r1 ?gend_r1
 case g0_r1=>exact Ext.drewN _ 1
 case gop_r1 =>
  refine⟨?_,?_,?o2,?o3,?o4,?_,?_,?_,?o8,?o9,?o10,?o11,?_,?_,?_,?o15,?o16,?o17,?o18,?o19,?_,?_,?_,?o23,?o24,?o25,?o26,?o27,?o28,?o29,?o30,?o31,trivial⟩ <;> (intro kx xs wx hk hG hD hI Qo Kx hK hQo;simp only[patchS,Nat.reduceAdd,Nat.reduceEqDiff,↓reduceIte]at hQo⊢)
  case o2 =>
   rw[ddq (hD 0 rfl)]at hQo⊢;clear hD hI;go_wp2;exact hK.out _ _ ⟨rfl,hG,kkp⟩
  case o3 =>
   rw[ddq (hD 1 rfl),ddq (hD 2 rfl)]at hQo⊢;clear hD hI;go_wp2;exact hK.out _ _ ⟨rfl,hG,kkp⟩
  case o4 =>
   rw[ddq (hD 3 rfl)]at hQo⊢;clear hD hI;have cx:=cell_ext hG C0.out;go_wp2;exact hK.out _ _ ⟨rfl,hG,kkp⟩
  case o8 =>
   rw[ddq (hD 6 rfl),ddq (hD 7 rfl)]at hQo⊢;clear hD hI;go_wp2;exact hK.out _ _ ⟨by rw[←i1.out],hG,fun _ _ _ _ _ _ h=>h⟩
  case o9 =>
   rw[ddq (hD 5 rfl)]at hQo⊢;clear hD hI;go_wp2;exact hK.out _ _ ⟨rfl,hG,kkp⟩
  case o10 =>
   rw[ddq (hD 8 rfl),ddq (hD 9 rfl)]at hQo⊢;clear hD hI;go_wp2;exact hK.out _ _ ⟨rfl,hG,kkp⟩
  case o11 =>
   rw[ddq (hD 10 rfl)]at hQo⊢;clear hD hI;have cx:=cell_ext hG C1.out;go_wp2;exact hK.out _ _ ⟨rfl,hG,kkp⟩
  case o15 =>
   rw[ddq (hD 14 rfl)]at hQo⊢;clear hD hI;go_wp2;exact hK.out _ _ ⟨rfl,hG,kkp⟩
  case o16 =>
   rw[ddq (hD 13 rfl),ddq (hD 15 rfl)]at hQo⊢;clear hD hI;go_wp2;exact hK.out _ _ ⟨by rw[←i2.out],hG,fun _ _ _ _ _ _ h=>h⟩
  case o17 =>
   rw[ddq (hD 12 rfl)]at hQo⊢;clear hD hI;go_wp2;exact hK.out _ _ ⟨rfl,hG,kkp⟩
  case o18 =>
   rw[ddq (hD 16 rfl),ddq (hD 17 rfl)]at hQo⊢;clear hD hI;go_wp2;exact hK.out _ _ ⟨rfl,hG,kkp⟩
  case o19 =>
   rw[ddq (hD 18 rfl)]at hQo⊢;clear hD hI;have cx:=cell_ext hG C2.out;go_wp2;exact hK.out _ _ ⟨rfl,hG,kkp⟩
  case o23 =>
   rw[ddq (hD 22 rfl)]at hQo⊢;clear hD hI;go_wp2;exact hK.out _ _ ⟨rfl,hG,kkp⟩
  case o24 =>
   rw[ddq (hD 21 rfl),ddq (hD 23 rfl)]at hQo⊢;clear hD hI;go_wp2;exact hK.out _ _ ⟨by rw[←i3.out],hG,fun _ _ _ _ _ _ h=>h⟩
  case o25 =>
   rw[ddq (hD 20 rfl)]at hQo⊢;clear hD hI;go_wp2;exact hK.out _ _ ⟨rfl,hG,kkp⟩
  case o26 =>
   rw[ddq (hD 24 rfl),ddq (hD 25 rfl)]at hQo⊢;clear hD hI;go_wp2;exact hK.out _ _ ⟨rfl,hG,kkp⟩
  case o27 =>
   rw[ddq (hD 26 rfl)]at hQo⊢;clear hD hI;have cx:=cell_ext hG C3.out;go_wp2;exact hK.out _ _ ⟨rfl,hG,kkp⟩
  case o28 =>
   rw[ddq (hD 4 rfl)]at hQo⊢;clear hD hI;go_wp2;exact hK.out _ _ ⟨rfl,hG,kkp⟩
  case o29 =>
   rw[ddq (hD 11 rfl)]at hQo⊢;clear hD hI;go_wp2;exact hK.out _ _ ⟨rfl,hG,kkp⟩
  case o30 =>
   rw[ddq (hD 19 rfl)]at hQo⊢;clear hD hI;go_wp2;exact hK.out _ _ ⟨rfl,hG,kkp⟩
  case o31 =>
   rw[ddq (hD 27 rfl)]at hQo⊢;clear hD hI;go_wp2;exact hK.out _ _ ⟨rfl,hG,kkp⟩
  all_goals
   clear hD hI;go_wp2;exact hK.out _ _ ⟨rfl,hG,kkp⟩
 intro xs wx hV hG;have d28:_=_:=hV 28 (by decide);have d29:_=_:=hV 29 (by decide);have d30:_=_:=hV 30 (by decide);have d31:_=_:=hV 31 (by decide);clear hV;simp only[patchS,Nat.reduceAdd,Nat.reduceEqDiff,↓reduceIte];generalize xs 0=y0,xs 1=y1,xs 2=y2,xs 3=y3,xs 4=y4,xs 5=y5,xs 6=y6,xs 7=y7,xs 8=y8,xs 9=y9,xs 10=y10,xs 11=y11,xs 12=y12,xs 13=y13,xs 14=y14,xs 15=y15,xs 16=y16,xs 17=y17,xs 18=y18,xs 19=y19,xs 20=y20,xs 21=y21,xs 22=y22,xs 23=y23,xs 24=y24,xs 25=y25,xs 26=y26,xs 27=y27,xs 28=y28,xs 29=y29,xs 30=y30,xs 31=y31 at *
 replace hG:Ext w wx:=hG
 subst d28 d29 d30 d31;have G1:IB wx b 29 zs∧w.grownBy wx (some b):=⟨h.ext hG,grown_ext (grown_refl _ _) hG⟩;clear hG h;generalize wx=wa at *;go_wp2_with fail
 refine wp_region_invL (by kernel_rfl) [(38,0),(39,1),(40,2),(41,3),(42,4),(43,5),(44,6),(45,7),(46,8),(47,9),(48,10),(49,11),(50,12),(51,13),(52,14),(53,15),(54,16),(55,17),(56,18),(57,19),(58,20),(59,21),(60,23),(61,24)] [[],[],[],[],[],[3,4],[],[],[6,7],[],[6,7,8,9],[],[6,7,8,9,10,11],[],[],[13,14],[],[13,14,15,16],[],[13,14,15,16,17,18],[0],[0,1,6,7,8,9,10,11,12,20],[0,1,6,7,8,9,10,11,12,20,21],[2],[0,1,2,3,4,5,6,7,8,9,10,11,12,13,14,15,16,17,18,19,20,21,22,23],[0,1,2,3,4,5,6,7,8,9,10,11,12,13,14,15,16,17,18,19,20,21,22,23,24]] (fun i own ys wx=>match i with|0=>own= .pointer (some ⟨b,0,none⟩)|1=>own= .int .i64 (A0:Nat)|2=>own= .pointer (some ⟨b,0,none⟩)|3=>own= .int .i64 (A0:Nat)|4=>own= .int .i64 (st:Nat)|5=>own= .int .i64 ((A1:Nat))|6=>own= .int .i64 (v0)|7=>own= .int .i64 (v1)|8=>own= .int .i64 (v0+v1)|9=>own= .int .i64 (v2)|10=>own= .int .i64 (v0+v1+v2)|11=>own= .int .i64 (v3)|12=>own= .int .i64 (v0+v1+v2+v3)|13=>own= .int .i64 (v0)|14=>own= .int .i64 (v1)|15=>own= .int .i64 (v0+v1)|16=>own= .int .i64 (v2)|17=>own= .int .i64 (v0+v1-v2)|18=>own= .int .i64 (v3)|19=>own= .int .i64 (v0+v1-v2-v3)|20=>own= .pointer (some ⟨b,0,none⟩)|21=>own= .pointer (some ⟨b,A0,none⟩)|22=>True|23=>own= .pointer (some ⟨b,0,none⟩)|24=>own= .pointer (some ⟨b,A1,none⟩)|25=>True|_=>True) (fun Lx wx=>IB wx b 29 (stY (zs) A0 (v0+v1+v2+v3) A1 (v0+v1-v2-v3) (Lx 22) (Lx 25))∧w.grownBy wx (some b)) (by kernel_rfl) (by kernel_rfl) (by kernel_rfl) ?g0_r2 ?gop_r2 ?gend_r2
 case g0_r2=>exact⟨G1.1.drewN 1,gr_drew G1.2⟩
 case gop_r2 =>
  refine⟨?_,?_,?_,?_,?_,?o5,?_,?_,?o8,?_,?o10,?_,?o12,?_,?_,?o15,?_,?o17,?_,?o19,?o20,?o21,?o22,?o23,?o24,?o25,trivial⟩ <;> (intro Lx xs wx hG hl ha hb hD hI Qo Kx hK hQo;simp only[patchS,Nat.reduceAdd,Nat.reduceEqDiff,↓reduceIte]at hQo⊢)
  case o5 =>
   clear hl ha hb;rw[ddq (hD 3 rfl),ddq (hD 4 rfl)]at hQo⊢;clear hD hI;go_wp2;exact hK.out _ _ ⟨by rw[←i1.out],hG,fun _ _ _ _ _ _ h=>h⟩
  case o8 =>
   clear hl ha hb;rw[ddq (hD 6 rfl),ddq (hD 7 rfl)]at hQo⊢;clear hD hI;go_wp2;exact hK.out _ _ ⟨rfl,hG,kkp⟩
  case o10 =>
   clear hl ha hb;rw[ddq (hD 8 rfl),ddq (hD 9 rfl)]at hQo⊢;clear hD hI;go_wp2;exact hK.out _ _ ⟨rfl,hG,kkp⟩
  case o12 =>
   clear hl ha hb;rw[ddq (hD 10 rfl),ddq (hD 11 rfl)]at hQo⊢;clear hD hI;go_wp2;exact hK.out _ _ ⟨rfl,hG,kkp⟩
  case o15 =>
   clear hl ha hb;rw[ddq (hD 13 rfl),ddq (hD 14 rfl)]at hQo⊢;clear hD hI;go_wp2;exact hK.out _ _ ⟨rfl,hG,kkp⟩
  case o17 =>
   clear hl ha hb;rw[ddq (hD 15 rfl),ddq (hD 16 rfl)]at hQo⊢;clear hD hI;go_wp2;exact hK.out _ _ ⟨rfl,hG,kkp⟩
  case o19 =>
   clear hl ha hb;rw[ddq (hD 17 rfl),ddq (hD 18 rfl)]at hQo⊢;clear hD hI;go_wp2;exact hK.out _ _ ⟨rfl,hG,kkp⟩
  case o20 =>
   clear hl ha hb;rw[ddq (hD 0 rfl)]at hQo⊢;clear hD hI;go_wp2;exact hK.out _ _ ⟨rfl,hG,kkp⟩
  case o21 =>
   clear hl ha hb;rw[ddq (hD 1 rfl),ddq (hD 20 rfl)]at hQo⊢;clear hD hI;go_wp2;exact hK.out _ _ ⟨rfl,hG,kkp⟩
  case o22 =>
   have l22:Lx 22=false:=hl;clear hl ha hb;rw[ddq (hD 12 rfl),ddq (hD 21 rfl)]at hQo⊢;clear hD hI;have cx:=hG.1.cell (i:=A0) (by rw[stY_len];rw[Hl.out];assumption);have fx:=hG.1.frozen A0;rw[l22]at hG;have hG2:=hG.1.set A0 (v0+v1+v2+v3);rw[stY_one _ _ _ _ _ _ n1]at hG2;have hG3:=grownBy_trans hG.2 (gr_set _ b A0 (.int .i64 (v0+v1+v2+v3)));go_wp2;exact hQo undef _ (hK.out _ _ ⟨trivial,⟨hG2,hG3⟩,fun _ _ _ _ _ _ h=>h⟩)
  case o23 =>
   clear hl ha hb;rw[ddq (hD 2 rfl)]at hQo⊢;clear hD hI;go_wp2;exact hK.out _ _ ⟨rfl,hG,kkp⟩
  case o24 =>
   clear hl ha hb;rw[ddq (hD 5 rfl),ddq (hD 23 rfl)]at hQo⊢;clear hD hI;go_wp2;exact hK.out _ _ ⟨rfl,hG,kkp⟩
  case o25 =>
   have l25:Lx 25=false:=hl;clear hl ha hb;rw[ddq (hD 19 rfl),ddq (hD 24 rfl)]at hQo⊢;clear hD hI;have cx:=hG.1.cell (i:=A1) (by rw[stY_len];rw[Hl.out];assumption);have fx:=hG.1.frozen A1;rw[l25]at hG;have hG2:=hG.1.set A1 (v0+v1-v2-v3);rw[stY_two]at hG2;have hG3:=grownBy_trans hG.2 (gr_set _ b A1 (.int .i64 (v0+v1-v2-v3)));go_wp2;exact hQo undef _ (hK.out _ _ ⟨trivial,⟨hG2,hG3⟩,fun _ _ _ _ _ _ h=>h⟩)
  all_goals
   clear hl ha hb hD hI;go_wp2;exact hK.out _ _ ⟨rfl,hG,kkp⟩
 intro xs wx hV hG0;obtain⟨Lx,hL,hG⟩:=hG0;have l22:Lx 22=true:=hL 22 (by decide);have l25:Lx 25=true:=hL 25 (by decide);clear hL hV;simp only[patchS,Nat.reduceAdd,Nat.reduceEqDiff,↓reduceIte];generalize xs 0=y0,xs 1=y1,xs 2=y2,xs 3=y3,xs 4=y4,xs 5=y5,xs 6=y6,xs 7=y7,xs 8=y8,xs 9=y9,xs 10=y10,xs 11=y11,xs 12=y12,xs 13=y13,xs 14=y14,xs 15=y15,xs 16=y16,xs 17=y17,xs 18=y18,xs 19=y19,xs 20=y20,xs 21=y21,xs 22=y22,xs 23=y23,xs 24=y24,xs 25=y25 at *
 replace hG:IB wx b 29 (stY (zs) A0 (v0+v1+v2+v3) A1 (v0+v1-v2-v3) (Lx 22) (Lx 25))∧w.grownBy wx (some b):=hG
 rw[l22,l25]at hG;have G2:=hG;clear hG G1;have e2:stY zs A0 (v0+v1+v2+v3) A1 (v0+v1-v2-v3) true true=(zs.set A0 (v0+v1+v2+v3)).set A1 (v0+v1-v2-v3):=rfl;rw[e2]at G2;clear e2;generalize wx=wb at *;go_wp2_with fail
 refine wp_region_invL (by kernel_rfl) [(62,0),(63,1),(64,2),(65,3),(66,4),(67,5),(68,6),(69,7),(70,8),(71,9),(72,10),(73,11),(74,12),(75,13),(76,14),(77,15),(78,16),(79,17),(80,18),(81,19),(82,20),(83,21),(84,22),(85,23),(86,24),(87,25),(88,27),(89,28)] [[],[],[],[2],[1,2,3],[],[],[],[7],[6,7,8],[],[],[10,11],[],[10,11,12,13],[],[10,11,12,13,14,15],[],[],[17,18],[],[17,18,19,20],[],[17,18,19,20,21,22],[0],[0,1,2,3,4,10,11,12,13,14,15,16,24],[0,1,2,3,4,10,11,12,13,14,15,16,24,25],[5],[0,1,2,3,4,5,6,7,8,9,10,11,12,13,14,15,16,17,18,19,20,21,22,23,24,25,26,27],[0,1,2,3,4,5,6,7,8,9,10,11,12,13,14,15,16,17,18,19,20,21,22,23,24,25,26,27,28]] (fun i own ys wx=>match i with|0=>own= .pointer (some ⟨b,0,none⟩)|1=>own= .int .i64 (A0:Nat)|2=>own= .int .i64 (st:Nat)|3=>own= .int .i64 (2*(st:Int))|4=>own= .int .i64 ((A2:Nat))|5=>own= .pointer (some ⟨b,0,none⟩)|6=>own= .int .i64 (A0:Nat)|7=>own= .int .i64 (st:Nat)|8=>own= .int .i64 (3*(st:Int))|9=>own= .int .i64 ((A3:Nat))|10=>own= .int .i64 (v0)|11=>own= .int .i64 (v1)|12=>own= .int .i64 (v0-v1)|13=>own= .int .i64 (v2)|14=>own= .int .i64 (v0-v1-v2)|15=>own= .int .i64 (v3)|16=>own= .int .i64 (v0-v1-v2+v3)|17=>own= .int .i64 (v0)|18=>own= .int .i64 (v1)|19=>own= .int .i64 (v0-v1)|20=>own= .int .i64 (v2)|21=>own= .int .i64 (v0-v1+v2)|22=>own= .int .i64 (v3)|23=>own= .int .i64 (v0-v1+v2-v3)|24=>own= .pointer (some ⟨b,0,none⟩)|25=>own= .pointer (some ⟨b,A2,none⟩)|26=>True|27=>own= .pointer (some ⟨b,0,none⟩)|28=>own= .pointer (some ⟨b,A3,none⟩)|29=>True|_=>True) (fun Lx wx=>IB wx b 29 (stY ((zs.set A0 (v0+v1+v2+v3)).set A1 (v0+v1-v2-v3)) A2 (v0-v1-v2+v3) A3 (v0-v1+v2-v3) (Lx 26) (Lx 29))∧w.grownBy wx (some b)) (by kernel_rfl) (by kernel_rfl) (by kernel_rfl) ?g0_r3 ?gop_r3 ?gend_r3
 case g0_r3=>exact⟨G2.1.drewN 1,gr_drew G2.2⟩
 case gop_r3 =>
  refine⟨?_,?_,?_,?o3,?o4,?_,?_,?_,?o8,?o9,?_,?_,?o12,?_,?o14,?_,?o16,?_,?_,?o19,?_,?o21,?_,?o23,?o24,?o25,?o26,?o27,?o28,?o29,trivial⟩ <;> (intro Lx xs wx hG hl ha hb hD hI Qo Kx hK hQo;simp only[patchS,Nat.reduceAdd,Nat.reduceEqDiff,↓reduceIte]at hQo⊢)
  case o3 =>
   clear hl ha hb;rw[ddq (hD 2 rfl)]at hQo⊢;clear hD hI;go_wp2;exact hK.out _ _ ⟨rfl,hG,kkp⟩
  case o4 =>
   clear hl ha hb;rw[ddq (hD 1 rfl),ddq (hD 3 rfl)]at hQo⊢;clear hD hI;go_wp2;exact hK.out _ _ ⟨by rw[←i2.out],hG,fun _ _ _ _ _ _ h=>h⟩
  case o8 =>
   clear hl ha hb;rw[ddq (hD 7 rfl)]at hQo⊢;clear hD hI;go_wp2;exact hK.out _ _ ⟨rfl,hG,kkp⟩
  case o9 =>
   clear hl ha hb;rw[ddq (hD 6 rfl),ddq (hD 8 rfl)]at hQo⊢;clear hD hI;go_wp2;exact hK.out _ _ ⟨by rw[←i3.out],hG,fun _ _ _ _ _ _ h=>h⟩
  case o12 =>
   clear hl ha hb;rw[ddq (hD 10 rfl),ddq (hD 11 rfl)]at hQo⊢;clear hD hI;go_wp2;exact hK.out _ _ ⟨rfl,hG,kkp⟩
  case o14 =>
   clear hl ha hb;rw[ddq (hD 12 rfl),ddq (hD 13 rfl)]at hQo⊢;clear hD hI;go_wp2;exact hK.out _ _ ⟨rfl,hG,kkp⟩
  case o16 =>
   clear hl ha hb;rw[ddq (hD 14 rfl),ddq (hD 15 rfl)]at hQo⊢;clear hD hI;go_wp2;exact hK.out _ _ ⟨rfl,hG,kkp⟩
  case o19 =>
   clear hl ha hb;rw[ddq (hD 17 rfl),ddq (hD 18 rfl)]at hQo⊢;clear hD hI;go_wp2;exact hK.out _ _ ⟨rfl,hG,kkp⟩
  case o21 =>
   clear hl ha hb;rw[ddq (hD 19 rfl),ddq (hD 20 rfl)]at hQo⊢;clear hD hI;go_wp2;exact hK.out _ _ ⟨rfl,hG,kkp⟩
  case o23 =>
   clear hl ha hb;rw[ddq (hD 21 rfl),ddq (hD 22 rfl)]at hQo⊢;clear hD hI;go_wp2;exact hK.out _ _ ⟨rfl,hG,kkp⟩
  case o24 =>
   clear hl ha hb;rw[ddq (hD 0 rfl)]at hQo⊢;clear hD hI;go_wp2;exact hK.out _ _ ⟨rfl,hG,kkp⟩
  case o25 =>
   clear hl ha hb;rw[ddq (hD 4 rfl),ddq (hD 24 rfl)]at hQo⊢;clear hD hI;go_wp2;exact hK.out _ _ ⟨rfl,hG,kkp⟩
  case o26 =>
   have l26:Lx 26=false:=hl;clear hl ha hb;rw[ddq (hD 16 rfl),ddq (hD 25 rfl)]at hQo⊢;clear hD hI;have cx:=hG.1.cell (i:=A2) (by rw[stY_len];simp only[List.length_set];rw[Hl.out];assumption);have fx:=hG.1.frozen A2;rw[l26]at hG;have hG2:=hG.1.set A2 (v0-v1-v2+v3);rw[stY_one _ _ _ _ _ _ n2]at hG2;have hG3:=grownBy_trans hG.2 (gr_set _ b A2 (.int .i64 (v0-v1-v2+v3)));go_wp2;exact hQo undef _ (hK.out _ _ ⟨trivial,⟨hG2,hG3⟩,fun _ _ _ _ _ _ h=>h⟩)
  case o27 =>
   clear hl ha hb;rw[ddq (hD 5 rfl)]at hQo⊢;clear hD hI;go_wp2;exact hK.out _ _ ⟨rfl,hG,kkp⟩
  case o28 =>
   clear hl ha hb;rw[ddq (hD 9 rfl),ddq (hD 27 rfl)]at hQo⊢;clear hD hI;go_wp2;exact hK.out _ _ ⟨rfl,hG,kkp⟩
  case o29 =>
   have l29:Lx 29=false:=hl;clear hl ha hb;rw[ddq (hD 23 rfl),ddq (hD 28 rfl)]at hQo⊢;clear hD hI;have cx:=hG.1.cell (i:=A3) (by rw[stY_len];simp only[List.length_set];rw[Hl.out];assumption);have fx:=hG.1.frozen A3;rw[l29]at hG;have hG2:=hG.1.set A3 (v0-v1+v2-v3);rw[stY_two]at hG2;have hG3:=grownBy_trans hG.2 (gr_set _ b A3 (.int .i64 (v0-v1+v2-v3)));go_wp2;exact hQo undef _ (hK.out _ _ ⟨trivial,⟨hG2,hG3⟩,fun _ _ _ _ _ _ h=>h⟩)
  all_goals
   clear hl ha hb hD hI;go_wp2;exact hK.out _ _ ⟨rfl,hG,kkp⟩
 intro xs wx hV hG0;obtain⟨Lx,hL,hG⟩:=hG0;have l26:Lx 26=true:=hL 26 (by decide);have l29:Lx 29=true:=hL 29 (by decide);clear hL hV;simp only[patchS,Nat.reduceAdd,Nat.reduceEqDiff,↓reduceIte];generalize xs 0=y0,xs 1=y1,xs 2=y2,xs 3=y3,xs 4=y4,xs 5=y5,xs 6=y6,xs 7=y7,xs 8=y8,xs 9=y9,xs 10=y10,xs 11=y11,xs 12=y12,xs 13=y13,xs 14=y14,xs 15=y15,xs 16=y16,xs 17=y17,xs 18=y18,xs 19=y19,xs 20=y20,xs 21=y21,xs 22=y22,xs 23=y23,xs 24=y24,xs 25=y25,xs 26=y26,xs 27=y27,xs 28=y28,xs 29=y29 at *
 replace hG:IB wx b 29 (stY ((zs.set A0 (v0+v1+v2+v3)).set A1 (v0+v1-v2-v3)) A2 (v0-v1-v2+v3) A3 (v0-v1+v2-v3) (Lx 26) (Lx 29))∧w.grownBy wx (some b):=hG
 rw[l26,l29]at hG;have e3:stY ((zs.set A0 (v0+v1+v2+v3)).set A1 (v0+v1-v2-v3)) A2 (v0-v1-v2+v3) A3 (v0-v1+v2-v3) true true=bfS zs A0 st:=HB.out.symm;rw[e3]at hG;have HG:=Lib.hid hG;clear hG G2 e3;go_wp2;go_end0
 exact⟨rfl,HG.out.1,HG.out.2⟩
theorem hadamard_any (zs:List Int) (w:World) (hl:zs.length=16) (hb:bdA 1048576 zs) :
 Calls Tryz.prog 114 #[.agg (ic zs)] w fun e w'=>e= .returned (.agg (ic (had zs)))∧Ext w w':=by
 have bR:=bfR_bd hb;have bC:=bfC_bd (bR 4 (by omega));have hC:(bfC (bfR zs 4) 4).length=16:=by rw[bfC_len,bfR_len,hl]
 have HC:=Lib.hid hC;have Hh:=Lib.hid (bf_had hl);have Hl:=Lib.hid hl;have BR:=Lib.hid bR;have BC:=Lib.hid bC;clear hl hb bR bC hC;have a2:=Ext.alloc (w.alloc (.cells (ic zs) 29)) (.cells (ic (List.replicate 16 0)) 29);have p0:=(IB.new w 29 zs).ext a2;have p1:=IB.new (w.alloc (.cells (ic zs) 29)) 29 (List.replicate 16 0);have E1:=(Ext.alloc w (.cells (ic zs) 29)).trans a2;simp only[World.size_alloc]at p1;clear a2;go_enter Tryz.func114,Tryz.ntmps114
 go_wp2_with fail
 go_loopw [5] (fun i wr=>∃ k:Nat,k≤4∧i= .int .i64 k∧Ext w wr∧IB wr w.heap.size 29 (bfR zs k)∧IB wr (w.heap.size+1) 29 (List.replicate 16 0)) (fun i _=>4-(intOf i).toNat)
 case atStart=>exact⟨0,by omega,rfl,E1,p0,p1⟩
 case round =>
  obtain⟨k,hk,rfl,E2,q0,q1⟩:=hrel;clear p0 p1 E1
  by_cases hlt:k<4
  ·have hd:decide ((k:Int)<4)=true:=by simp;omega
   have hbk:=Lib.hid (bdA_mono (BR.out k hk) (show(268435456:Int)≤1099511627776 by omega));go_wp2_with fail
   have hcall:=butterflies_any w.heap.size (4*k) 1 (bfR zs k) wr q0 (by rw[bfR_len,Hl.out]) hbk.out (by omega) (by omega);rw[show((4*k:Nat):Int)=4*(k:Int) by omega]at hcall;refine hcall.mono ?_
   rintro e w3 ⟨rfl,i3,g3⟩
   clear hcall;go_wp2;go_roundw
   case rel=>exact⟨k+1,by omega,by go_num,Ext.grown E2 g3 (fun q hq=>by cases hq;omega),i3,q1.gr g3 (by simp)⟩
   case measure=>simp[intOf];omega
  ·have hk4:=Lib.hid (show k=4 by omega);have hd:decide ((k:Int)<4)=false:=by simp;omega
   rw[hk4.out]at q0;go_wp2_with fail
   go_loopw [12] (fun i wr=>∃ k:Nat,k≤4∧i= .int .i64 k∧Ext w wr∧IB wr w.heap.size 29 (bfC (bfR zs 4) k)∧IB wr (w.heap.size+1) 29 (List.replicate 16 0)) (fun i _=>4-(intOf i).toNat)
   case atStart=>exact⟨0,by omega,rfl,E2,q0,q1⟩
   case round =>
    obtain⟨k,hk,rfl,E3,r0,r1⟩:=hrel;clear q0 q1 E2
    by_cases hlt:k<4
    ·have hd:decide ((k:Int)<4)=true:=by simp;omega
     have hbk:=Lib.hid (bdA_mono (BC.out k hk) (show(68719476736:Int)≤1099511627776 by omega));go_wp2_with fail
     have hcall:=butterflies_any w.heap.size k 4 (bfC (bfR zs 4) k) wr r0 (by rw[bfC_len,bfR_len,Hl.out]) hbk.out (by omega) (by omega);refine hcall.mono ?_
     rintro e w3 ⟨rfl,i3,g3⟩
     clear hcall;go_wp2;go_roundw
     case rel=>exact⟨k+1,by omega,by go_num,Ext.grown E3 g3 (fun q hq=>by cases hq;omega),i3,r1.gr g3 (by simp)⟩
     case measure=>simp[intOf];omega
    ·obtain rfl:k=4:=by omega
     go_wp2_with (first|(refine wpList_iload 29 _ rfl rfl r0 0 16 rfl _ Tryz.underlying29 rfl size_A16 (by rw[HC.out];omega) _ (by rw[sub_all _ _ HC.out]) ?_)|(refine wpList_istore 29 _ _ rfl rfl r1 0 16 rfl _ rfl _ rfl size_A16 HC.out (by simp) ?_;intro w6 p6 g6;refine Hid.out ?_))
     rw[spl_all (by rw[HC.out];simp)]at p6;have E6:Ext w w6:=Ext.grown E3 g6 (fun q hq=>by cases hq;omega);refine Lib.hid ?_;go_wp2;exact bodyPost_ret (v := .agg (ic (had zs))) (results_cell_row rfl _ _ (w.heap.size+1) 29 (ic (had zs)) (0,0) _ rfl (by rw[←Hh.out];exact p6) Tryz.underlying29 rfl (by rw[ic_size,had_len];exact size_A16)) rfl ⟨rfl,E6⟩
/-- The list of f's first k numbers, zeros behind them. -/
theorem had_mix (zs:List Int) {U V:Nat} (hU:U<4) (hV:V<4):(mixI (had zs) (List.replicate 16 0) (4*U+V)).set (4*U+V) (sumZ (hadT zs U V) 16)=mixI (had zs) (List.replicate 16 0) (4*U+(V+1)):=by
 have h:=nth_had zs (4*U+V) (by omega);rw[show(4*U+V)/4=U by omega,show(4*U+V)%4=V by omega]at h;rw[←h,mixI_set _ _ _ 16 (had_len _) (by simp) (by omega),Nat.add_assoc]
theorem mul4 (J:Nat):4*(J+1)=4*J+4:=by omega
def sgnL : List Int := [1,1,1,1,1,1,-1,-1,1,-1,-1,1,1,-1,1,-1]
theorem l3Sign_any (u y:Nat) (w:World) (hu:u<4) (hy:y<4) :
 Calls Tryz.prog 182 #[.int .i64 (u:Nat),.int .i64 (y:Nat)] w fun e w'=>e= .returned (.int .i64 (sgn u y))∧w=w':=by
 have HS:=Lib.hid (show nth sgnL (4*u+y)=sgn u y from rfl);go_enter Tryz.func182,Tryz.ntmps182
 go_wp2_with (refine wpList_iindex _ _ _ rfl rfl sgnL rfl (4*u+y) 16 _ rfl (by omega) _ Tryz.underlying29 Tryz.underlying3 size_int (by omega) rfl ?_)
 go_ret
 exact⟨ret_int HS.out,rfl⟩
theorem l3Apply_any (zs:List Int) (w:World) (hl:zs.length=16) (hb:bdA 1048576 zs) :
 Calls Tryz.prog 169 #[.agg (ic zs)] w fun e w'=>e= .returned (.agg (ic (had zs)))∧Ext w w':=by
 have Hl:=Lib.hid hl;have HB:=Lib.hid hb;have hz:(List.replicate 16 (0:Int)).length=16:=by simp
 have Hz:=Lib.hid hz;clear hl hb hz;have a2:=Ext.alloc (w.alloc (.cells (ic zs) 29)) (.cells (ic (List.replicate 16 0)) 29);have a3:=Ext.alloc ((w.alloc (.cells (ic zs) 29)).alloc (.cells (ic (List.replicate 16 0)) 29)) (.cells (ic (List.replicate 16 0)) 29);have p0:=((IB.new w 29 zs).ext a2).ext a3;have p1:=(IB.new (w.alloc (.cells (ic zs) 29)) 29 (List.replicate 16 0)).ext a3;have p2:=IB.new ((w.alloc (.cells (ic zs) 29)).alloc (.cells (ic (List.replicate 16 0)) 29)) 29 (List.replicate 16 0);have E1:=((Ext.alloc w (.cells (ic zs) 29)).trans a2).trans a3;simp only[World.size_alloc]at p1 p2;clear a2 a3;go_enter Tryz.func169,Tryz.ntmps169
 go_wp2_with fail
 obtain⟨B,hB⟩:∃ B,B=w.heap.size:=⟨_,rfl⟩;try simp only[World.size_alloc]
 rw[←hB]at p0 p1 p2⊢;have hwB:w.heap.size≤B:=by omega
 have HB0:=Lib.hid hB;clear hB;go_loopw [4] (fun u wr=>∃ U:Nat,U≤4∧u= .int .i64 U∧Ext w wr∧IB wr B 29 zs∧IB wr (B+1) 29 (List.replicate 16 0)∧IB wr (B+1+1) 29 (mixI (had zs) (List.replicate 16 0) (4*U))) (fun u _=>4-(intOf u).toNat)
 case atStart=>exact⟨0,by omega,rfl,E1,p0,p1,by rw[mixI_zero];exact p2⟩
 case round =>
  obtain⟨U,hU,rfl,E2,q0,q1,q2⟩:=hrel;obtain⟨wo,rfl⟩:∃ wo:World,wo=wr:=⟨_,rfl⟩;clear p0 p1 p2 E1
  by_cases hltU:U<4
  ·have hdU:decide ((U:Int)<4)=true:=by simp;omega
   go_wp2_with fail
   go_loopw [5] (fun v wr2=>∃ V:Nat,V≤4∧v= .int .i64 V∧Ext w wr2∧IB wr2 B 29 zs∧IB wr2 (B+1) 29 (List.replicate 16 0)∧IB wr2 (B+1+1) 29 (mixI (had zs) (List.replicate 16 0) (4*U+V))) (fun v _=>4-(intOf v).toNat)
   case atStart=>exact⟨0,by omega,rfl,E2,q0,q1,q2⟩
   case round =>
    obtain⟨V,hV,rfl,E3,r0,r1,r2⟩:=hrel;obtain⟨wo2,rfl⟩:∃ wo2:World,wo2=wr:=⟨_,rfl⟩;clear q0 q1 q2 E2
    by_cases hltV:V<4
    ·have hdV:decide ((V:Int)<4)=true:=by simp;omega
     have Hmix:=Lib.hid (had_mix zs hltU hltV);have hrng:∀ t,t≤16 → -16777216≤sumZ (hadT zs U V) t∧sumZ (hadT zs U V) t≤16777216:=fun t ht=>by
      have:=sumZ_rng (f:=hadT zs U V) (B:=1048576) (n:=t) (fun i hi=>hadT_rng (HB.out i) hltU hltV (by omega));omega
     have Hrng:=Lib.hid hrng;have Hsum:=Lib.hid (fun t=>show sumZ (hadT zs U V) (t+1)=sumZ (hadT zs U V) t+sgn U (t/4)*sgn V (t%4)*nth zs t from rfl);clear hrng;obtain⟨S,hS⟩:∃ S:Nat→Int,S=sumZ (hadT zs U V):=⟨_,rfl⟩;have HS0:=Lib.hid (show S 0=0 by rw[hS];rfl);rw[←hS]at Hmix Hrng Hsum;have HS:=Lib.hid hS;clear hS;go_wp2_with fail
     go_loopw [6,7] (fun n y wr3=>∃ Y:Nat,Y≤4∧y= .int .i64 Y∧n= .int .i64 (S (4*Y))∧Ext wo2 wr3) (fun _ y _=>4-(intOf y).toNat)
     case atStart=>exact⟨0,by omega,rfl,by rw[Nat.mul_zero,HS0.out],Below.refl _ _⟩
     case round =>
      obtain⟨Y,hY,rfl,rfl,E4⟩:=hrel;obtain⟨wo3,rfl⟩:∃ wo3:World,wo3=wr:=⟨_,rfl⟩
      by_cases hltY:Y<4
      ·have hdY:decide ((Y:Int)<4)=true:=by simp;omega
       go_wp2_with fail
       go_loopw [6,8] (fun n x wr4=>∃ X:Nat,X≤4∧x= .int .i64 X∧n= .int .i64 (S (4*Y+X))∧Ext wo2 wr4) (fun _ x _=>4-(intOf x).toNat)
       case atStart=>exact⟨0,by omega,rfl,rfl,E4⟩
       case round =>
        obtain⟨X,hX,rfl,rfl,E5⟩:=hrel;obtain⟨wo4,rfl⟩:∃ wo4:World,wo4=wr:=⟨_,rfl⟩;clear E4
        by_cases hltX:X<4
        ·have hdX:decide ((X:Int)<4)=true:=by simp;omega
         have hn0:=Hrng.out (4*Y+X) (by omega);have hsm:=Hsum.out (4*Y+X);rw[show(4*Y+X)/4=Y by omega,show(4*Y+X)%4=X by omega]at hsm;have g1:=sgn_one hltU hltY;have g2:=sgn_one hltV hltX;have hz:=HB.out (4*Y+X);have hc:=(r0.ext E5).cell (i:=4*Y+X) (by rw[Hl.out];omega);have C:=Lib.hid hc;have HA1:=Lib.hid (fun w=>l3Sign_any U Y w hltU hltY);have HA2:=Lib.hid (fun w=>l3Sign_any V X w hltV hltX);generalize sgn U Y=s1 at *;generalize sgn V X=s2 at *;generalize nth zs (4*Y+X)=z at *;have hp : -1≤s1*s2∧s1*s2≤1:=by rcases g1 with h|h <;> rcases g2 with h2|h2 <;> rw[h,h2] <;> omega
         have hpz : -1048576≤s1*s2*z∧s1*s2*z≤1048576:=by rcases g1 with h|h <;> rcases g2 with h2|h2 <;> rw[h,h2] <;> omega
         have Hsm:=Lib.hid hsm;have Hnx:=Lib.hid (Hrng.out (4*Y+X+1) (by omega));obtain⟨N,hN⟩:∃ N,N=S (4*Y+X):=⟨_,rfl⟩;rw[←hN]at hn0 Hsm⊢;have HN:=Lib.hid hN;clear hsm hc hN g1 g2;go_wp2_with fail
         refine wp_region_inv2 (by kernel_rfl) [(6,16),(26,0),(27,1),(28,2),(29,3),(30,4),(31,5),(32,6),(33,7),(34,8),(35,9),(36,10),(37,11),(38,12),(39,13),(40,14),(41,15)] [[],[],[],[1,2],[],[],[1,2,3,4,5],[1,2,3,4,5,6],[],[8],[],[8,9,10],[8,9,10,11],[8,9,10,11,12],[1,2,3,4,5,6,7,8,9,10,11,12,13],[0,1,2,3,4,5,6,7,8,9,10,11,12,13,14],[0,1,2,3,4,5,6,7,8,9,10,11,12,13,14,15]] (fun i own ys wx=>match i with|0=>own= .int .i64 N|1=>own= .int .i64 (U:Nat)|2=>own= .int .i64 (Y:Nat)|3=>own= .int .i64 s1|4=>own= .int .i64 (V:Nat)|5=>own= .int .i64 (X:Nat)|6=>own= .int .i64 s2|7=>own= .int .i64 (s1*s2)|8=>own= .int .i64 (Y:Nat)|9=>own= .int .i64 (4*(Y:Int))|10=>own= .int .i64 (X:Nat)|11=>own= .int .i64 (4*(Y:Int)+(X:Int))|12=>own= .pointer (some ⟨B,4*Y+X,none⟩)|13=>own= .int .i64 z|14=>own= .int .i64 (s1*s2*z)|15=>own= .int .i64 (N+s1*s2*z)|16=>own= .int .i64 (N+s1*s2*z)|_=>True) (fun kx wx=>Ext wo4 wx) (by kernel_rfl) (by kernel_rfl) (by kernel_rfl) ?g0_r1 ?gop_r1 ?gend_r1
         case g0_r1=>exact Ext.drewN _ 1
         case gop_r1 =>
          refine⟨?o0,?_,?_,?o3,?_,?_,?o6,?o7,?_,?o9,?_,?o11,?o12,?o13,?o14,?o15,?o16,trivial⟩ <;> (intro kx xs wx hk hG hD hI Qo Kx hK hQo;simp only[patchS,Nat.reduceAdd,Nat.reduceEqDiff,↓reduceIte]at hQo⊢)
          case o0 =>
           have i16:=hI 16 6 rfl rfl;simp only[List.getD_cons_succ,List.getD_cons_zero]at i16;clear hD hI;rw[i16]at hQo⊢;clear i16;go_wp2;exact hK.out _ _ ⟨rfl,hG,kkp⟩
          case o3 =>
           rw[ddq (hD 1 rfl),ddq (hD 2 rfl)]at hQo⊢;clear hD hI;go_wp2_with fail
           refine(HA1.out _).mono ?_
           rintro e w9 ⟨rfl,rfl⟩
           go_wp2;exact hK.out _ _ ⟨rfl,hG,kkp⟩
          case o6 =>
           rw[ddq (hD 4 rfl),ddq (hD 5 rfl)]at hQo⊢;clear hD hI;go_wp2_with fail
           refine(HA2.out _).mono ?_
           rintro e w9 ⟨rfl,rfl⟩
           go_wp2;exact hK.out _ _ ⟨rfl,hG,kkp⟩
          case o7 =>
           rw[ddq (hD 3 rfl),ddq (hD 6 rfl)]at hQo⊢;clear hD hI;go_wp2;exact hK.out _ _ ⟨rfl,hG,kkp⟩
          case o9 =>
           rw[ddq (hD 8 rfl)]at hQo⊢;clear hD hI;go_wp2;exact hK.out _ _ ⟨rfl,hG,kkp⟩
          case o11 =>
           rw[ddq (hD 9 rfl),ddq (hD 10 rfl)]at hQo⊢;clear hD hI;go_wp2;exact hK.out _ _ ⟨rfl,hG,kkp⟩
          case o12 =>
           rw[ddq (hD 11 rfl)]at hQo⊢;clear hD hI;go_wp2;exact hK.out _ _ ⟨rfl,hG,kkp⟩
          case o13 =>
           rw[ddq (hD 12 rfl)]at hQo⊢;clear hD hI;have cx:=cell_ext hG C.out;go_wp2;exact hK.out _ _ ⟨rfl,hG,kkp⟩
          case o14 =>
           rw[ddq (hD 7 rfl),ddq (hD 13 rfl)]at hQo⊢;clear hD hI;go_wp2;exact hK.out _ _ ⟨rfl,hG,kkp⟩
          case o15 =>
           rw[ddq (hD 0 rfl),ddq (hD 14 rfl)]at hQo⊢;clear hD hI;go_wp2;exact hK.out _ _ ⟨rfl,hG,kkp⟩
          case o16 =>
           rw[ddq (hD 15 rfl)]at hQo⊢;clear hD hI;go_wp2;exact hK.out _ _ ⟨rfl,hG,kkp⟩
          all_goals
           clear hD hI;go_wp2;exact hK.out _ _ ⟨rfl,hG,kkp⟩
         intro xs wx hV hG;have d16:_=_:=hV 16 (by decide);clear hV;simp only[patchS,Nat.reduceAdd,Nat.reduceEqDiff,↓reduceIte];generalize xs 0=y0,xs 1=y1,xs 2=y2,xs 3=y3,xs 4=y4,xs 5=y5,xs 6=y6,xs 7=y7,xs 8=y8,xs 9=y9,xs 10=y10,xs 11=y11,xs 12=y12,xs 13=y13,xs 14=y14,xs 15=y15,xs 16=y16 at *
         replace hG:Ext wo4 wx:=hG
         subst d16;go_wp2;go_roundw
         case rel=>exact⟨X+1,by omega,by go_num,by rw[←Nat.add_assoc,Hsm.out],E5.trans hG⟩
         case measure=>simp[intOf];omega
        ·obtain rfl:X=4:=by omega
         go_wp2;go_roundw
         case rel=>exact⟨Y+1,by omega,by go_num,by rw[mul4],E5⟩
         case measure=>simp[intOf];omega
      ·obtain rfl:Y=4:=by omega
       have hn0:=Hrng.out (4*4) (by omega);have r2':=r2.ext E4;have cB:=r2'.cell (i:=4*U+V) (by rw[mixI_len _ _ _ 16 (had_len _) Hz.out];omega);have fB:=r2'.frozen (4*U+V);go_wp2;go_roundw
       case rel =>
        have s2':=r2'.set (4*U+V) (S (4*4));rw[show 4*4=16 from rfl,Hmix.out]at s2';exact⟨V+1,by omega,by go_num,Ext.grown (E3.trans E4) (gr_set _ _ _ _) (fun q hq=>by cases hq;omega),(r0.ext E4).set_other (by omega),(r1.ext E4).set_other (by omega),s2'⟩
       case measure=>simp[intOf];omega
    ·obtain rfl:V=4:=by omega
     go_wp2;go_roundw
     case rel=>exact⟨U+1,by omega,by go_num,E3,r0,r1,by rw[mul4];exact r2⟩
     case measure=>simp[intOf];omega
  ·obtain rfl:U=4:=by omega
   rw[show 4*4=16 from rfl,mixI_all _ _ 16 (had_len _) Hz.out]at q2;have HL:=Lib.hid (had_len zs);go_wp2_with (first|(refine wpList_iload 29 _ rfl rfl q2 0 16 rfl _ Tryz.underlying29 rfl size_A16 (by rw[HL.out];omega) _ (by rw[sub_all _ _ HL.out]) ?_)|(refine wpList_istore 29 _ _ rfl rfl q1 0 16 rfl _ rfl _ rfl size_A16 HL.out (by simp) ?_;intro w6 p6 g6;refine Hid.out ?_))
   rw[spl_all (by rw[HL.out];simp)]at p6;have E6:Ext w w6:=Ext.grown E2 g6 (fun q hq=>by cases hq;omega);refine Lib.hid ?_;go_wp2;exact bodyPost_ret (v := .agg (ic (had zs))) (results_cell_row rfl _ _ (B+1) 29 (ic (had zs)) (0,0) _ rfl p6 Tryz.underlying29 rfl (by rw[ic_size,had_len];exact size_A16)) rfl ⟨rfl,E6⟩
theorem spec_l3Ok_any (zs:List Int) (B:Int) (w:World) (hl:zs.length=16) (hB:0≤B) (hB2:B≤1099511627776) :
 Calls Tryz.prog 137 #[.agg (ic zs),.int .i64 B] w fun e w'=>e= .returned (.bool (inB B zs))∧Ext w w':=by
 have H:=IB.new w 29 zs;have Hl:=Lib.hid hl;clear hl;go_enter Tryz.func137,Tryz.ntmps137
 go_wp2;go_loopw [5] (fun i wr=>∃ k:Nat,k≤16∧i= .int .i64 k∧Ext w wr∧IB wr w.heap.size 29 zs∧Hid (∀ j,j<k → -B≤nth zs j∧nth zs j≤B)) (fun i _=>16-(intOf i).toNat)
 case atStart=>exact⟨0,by omega,rfl,Ext.alloc _ _,H,Lib.hid (fun j hj=>by omega)⟩
 case round =>
  obtain⟨k,hk,rfl,E2,H2,hall⟩:=hrel;clear H
  by_cases hlt:k<16
  ·have hc:=H2.cell (i:=k) (by rw[Hl.out];exact hlt)
   by_cases h1 : -B≤nth zs k∧nth zs k≤B
   ·have hall2:=Lib.hid (show ∀ j,j<k+1 → -B≤nth zs j∧nth zs j≤B from fun j hj=>by
     by_cases hjk:j=k
     ·subst hjk;exact h1
     ·exact hall.out j (by omega))
    go_wp2_with fail
    refine(l1In_yes _ _ _ _ h1.1 h1.2).mono ?_
    rintro e w1 ⟨rfl,rfl⟩
    clear h1;go_wp2;go_roundw
    case rel=>exact⟨k+1,by omega,by go_num,E2,H2,hall2⟩
    case measure=>simp[intOf];omega
   ·have hno:=Lib.hid (inB_no (B:=B) (j:=k) (by rw[Hl.out];exact hlt) (by omega));have h2:=Lib.hid (show nth zs k < -B∨B<nth zs k by omega);clear h1;go_wp2_with fail
    refine(l1In_no _ _ _ _ h2.out).mono ?_
    rintro e w1 ⟨rfl,rfl⟩
    go_wp2;go_ret
    exact⟨(ret_bool hno.out).symm,E2⟩
  ·obtain rfl:k=16:=by omega
   have hy:=Lib.hid (inB_yes (B:=B) (zs:=zs) (by rw[Hl.out];exact hall.out));go_wp2;go_ret
   exact⟨(ret_bool hy.out).symm,E2⟩
theorem nth_mixR {xs ys:List Int} {n k j:Nat} (h1:xs.length=n) (h2:ys.length=n) (hj:k≤j) (hk:j<n):nth (mixI xs ys k) j=nth ys j:=by
 unfold nth mixI;have hl:(xs.take k).length=k:=by simp;omega
 rw[List.getD_eq_getElem?_getD,List.getElem?_append_right (by omega),List.getElem?_drop,hl,show k+(j-k)=j by omega,←List.getD_eq_getElem?_getD]
theorem nth_ihad (b:List Int) {k:Nat} (h:k<16):nth (ihad b) k=(nth (had b) k+8)/16:=by
 have h1:k<(had b).length:=by rw[had_len];exact h
 rw[nth_eq _ _ h1,nth_eq _ _ (by rw[ihad_len];exact h)];simp[ihad]
theorem had_bdA {b:List Int} (h:bdA 1048576 b):bdA 16777216 (had b):=bdA_of (by omega) fun j hj=>by
 rw[had_len]at hj;have:=had_rng (b:=b) (B:=1048576) (fun t _=>h t) hj;omega
theorem inB_bdA {b:List Int} {B M:Int} (hB:0≤M) (h:inB B b=true) (hm:B≤M):bdA M b:=bdA_of hB fun j hj=>by
 have:=inB_iff.1 h j hj;omega
theorem nth_map_dq (zs:List Int) (q:Nat) {k:Nat} (h:k<zs.length):nth (zs.map (fun x=>dq x q)) k=dq (nth zs k) q:=by simp[nth,h]
theorem dqs_rng (zs:List Int) (q:Nat):inB 4080 (zs.map (fun x=>dq x q))=true:=inB_yes fun j hj=>by
 rw[nth_map_dq _ _ (by simpa using hj)];exact dq_rng _ _
theorem ne_blk {a b:Nat} (h:a<b):(some b:Option Nat)≠some a:=by simp;omega
theorem l3Round_any (n:Int) (w:World) (h1 : -1099511627776≤n) (h2:n≤1099511627776) :
 Calls Tryz.prog 180 #[.int .i64 n,.int .i64 16] w fun e w'=>e= .returned (.int .i64 ((n+8)/16))∧w=w':=by
 by_cases h0:0≤n+8
 ·have hd0:decide ((n+8)%16<0)=false:=by
   have:=Int.emod_nonneg (n+8) (show(16:Int)≠0 by omega);simp;omega
  go_enter Tryz.func180,Tryz.ntmps180
  go_wp2;go_ret
  exact⟨rfl,rfl⟩
 ·obtain⟨t1,t2,t3,t4⟩:=tdiv_floor (by omega:n+8<0) (show(1:Int)≤16 by omega);have T3:=Lib.hid t3;have T4:=Lib.hid t4;clear t3 t4
  by_cases hm:(n+8).tmod 16<0
  ·have hd0:decide ((n+8).tmod 16<0)=true:=by simpa using hm
   go_enter Tryz.func180,Tryz.ntmps180
   go_wp2;go_ret
   exact⟨ret_int (T3.out hm),rfl⟩
  ·have hd0:decide ((n+8).tmod 16<0)=false:=by simpa using hm
   go_enter Tryz.func180,Tryz.ntmps180
   go_wp2;go_ret
   exact⟨ret_int (T4.out hm),rfl⟩
theorem l3Inverse_any (zs:List Int) (w:World) (hl:zs.length=16) (hb:bdA 1048576 zs) :
 Calls Tryz.prog 165 #[.agg (ic zs)] w fun e w'=>e= .returned (.agg (ic (ihad zs)))∧Ext w w':=by
 have Hl:=Lib.hid hl;have HB:=Lib.hid hb;have HH:=Lib.hid (had_len zs);have HI:=Lib.hid (ihad_len zs);have Hbd:=Lib.hid (had_bdA hb);clear hl hb;have a2:=Ext.alloc (w.alloc (.cells (ic zs) 29)) (.cells (ic (List.replicate 16 0)) 29);have p0:=(IB.new w 29 zs).ext a2;have p1:=IB.new (w.alloc (.cells (ic zs) 29)) 29 (List.replicate 16 0);have E1:=(Ext.alloc w (.cells (ic zs) 29)).trans a2;simp only[World.size_alloc]at p1;clear a2;go_enter Tryz.func165,Tryz.ntmps165
 go_wp2_with (refine wpList_iload 29 _ rfl rfl p0 0 16 rfl _ Tryz.underlying29 rfl size_A16 (by rw[Hl.out];omega) _ (by rw[sub_all _ _ (Hl.out)]) ?_)
 obtain⟨B,hB⟩:∃ B,B=w.heap.size:=⟨_,rfl⟩;rw[←hB]at p0 p1⊢;have hwB:w.heap.size≤B:=by omega
 have HB0:=Lib.hid hB;clear hB;refine(l3Apply_any zs _ Hl.out HB.out).mono ?_
 rintro e w1 ⟨rfl,e1⟩
 have q0:=p0.ext e1;have q1:=p1.ext e1;have E2:=E1.trans e1;have q2:=IB.new w1 29 (List.replicate 16 0);have l1:=q1.lt;have q1a:=q1.alloc (.cells (ic (List.replicate 16 0)) 29);have q0a:=q0.alloc (.cells (ic (List.replicate 16 0)) 29);have E2a:=E2.trans (Ext.alloc w1 (.cells (ic (List.replicate 16 0)) 29));have hs2:=E2.size;clear p0 p1 E1 e1 q0 q1 E2;go_wp2_with (refine wpList_istore 29 _ _ rfl rfl q2 0 16 rfl _ rfl _ rfl size_A16 (HH.out) (by simp) ?_;intro w2 i2 g2;refine Hid.out ?_)
 rw[spl_all (by rw[HH.out];simp)]at i2;have E3:Ext w w2:=Ext.grown E2a g2 (fun k e=>by cases e;omega);have q0:=q0a.gr g2 (ne_blk (by omega));have q1:=q1a.gr g2 (ne_blk (by omega));obtain⟨O,hO⟩:∃ O,O=w1.heap.size:=⟨_,rfl⟩;rw[←hO]at i2 l1⊢;have hwO:w.heap.size≤O:=by omega
 have HO:=Lib.hid hO;clear hO hs2 q0a q1a E2a q2 g2;refine Lib.hid ?_;go_wp2_with fail
 go_loopw [4] (fun i wr=>∃ k:Nat,k≤16∧i= .int .i64 k∧Ext w wr∧IB wr (B+1) 29 (List.replicate 16 0)∧IB wr O 29 (mixI (ihad zs) (had zs) k)) (fun i _=>16-(intOf i).toNat)
 case atStart=>exact⟨0,by omega,rfl,E3,q1,by rw[mixI_zero];exact i2⟩
 case round =>
  obtain⟨k,hk,rfl,E4,r1,r2⟩:=hrel;clear q0 q1 i2 E3
  by_cases hlt:k<16
  ·have hd:decide ((k:Int)<16)=true:=by simp;omega
   have c0:=r2.cell (i:=k) (by rw[mixI_len _ _ _ 16 HI.out HH.out];exact hlt);rw[nth_mixR HI.out HH.out (Nat.le_refl _) hlt]at c0;have f0:=r2.frozen k;have hbk:=Hbd.out k;have hset:=mixI_set (ihad zs) (had zs) k 16 HI.out HH.out hlt;rw[nth_ihad _ hlt]at hset;have Hset:=Lib.hid hset;clear hset;generalize nth (had zs) k=z at *;go_wp2_with fail
   refine(l3Round_any z _ (by omega) (by omega)).mono ?_
   rintro e w3 ⟨rfl,rfl⟩
   go_wp2;go_roundw
   case rel=>exact⟨k+1,by omega,by go_num,Ext.grown E4 (gr_set _ _ _ _) (fun q hq=>by cases hq;omega),r1.set_other (by omega),by rw[←Hset.out];exact r2.set k _⟩
   case measure=>simp[intOf];omega
  ·obtain rfl:k=16:=by omega
   rw[mixI_all _ _ 16 HI.out HH.out]at r2;go_wp2_with (first|(refine wpList_iload 29 _ rfl rfl r2 0 16 rfl _ Tryz.underlying29 rfl size_A16 (by rw[HI.out];omega) _ (by rw[sub_all _ _ (HI.out)]) ?_)|(refine wpList_istore 29 _ _ rfl rfl r1 0 16 rfl _ rfl _ rfl size_A16 (HI.out) (by simp) ?_;intro w6 p6 g6;refine Hid.out ?_))
   rw[spl_all (by rw[HI.out];simp)]at p6;have E6:Ext w w6:=Ext.grown E4 g6 (fun q hq=>by cases hq;omega);refine Lib.hid ?_;go_wp2;exact bodyPost_ret (v := .agg (ic (ihad zs))) (results_cell_row rfl _ _ (B+1) 29 (ic (ihad zs)) (0,0) _ rfl p6 Tryz.underlying29 rfl (by rw[ic_size,ihad_len];exact size_A16)) rfl ⟨rfl,E6⟩
theorem InverseTransform_any (zs:List Int) (w:World) (hl:zs.length=16) (hb:inB 4080 zs=true) :
 Calls Tryz.prog 127 #[.agg (ic zs)] w fun e w'=>e= .returned (.agg (ic (ihad zs)))∧Ext w w':=by
 have hbA:=inB_bdA (M:=1048576) (by omega) hb (by omega);have Hl:=Lib.hid hl;have HB:=Lib.hid hbA;have HW:=Lib.hid hb;have HH:=Lib.hid (had_len zs);have HI:=Lib.hid (ihad_len zs);have Hbd:=Lib.hid (had_bdA hbA);clear hl hb hbA;have a2:=Ext.alloc (w.alloc (.cells (ic zs) 29)) (.cells (ic (List.replicate 16 0)) 29);have p0:=(IB.new w 29 zs).ext a2;have p1:=IB.new (w.alloc (.cells (ic zs) 29)) 29 (List.replicate 16 0);have E1:=(Ext.alloc w (.cells (ic zs) 29)).trans a2;simp only[World.size_alloc]at p1;clear a2;go_enter Tryz.func127,Tryz.ntmps127
 go_wp2_with (refine wpList_iload 29 _ rfl rfl p0 0 16 rfl _ Tryz.underlying29 rfl size_A16 (by rw[Hl.out];omega) _ (by rw[sub_all _ _ (Hl.out)]) ?_)
 obtain⟨B,hB⟩:∃ B,B=w.heap.size:=⟨_,rfl⟩;rw[←hB]at p0 p1⊢;have hwB:w.heap.size≤B:=by omega
 have HB0:=Lib.hid hB;clear hB;refine(impl_blockWithin_any zs 4080 _ Hl.out (by omega) (by omega)).mono ?_;rw[HW.out]
 rintro e w0 ⟨rfl,e0⟩
 have p0a:=p0.ext e0;have p1a:=p1.ext e0;have E0a:=E1.trans e0;clear p0 p1 E1 e0;have p0:=p0a;have p1:=p1a;have E1:=E0a;clear p0a p1a E0a;go_wp2_with (refine wpList_iload 29 _ rfl rfl p0 0 16 rfl _ Tryz.underlying29 rfl size_A16 (by rw[Hl.out];omega) _ (by rw[sub_all _ _ (Hl.out)]) ?_)
 refine(hadamard_any zs _ Hl.out HB.out).mono ?_
 rintro e w1 ⟨rfl,e1⟩
 have q0:=p0.ext e1;have q1:=p1.ext e1;have E2:=E1.trans e1;have q2:=IB.new w1 29 (List.replicate 16 0);have l1:=q1.lt;have q1a:=q1.alloc (.cells (ic (List.replicate 16 0)) 29);have q0a:=q0.alloc (.cells (ic (List.replicate 16 0)) 29);have E2a:=E2.trans (Ext.alloc w1 (.cells (ic (List.replicate 16 0)) 29));have hs2:=E2.size;clear p0 p1 E1 e1 q0 q1 E2;go_wp2_with (refine wpList_istore 29 _ _ rfl rfl q2 0 16 rfl _ rfl _ rfl size_A16 (HH.out) (by simp) ?_;intro w2 i2 g2;refine Hid.out ?_)
 rw[spl_all (by rw[HH.out];simp)]at i2;have E3:Ext w w2:=Ext.grown E2a g2 (fun k e=>by cases e;omega);have q0:=q0a.gr g2 (ne_blk (by omega));have q1:=q1a.gr g2 (ne_blk (by omega));obtain⟨O,hO⟩:∃ O,O=w1.heap.size:=⟨_,rfl⟩;rw[←hO]at i2 l1⊢;have hwO:w.heap.size≤O:=by omega
 have HO:=Lib.hid hO;clear hO hs2 q0a q1a E2a q2 g2;refine Lib.hid ?_;go_wp2_with (refine wpList_iload 29 _ rfl rfl i2 0 16 rfl _ Tryz.underlying29 rfl size_A16 (by rw[HH.out];omega) _ (by rw[sub_all _ _ (HH.out)]) ?_)
 go_loopw [13] (fun i wr=>∃ k:Nat,k≤16∧i= .int .i64 k∧Ext w wr∧IB wr (B+1) 29 (List.replicate 16 0)∧IB wr O 29 (mixI (ihad zs) (had zs) k)) (fun i _=>16-(intOf i).toNat)
 case atStart=>exact⟨0,by omega,rfl,E3,q1,by rw[mixI_zero];exact i2⟩
 case round =>
  obtain⟨k,hk,rfl,E4,r1,r2⟩:=hrel;clear q0 q1 i2 E3
  by_cases hlt:k<16
  ·have hd:decide ((k:Int)<16)=true:=by simp;omega
   have c0:=r2.cell (i:=k) (by rw[mixI_len _ _ _ 16 HI.out HH.out];exact hlt);have f0:=r2.frozen k;have hbk:=Hbd.out k;have hset:=mixI_set (ihad zs) (had zs) k 16 HI.out HH.out hlt;rw[nth_ihad _ hlt]at hset;have Hset:=Lib.hid hset;clear hset;go_wp2_with (refine wpList_iindex _ _ _ rfl rfl (had zs) rfl k 16 _ rfl rfl _ Tryz.underlying29 Tryz.underlying3 size_int hlt HH.out ?_)
   go_roundw
   case rel=>exact⟨k+1,by omega,by go_num,Ext.grown E4 (gr_set _ _ _ _) (fun q hq=>by cases hq;omega),r1.set_other (by omega),by rw[←Hset.out];exact r2.set k _⟩
   case measure=>simp[intOf];omega
  ·obtain rfl:k=16:=by omega
   rw[mixI_all _ _ 16 HI.out HH.out]at r2;go_wp2_with (first|(refine wpList_iload 29 _ rfl rfl r2 0 16 rfl _ Tryz.underlying29 rfl size_A16 (by rw[HI.out];omega) _ (by rw[sub_all _ _ (HI.out)]) ?_)|(refine wpList_istore 29 _ _ rfl rfl r1 0 16 rfl _ rfl _ rfl size_A16 (HI.out) (by simp) ?_;intro w6 p6 g6;refine Hid.out ?_))
   rw[spl_all (by rw[HI.out];simp)]at p6;have E6:Ext w w6:=Ext.grown E4 g6 (fun q hq=>by cases hq;omega);refine Lib.hid ?_;go_wp2;exact bodyPost_ret (v := .agg (ic (ihad zs))) (results_cell_row rfl _ _ (B+1) 29 (ic (ihad zs)) (0,0) _ rfl p6 Tryz.underlying29 rfl (by rw[ic_size,ihad_len];exact size_A16)) rfl ⟨rfl,E6⟩
theorem impl_CodeBlock_any (zs:List Int) (q:Nat) (w:World) (hT:TabQ w) (hl:zs.length=16) (hb:inB 255 zs=true) (hq:q<16) :
 Calls Tryz.prog 69 #[.agg (ic zs),.int .i64 q] w fun e w'=>e= .returned (.agg (ic (cod zs q)))∧Ext w w':=by
 have hbA:=inB_bdA (M:=1048576) (by omega) hb (by omega);have Hbd:=Lib.hid (fun k (hk:k<16)=>had_255 hl hb hk);have Hl:=Lib.hid hl;have HB:=Lib.hid hbA;have HW:=Lib.hid hb;have HT:=Lib.hid hT;have HH:=Lib.hid (had_len zs);have HI:=Lib.hid (cod_len zs q);clear hl hb hbA hT;have a2:=Ext.alloc (w.alloc (.cells (ic zs) 29)) (.cells (ic (List.replicate 16 0)) 29);have p0:=(IB.new w 29 zs).ext a2;have p1:=IB.new (w.alloc (.cells (ic zs) 29)) 29 (List.replicate 16 0);have E1:=(Ext.alloc w (.cells (ic zs) 29)).trans a2;simp only[World.size_alloc]at p1;clear a2;go_enter Tryz.func69,Tryz.ntmps69
 go_wp2_with fail
 obtain⟨B,hB⟩:∃ B,B=w.heap.size:=⟨_,rfl⟩;rw[←hB]at p0 p1⊢;have hwB:w.heap.size≤B:=by omega
 have HB0:=Lib.hid hB;clear hB;refine(qualityValid_in _ _ (by omega) (by omega)).mono ?_
 rintro e w0 ⟨rfl,rfl⟩
 go_wp2_with (refine wpList_iload 29 _ rfl rfl p0 0 16 rfl _ Tryz.underlying29 rfl size_A16 (by rw[Hl.out];omega) _ (by rw[sub_all _ _ (Hl.out)]) ?_)
 refine(impl_blockWithin_any zs 255 _ Hl.out (by omega) (by omega)).mono ?_;rw[HW.out]
 rintro e w0 ⟨rfl,e0⟩
 have p0a:=p0.ext e0;have p1a:=p1.ext e0;have E0a:=E1.trans e0;clear p0 p1 E1 e0;have p0:=p0a;have p1:=p1a;have E1:=E0a;clear p0a p1a E0a;go_wp2_with (refine wpList_iload 29 _ rfl rfl p0 0 16 rfl _ Tryz.underlying29 rfl size_A16 (by rw[Hl.out];omega) _ (by rw[sub_all _ _ (Hl.out)]) ?_)
 refine(hadamard_any zs _ Hl.out HB.out).mono ?_
 rintro e w1 ⟨rfl,e1⟩
 have q0:=p0.ext e1;have q1:=p1.ext e1;have E2:=E1.trans e1;have q2:=IB.new w1 29 (List.replicate 16 0);have l1:=q1.lt;have q1a:=q1.alloc (.cells (ic (List.replicate 16 0)) 29);have q0a:=q0.alloc (.cells (ic (List.replicate 16 0)) 29);have E2a:=E2.trans (Ext.alloc w1 (.cells (ic (List.replicate 16 0)) 29));have hs2:=E2.size;clear p0 p1 E1 e1 q0 q1 E2;go_wp2_with (refine wpList_istore 29 _ _ rfl rfl q2 0 16 rfl _ rfl _ rfl size_A16 (HH.out) (by simp) ?_;intro w2 i2 g2;refine Hid.out ?_)
 rw[spl_all (by rw[HH.out];simp)]at i2;have E3:Ext w w2:=Ext.grown E2a g2 (fun k e=>by cases e;omega);have q0:=q0a.gr g2 (ne_blk (by omega));have q1:=q1a.gr g2 (ne_blk (by omega));obtain⟨O,hO⟩:∃ O,O=w1.heap.size:=⟨_,rfl⟩;rw[←hO]at i2 l1⊢;have hwO:w.heap.size≤O:=by omega
 have HO:=Lib.hid hO;clear hO hs2 q0a q1a E2a q2 g2;refine Lib.hid ?_;go_wp2_with (refine wpList_iload 29 _ rfl rfl i2 0 16 rfl _ Tryz.underlying29 rfl size_A16 (by rw[HH.out];omega) _ (by rw[sub_all _ _ (HH.out)]) ?_)
 go_loopw [20] (fun i wr=>∃ k:Nat,k≤16∧i= .int .i64 k∧Ext w wr∧IB wr (B+1) 29 (List.replicate 16 0)∧IB wr O 29 (mixI (cod zs q) (had zs) k)) (fun i _=>16-(intOf i).toNat)
 case atStart=>exact⟨0,by omega,rfl,E3,q1,by rw[mixI_zero];exact i2⟩
 case round =>
  obtain⟨k,hk,rfl,E4,r1,r2⟩:=hrel;clear q0 q1 i2 E3
  by_cases hlt:k<16
  ·have hd:decide ((k:Int)<16)=true:=by simp;omega
   have hbk:=Hbd.out k hlt;have hset:=mixI_set (cod zs q) (had zs) k 16 HI.out HH.out hlt;rw[nth_cod _ _ hlt]at hset;have Hset:=Lib.hid hset;clear hset;go_wp2_with (refine wpList_iindex _ _ _ rfl rfl (had zs) rfl k 16 _ rfl rfl _ Tryz.underlying29 Tryz.underlying3 size_int hlt HH.out ?_)
   refine(impl_Quantize_in (nth (had zs) k) q _ (HT.out.ext E4) hbk.1 hbk.2 hq).mono ?_
   rintro e w3 ⟨rfl,m3,rfl⟩
   have E5:=Ext.trans_drewN E4 m3;have s1:=r1.drewN m3;have s2:=r2.drewN m3;have c0:=s2.cell (i:=k) (by rw[mixI_len _ _ _ 16 HI.out HH.out];exact hlt);have f0:=s2.frozen k;clear r1 r2 E4;generalize wr.drewN m3=w4 at *;go_wp2;go_roundw
   case rel=>exact⟨k+1,by omega,by go_num,Ext.grown E5 (gr_set _ _ _ _) (fun q hq=>by cases hq;omega),s1.set_other (by omega),by rw[←Hset.out];exact s2.set k _⟩
   case measure=>simp[intOf];omega
  ·obtain rfl:k=16:=by omega
   rw[mixI_all _ _ 16 HI.out HH.out]at r2;go_wp2_with (first|(refine wpList_iload 29 _ rfl rfl r2 0 16 rfl _ Tryz.underlying29 rfl size_A16 (by rw[HI.out];omega) _ (by rw[sub_all _ _ (HI.out)]) ?_)|(refine wpList_istore 29 _ _ rfl rfl r1 0 16 rfl _ rfl _ rfl size_A16 (HI.out) (by simp) ?_;intro w6 p6 g6;refine Hid.out ?_))
   rw[spl_all (by rw[HI.out];simp)]at p6;have E6:Ext w w6:=Ext.grown E4 g6 (fun q hq=>by cases hq;omega);refine Lib.hid ?_;go_wp2;exact bodyPost_ret (v := .agg (ic (cod zs q))) (results_cell_row rfl _ _ (B+1) 29 (ic (cod zs q)) (0,0) _ rfl p6 Tryz.underlying29 rfl (by rw[ic_size,cod_len];exact size_A16)) rfl ⟨rfl,E6⟩
theorem ifT {α:Type} (x y:α):(if true=true then x else y)=x:=rfl
theorem ifF {α:Type} (x y:α):(if false=true then x else y)=y:=rfl
theorem DecodeBlock_any (zs:List Int) (q:Nat) (w:World) (hT:TabQ w) (hl:zs.length=16) (hb:inB 4080 zs=true) (hq:q<16) :
 Calls Tryz.prog 79 #[.agg (ic zs),.int .i64 q] w fun e w'=>e= .returned (.agg (ic (dec zs q)))∧Ext w w':=by
 have Hbd:=Lib.hid (fun k (hk:k<16)=>inB_iff.1 hb k (by omega));have Hnd:=Lib.hid (fun k (hk:k<16)=>nth_map_dq zs q (k:=k) (by omega));have HD:=Lib.hid (show(zs.map (fun x=>dq x q)).length=16 by simp[hl]);have HDr:=Lib.hid (dqs_rng zs q);have Hde:=Lib.hid (show dec zs q=ihad (zs.map (fun x=>dq x q))from rfl);obtain⟨D,hD⟩:∃ D,D=zs.map (fun x=>dq x q):=⟨_,rfl⟩;rw[←hD]at Hnd HD HDr Hde;have Hl:=Lib.hid hl;have HW:=Lib.hid hb;have HT:=Lib.hid hT;clear hl hb hT hD;have a2:=Ext.alloc (w.alloc (.cells (ic zs) 29)) (.cells (ic (List.replicate 16 0)) 29);have p0:=(IB.new w 29 zs).ext a2;have p1:=IB.new (w.alloc (.cells (ic zs) 29)) 29 (List.replicate 16 0);have E1:=(Ext.alloc w (.cells (ic zs) 29)).trans a2;simp only[World.size_alloc]at p1;clear a2;go_enter Tryz.func79,Tryz.ntmps79
 go_wp2_with fail
 obtain⟨B,hB⟩:∃ B,B=w.heap.size:=⟨_,rfl⟩;rw[←hB]at p0 p1⊢;have hwB:w.heap.size≤B:=by omega
 have HB0:=Lib.hid hB;clear hB;refine(qualityValid_in _ _ (by omega) (by omega)).mono ?_
 rintro e w0 ⟨rfl,rfl⟩
 go_wp2_with (refine wpList_iload 29 _ rfl rfl p0 0 16 rfl _ Tryz.underlying29 rfl size_A16 (by rw[Hl.out];omega) _ (by rw[sub_all _ _ (Hl.out)]) ?_)
 refine(impl_blockWithin_any zs 4080 _ Hl.out (by omega) (by omega)).mono ?_;rw[HW.out]
 rintro e w0 ⟨rfl,e0⟩
 have q0:=p0.ext e0;have q1:=p1.ext e0;have E3:=E1.trans e0;clear p0 p1 E1 e0;go_wp2_with (refine wpList_iload 29 _ rfl rfl q0 0 16 rfl _ Tryz.underlying29 rfl size_A16 (by rw[Hl.out];omega) _ (by rw[sub_all _ _ (Hl.out)]) ?_)
 go_loopw [17] (fun i wr=>∃ k:Nat,k≤16∧i= .int .i64 k∧Ext w wr∧IB wr B 29 (mixI D zs k)∧IB wr (B+1) 29 (List.replicate 16 0)) (fun i _=>16-(intOf i).toNat)
 case atStart=>exact⟨0,by omega,rfl,E3,by rw[mixI_zero];exact q0,q1⟩
 case round =>
  obtain⟨k,hk,rfl,E4,r0,r1⟩:=hrel;clear q0 q1 E3
  by_cases hlt:k<16
  ·have hd:decide ((k:Int)<16)=true:=by simp;omega
   have hbk:=Hbd.out k hlt;have hset:=mixI_set D zs k 16 HD.out Hl.out hlt;rw[Hnd.out k hlt]at hset;have Hset:=Lib.hid hset;have c0:=r0.cell (i:=k) (by rw[mixI_len _ _ _ 16 HD.out Hl.out];exact hlt);have f0:=r0.frozen k;clear hset;go_wp2_with (refine wpList_iindex _ _ _ rfl rfl zs rfl k 16 _ rfl rfl _ Tryz.underlying29 Tryz.underlying3 size_int hlt Hl.out ?_)
   refine(impl_Dequantize_in (nth zs k) q _ (HT.out.ext E4) hbk.1 hbk.2 hq).mono ?_
   rintro e w3 ⟨rfl,rfl⟩
   go_wp2;go_roundw
   case rel=>exact⟨k+1,by omega,by go_num,Ext.grown E4 (gr_set _ _ _ _) (fun q hq=>by cases hq;omega),by rw[←Hset.out];exact r0.set k _,r1.set_other (by omega)⟩
   case measure=>simp[intOf];omega
  ·obtain rfl:k=16:=by omega
   rw[mixI_all _ _ 16 HD.out Hl.out]at r0;go_wp2_with (refine wpList_iload 29 _ rfl rfl r0 0 16 rfl _ Tryz.underlying29 rfl size_A16 (by rw[HD.out];omega) _ (by rw[sub_all _ _ (HD.out)]) ?_)
   refine(InverseTransform_any D _ HD.out HDr.out).mono ?_
   rintro e w5 ⟨rfl,e5⟩
   have s1:=r1.ext e5;have E5:=E4.trans e5;have HI:=Lib.hid (ihad_len D);clear r0 r1 E4 e5;go_wp2_with (refine wpList_istore 29 _ _ rfl rfl s1 0 16 rfl _ rfl _ rfl size_A16 (HI.out) (by simp) ?_;intro w6 p6 g6;refine Hid.out ?_)
   rw[spl_all (by rw[HI.out];simp)]at p6;have E6:Ext w w6:=Ext.grown E5 g6 (fun q hq=>by cases hq;omega);refine Lib.hid ?_;go_wp2;exact bodyPost_ret (v := .agg (ic (dec zs q))) (results_cell_row rfl _ _ (B+1) 29 (ic (dec zs q)) (0,0) _ rfl (by rw[Hde.out];exact p6) Tryz.underlying29 rfl (by rw[ic_size,dec_len];exact size_A16)) rfl ⟨rfl,E6⟩
theorem l4Decode_any (zs:List Int) (q:Nat) (w:World) (hl:zs.length=16) (hb:inB 4080 zs=true) (hq:q<16) :
 Calls Tryz.prog 143 #[.agg (ic zs),.int .i64 q] w fun e w'=>e= .returned (.agg (ic (dec zs q)))∧Ext w w':=by
 have Hbd:=Lib.hid (fun k (hk:k<16)=>inB_iff.1 hb k (by omega));have Hnd:=Lib.hid (fun k (hk:k<16)=>nth_map_dq zs q (k:=k) (by omega));have HD:=Lib.hid (show(zs.map (fun x=>dq x q)).length=16 by simp[hl]);have HDr:=Lib.hid (inB_bdA (M:=1048576) (by omega) (dqs_rng zs q) (by omega));have Hde:=Lib.hid (show dec zs q=ihad (zs.map (fun x=>dq x q))from rfl);obtain⟨D,hD⟩:∃ D,D=zs.map (fun x=>dq x q):=⟨_,rfl⟩;rw[←hD]at Hnd HD HDr Hde;have Hl:=Lib.hid hl;have Hz:=Lib.hid (show(List.replicate 16 (0:Int)).length=16 by simp);have hs:=stp_rng hq;have HQ:=Lib.hid (fun w=>spec_QuantStep_in q w hq);have Hdq:=Lib.hid (fun l=>show dq l q=clipI (l*stp q) (-4080) 4080 from rfl);generalize stp q=s at *;clear hl hb hD;have a2:=Ext.alloc (w.alloc (.cells (ic zs) 29)) (.cells (ic (List.replicate 16 0)) 29);have a3:=Ext.alloc ((w.alloc (.cells (ic zs) 29)).alloc (.cells (ic (List.replicate 16 0)) 29)) (.cells (ic (List.replicate 16 0)) 29);have p0:=((IB.new w 29 zs).ext a2).ext a3;have p1:=(IB.new (w.alloc (.cells (ic zs) 29)) 29 (List.replicate 16 0)).ext a3;have p2:=IB.new ((w.alloc (.cells (ic zs) 29)).alloc (.cells (ic (List.replicate 16 0)) 29)) 29 (List.replicate 16 0);have E1:=((Ext.alloc w (.cells (ic zs) 29)).trans a2).trans a3;simp only[World.size_alloc]at p1 p2;clear a2 a3;go_enter Tryz.func143,Tryz.ntmps143
 go_wp2_with fail
 try simp only[World.size_alloc]
 obtain⟨B,hB⟩:∃ B,B=w.heap.size:=⟨_,rfl⟩;rw[←hB]at p0 p1 p2⊢;have hwB:w.heap.size≤B:=by omega
 have HB0:=Lib.hid hB;clear hB;go_loopw [6] (fun i wr=>∃ k:Nat,k≤16∧i= .int .i64 k∧Ext w wr∧IB wr B 29 zs∧IB wr (B+1) 29 (List.replicate 16 0)∧IB wr (B+1+1) 29 (mixI D (List.replicate 16 0) k)) (fun i _=>16-(intOf i).toNat)
 case atStart=>exact⟨0,by omega,rfl,E1,p0,p1,by rw[mixI_zero];exact p2⟩
 case round =>
  obtain⟨k,hk,rfl,E4,r0,r1,r2⟩:=hrel;clear p0 p1 p2 E1
  by_cases hlt:k<16
  ·have hd:decide ((k:Int)<16)=true:=by simp;omega
   have hbk:=Hbd.out k hlt;have hset:=mixI_set D (List.replicate 16 0) k 16 HD.out Hz.out hlt;rw[Hnd.out k hlt,Hdq.out]at hset;have Hset:=Lib.hid hset;have c0:=Lib.hid (fun(wx:World) (h:IB wx B 29 zs)=>h.cell (i:=k) (by rw[Hl.out];exact hlt));clear hset;generalize nth zs k=z at *;have hm:=mul_bnd hbk.1 hbk.2 hs.1 hs.2;obtain⟨v,hv⟩:∃ v,v=clipI (z*s) (-4080) 4080:=⟨_,rfl⟩;rw[←hv]at Hset;have HV:=Lib.hid hv;clear hv;have HM:=Lib.hid (fun(k:Nat) (hk:k≤16)=>mixI_len D (List.replicate 16 0) k 16 HD.out Hz.out);have G0:Ext w wr∧IB wr B 29 zs∧IB wr (B+1) 29 (List.replicate 16 0)∧IB wr (B+1+1) 29 (mixI D (List.replicate 16 0) k):=⟨E4,r0,r1,r2⟩;clear E4 r0 r1 r2;go_wp2_with fail
   refine wp_region_invL (by kernel_rfl) [(12,0),(13,1),(14,2),(15,3),(16,4),(17,5),(18,6),(19,7),(20,8)] [[],[],[1],[1,2],[],[4],[1,2,3,4,5],[1,2,3,4,5,6],[0,1,2,3,4,5,6,7],[0,1,2,3,4,5,6,7,8]] (fun i own ys wx=>match i with|0=>own= .int .i64 (k:Nat)|1=>own= .int .i64 (k:Nat)|2=>own= .pointer (some ⟨B,k,none⟩)|3=>own= .int .i64 z|4=>own= .int .i64 (q:Nat)|5=>own= .int .i64 s|6=>own= .int .i64 (z*s)|7=>own= .int .i64 v|8=>own= .pointer (some ⟨B+1+1,k,none⟩)|9=>True|_=>True) (fun Lx wx=>Ext w wx∧IB wx B 29 zs∧IB wx (B+1) 29 (List.replicate 16 0)∧IB wx (B+1+1) 29 (if Lx 9=true then mixI D (List.replicate 16 0) (k+1)else mixI D (List.replicate 16 0) k)) (by kernel_rfl) (by kernel_rfl) (by kernel_rfl) ?g0_r1 ?gop_r1 ?gend_r1
   case g0_r1=>exact⟨Ext.trans_drewN G0.1 1,G0.2.1.drewN 1,G0.2.2.1.drewN 1,G0.2.2.2.drewN 1⟩
   case gop_r1 =>
    refine⟨?_,?_,?o2,?o3,?_,?o5,?o6,?o7,?o8,?o9,trivial⟩ <;> (intro Lx xs wx hG hl ha hb hD hI Qo Kx hK hQo;simp only[patchS,Nat.reduceAdd,Nat.reduceEqDiff,↓reduceIte]at hQo⊢)
    case o2 =>
     clear hl ha hb;rw[ddq (hD 1 rfl)]at hQo⊢;clear hD hI;go_wp2;exact hK.out _ _ ⟨rfl,hG,kkp⟩
    case o3 =>
     clear hl ha hb;rw[ddq (hD 2 rfl)]at hQo⊢;clear hD hI;have cx:=c0.out wx hG.2.1;go_wp2;exact hK.out _ _ ⟨rfl,hG,kkp⟩
    case o5 =>
     clear hl ha hb;rw[ddq (hD 4 rfl)]at hQo⊢;clear hD hI;go_wp2_with fail
     refine(HQ.out _).mono ?_
     rintro e w9 ⟨rfl,e9⟩
     go_wp2;exact hK.out _ _ ⟨rfl,⟨hG.1.trans e9,hG.2.1.ext e9,hG.2.2.1.ext e9,hG.2.2.2.ext e9⟩,fun _ _ _ _ _ _ h=>h⟩
    case o6 =>
     clear hl ha hb;rw[ddq (hD 3 rfl),ddq (hD 5 rfl)]at hQo⊢;clear hD hI;go_wp2;exact hK.out _ _ ⟨rfl,hG,kkp⟩
    case o7 =>
     clear hl ha hb;rw[ddq (hD 6 rfl)]at hQo⊢;clear hD hI;go_wp2_with fail
     refine(l1Clip_any _ _ _ _).mono ?_
     rintro e w9 ⟨rfl,rfl⟩
     rw[←HV.out];go_wp2;exact hK.out _ _ ⟨rfl,hG,kkp⟩
    case o8 =>
     clear hl ha hb;rw[ddq (hD 0 rfl)]at hQo⊢;clear hD hI;go_wp2;exact hK.out _ _ ⟨rfl,hG,kkp⟩
    case o9 =>
     have l9:Lx 9=false:=hl;clear hl ha hb;rw[ddq (hD 7 rfl),ddq (hD 8 rfl)]at hQo⊢;clear hD hI;rw[l9,ifF]at hG;have cx:=hG.2.2.2.cell (i:=k) (by rw[HM.out k hk];exact hlt);have fx:=hG.2.2.2.frozen k;have s2:=hG.2.2.2.set k v;rw[Hset.out]at s2;have gE:=Ext.grown hG.1 (gr_set _ (B+1+1) k (.int .i64 v)) (fun q hq=>by cases hq;omega);have g0':=hG.2.1.set_other (c:=B+1+1) (i:=k) (v := .int .i64 v) (by omega);have g1':=hG.2.2.1.set_other (c:=B+1+1) (i:=k) (v := .int .i64 v) (by omega);go_wp2;exact hQo undef _ (hK.out _ _ ⟨trivial,⟨gE,g0',g1',s2⟩,fun _ _ _ _ _ _ h=>h⟩)
    all_goals
     clear hl ha hb hD hI;go_wp2;exact hK.out _ _ ⟨rfl,hG,kkp⟩
   intro xs wx hV hG0;obtain⟨Lx,hL,hG⟩:=hG0;have l9:Lx 9=true:=hL 9 (by decide);clear hL hV;simp only[patchS,Nat.reduceAdd,Nat.reduceEqDiff,↓reduceIte];generalize xs 0=y0,xs 1=y1,xs 2=y2,xs 3=y3,xs 4=y4,xs 5=y5,xs 6=y6,xs 7=y7,xs 8=y8,xs 9=y9 at *
   replace hG:Ext w wx∧IB wx B 29 zs∧IB wx (B+1) 29 (List.replicate 16 0)∧IB wx (B+1+1) 29 (if Lx 9=true then mixI D (List.replicate 16 0) (k+1)else mixI D (List.replicate 16 0) k):=hG
   rw[l9,ifT]at hG;clear G0 c0;obtain⟨E5,s0,s1,s2⟩:=hG;go_wp2;go_roundw
   case rel=>exact⟨k+1,by omega,by go_num,E5,s0,s1,s2⟩
   case measure=>simp[intOf];omega
  ·obtain rfl:k=16:=by omega
   rw[mixI_all _ _ 16 HD.out Hz.out]at r2;go_wp2_with (refine wpList_iload 29 _ rfl rfl r2 0 16 rfl _ Tryz.underlying29 rfl size_A16 (by rw[HD.out];omega) _ (by rw[sub_all _ _ (HD.out)]) ?_)
   refine(l3Inverse_any D _ HD.out HDr.out).mono ?_
   rintro e w5 ⟨rfl,e5⟩
   have s1:=r1.ext e5;have E5:=E4.trans e5;have HI:=Lib.hid (ihad_len D);clear r0 r1 r2 E4 e5;go_wp2_with (refine wpList_istore 29 _ _ rfl rfl s1 0 16 rfl _ rfl _ rfl size_A16 (HI.out) (by simp) ?_;intro w6 p6 g6;refine Hid.out ?_)
   rw[spl_all (by rw[HI.out];simp)]at p6;have E6:Ext w w6:=Ext.grown E5 g6 (fun q hq=>by cases hq;omega);refine Lib.hid ?_;go_wp2;exact bodyPost_ret (v := .agg (ic (dec zs q))) (results_cell_row rfl _ _ (B+1) 29 (ic (dec zs q)) (0,0) _ rfl (by rw[Hde.out];exact p6) Tryz.underlying29 rfl (by rw[ic_size,dec_len];exact size_A16)) rfl ⟨rfl,E6⟩
theorem spec_CodeBlock_any (zs:List Int) (q:Nat) (w:World) (hl:zs.length=16) (hb:inB 255 zs=true) (hq:q<16) :
 Calls Tryz.prog 150 #[.agg (ic zs),.int .i64 q] w fun e w'=>e= .returned (.agg (ic (cod zs q)))∧Ext w w':=by
 have hbA:=inB_bdA (M:=1048576) (by omega) hb (by omega);have Hbd:=Lib.hid (fun k (hk:k<16)=>had_255 hl hb hk);have Hl:=Lib.hid hl;have HB:=Lib.hid hbA;have HW:=Lib.hid hb;have HH:=Lib.hid (had_len zs);have HI:=Lib.hid (cod_len zs q);have Hz:=Lib.hid (show(List.replicate 16 (0:Int)).length=16 by simp);clear hl hb hbA;have a2:=Ext.alloc (w.alloc (.cells (ic zs) 29)) (.cells (ic (List.replicate 16 0)) 29);have a3:=Ext.alloc ((w.alloc (.cells (ic zs) 29)).alloc (.cells (ic (List.replicate 16 0)) 29)) (.cells (ic (List.replicate 16 0)) 29);have p0:=((IB.new w 29 zs).ext a2).ext a3;have p1:=(IB.new (w.alloc (.cells (ic zs) 29)) 29 (List.replicate 16 0)).ext a3;have p2:=IB.new ((w.alloc (.cells (ic zs) 29)).alloc (.cells (ic (List.replicate 16 0)) 29)) 29 (List.replicate 16 0);have E1:=((Ext.alloc w (.cells (ic zs) 29)).trans a2).trans a3;simp only[World.size_alloc]at p1 p2;clear a2 a3;go_enter Tryz.func150,Tryz.ntmps150
 go_wp2_with (refine wpList_iload 29 _ rfl rfl p0 0 16 rfl _ Tryz.underlying29 rfl size_A16 (by rw[Hl.out];omega) _ (by rw[sub_all _ _ (Hl.out)]) ?_)
 try simp only[World.size_alloc]
 obtain⟨B,hB⟩:∃ B,B=w.heap.size:=⟨_,rfl⟩;rw[←hB]at p0 p1 p2⊢;have hwB:w.heap.size≤B:=by omega
 have HB0:=Lib.hid hB;clear hB;refine(spec_l3Ok_any zs 255 _ Hl.out (by omega) (by omega)).mono ?_;rw[HW.out]
 rintro e w0 ⟨rfl,e0⟩
 have p0a:=p0.ext e0;have p1a:=p1.ext e0;have p2a:=p2.ext e0;have E0a:=E1.trans e0;clear p0 p1 p2 E1 e0;go_wp2_with fail
 refine(l1In_yes _ _ _ _ (by omega) (by omega)).mono ?_
 rintro e w1 ⟨rfl,rfl⟩
 go_wp2_with (refine wpList_iload 29 _ rfl rfl p0a 0 16 rfl _ Tryz.underlying29 rfl size_A16 (by rw[Hl.out];omega) _ (by rw[sub_all _ _ (Hl.out)]) ?_)
 refine(l3Apply_any zs _ Hl.out HB.out).mono ?_
 rintro e w1 ⟨rfl,e1⟩
 have q1:=p1a.ext e1;have q2:=p2a.ext e1;have E2:=E0a.trans e1;have q3:=IB.new w1 29 (List.replicate 16 0);have l1:=q2.lt;have q1a:=q1.alloc (.cells (ic (List.replicate 16 0)) 29);have q2a:=q2.alloc (.cells (ic (List.replicate 16 0)) 29);have E2a:=E2.trans (Ext.alloc w1 (.cells (ic (List.replicate 16 0)) 29));have hs2:=E2.size;clear p0a p1a p2a E0a e1 q1 q2 E2;go_wp2_with (refine wpList_istore 29 _ _ rfl rfl q3 0 16 rfl _ rfl _ rfl size_A16 (HH.out) (by simp) ?_;intro w2 i2 g2;refine Hid.out ?_)
 rw[spl_all (by rw[HH.out];simp)]at i2;have E3:Ext w w2:=Ext.grown E2a g2 (fun k e=>by cases e;omega);have q1:=q1a.gr g2 (ne_blk (by omega));have q2:=q2a.gr g2 (ne_blk (by omega));obtain⟨O,hO⟩:∃ O,O=w1.heap.size:=⟨_,rfl⟩;rw[←hO]at i2 l1⊢;have HO:=Lib.hid hO;clear hO hs2 q1a q2a E2a q3 g2;refine Lib.hid ?_;go_wp2_with fail
 go_loopw [7] (fun i wr=>∃ k:Nat,k≤16∧i= .int .i64 k∧Ext w wr∧IB wr (B+1) 29 (List.replicate 16 0)∧IB wr O 29 (had zs)∧IB wr (B+1+1) 29 (mixI (cod zs q) (List.replicate 16 0) k)) (fun i _=>16-(intOf i).toNat)
 case atStart=>exact⟨0,by omega,rfl,E3,q1,i2,by rw[mixI_zero];exact q2⟩
 case round =>
  obtain⟨k,hk,rfl,E4,r1,r3,r2⟩:=hrel;clear q1 q2 i2 E3
  by_cases hlt:k<16
  ·have hd:decide ((k:Int)<16)=true:=by simp;omega
   have hbk:=Hbd.out k hlt;have hset:=mixI_set (cod zs q) (List.replicate 16 0) k 16 HI.out Hz.out hlt;rw[nth_cod _ _ hlt]at hset;have Hset:=Lib.hid hset;have c3:=r3.cell (i:=k) (by rw[HH.out];exact hlt);clear hset;go_wp2_with fail
   refine(l4Quant_in (nth (had zs) k) q _ hbk.1 hbk.2 hq).mono ?_
   rintro e w3 ⟨rfl,e3⟩
   have E5:=E4.trans e3;have s1:=r1.ext e3;have s2:=r2.ext e3;have s3:=r3.ext e3;have c0:=s2.cell (i:=k) (by rw[mixI_len _ _ _ 16 HI.out Hz.out];exact hlt);have f0:=s2.frozen k;clear r1 r2 r3 E4 c3 e3;go_wp2;go_roundw
   case rel=>exact⟨k+1,by omega,by go_num,Ext.grown E5 (gr_set _ _ _ _) (fun q hq=>by cases hq;omega),s1.set_other (by omega),s3.set_other (by omega),by rw[←Hset.out];exact s2.set k _⟩
   case measure=>simp[intOf];omega
  ·obtain rfl:k=16:=by omega
   rw[mixI_all _ _ 16 HI.out Hz.out]at r2;go_wp2_with (first|(refine wpList_iload 29 _ rfl rfl r2 0 16 rfl _ Tryz.underlying29 rfl size_A16 (by rw[HI.out];omega) _ (by rw[sub_all _ _ (HI.out)]) ?_)|(refine wpList_istore 29 _ _ rfl rfl r1 0 16 rfl _ rfl _ rfl size_A16 (HI.out) (by simp) ?_;intro w6 p6 g6;refine Hid.out ?_))
   rw[spl_all (by rw[HI.out];simp)]at p6;have E6:Ext w w6:=Ext.grown E4 g6 (fun q hq=>by cases hq;omega);refine Lib.hid ?_;go_wp2;exact bodyPost_ret (v := .agg (ic (cod zs q))) (results_cell_row rfl _ _ (B+1) 29 (ic (cod zs q)) (0,0) _ rfl p6 Tryz.underlying29 rfl (by rw[ic_size,cod_len];exact size_A16)) rfl ⟨rfl,E6⟩
theorem difference_any (za zb:List Int) (w:World) (hx:za.length=16) (hy:zb.length=16) (bx:bdA 1099511627776 za) (by':bdA 1099511627776 zb) :
 Calls Tryz.prog 70 #[.agg (ic za),.agg (ic zb)] w fun e w'=>e= .returned (.agg (ic (dif za zb)))∧Ext w w':=by
 have Hx:=Lib.hid hx;have Hy:=Lib.hid hy;have Bx:=Lib.hid bx;have By:=Lib.hid by'
 have HI:=Lib.hid (dif_len za zb);clear hx hy bx by'
 have a2:=Ext.alloc (w.alloc (.cells (ic za) 29)) (.cells (ic zb) 29);have a3:=Ext.alloc ((w.alloc (.cells (ic za) 29)).alloc (.cells (ic zb) 29)) (.cells (ic (List.replicate 16 0)) 29);have p0:=((IB.new w 29 za).ext a2).ext a3;have p1:=(IB.new (w.alloc (.cells (ic za) 29)) 29 zb).ext a3;have p2:=IB.new ((w.alloc (.cells (ic za) 29)).alloc (.cells (ic zb) 29)) 29 (List.replicate 16 0);have E1:=((Ext.alloc w (.cells (ic za) 29)).trans a2).trans a3;simp only[World.size_alloc]at p1 p2;clear a2 a3;go_enter Tryz.func70,Tryz.ntmps70
 go_wp2_with (refine wpList_iload 29 _ rfl rfl p1 0 16 rfl _ Tryz.underlying29 rfl size_A16 (by rw[Hy.out];omega) _ (by rw[sub_all _ _ (Hy.out)]) ?_)
 try simp only[World.size_alloc]
 obtain⟨B,hB⟩:∃ B,B=w.heap.size:=⟨_,rfl⟩;rw[←hB]at p0 p1 p2⊢;have hwB:w.heap.size≤B:=by omega
 have HB0:=Lib.hid hB;clear hB;go_loopw [8] (fun i wr=>∃ k:Nat,k≤16∧i= .int .i64 k∧Ext w wr∧IB wr B 29 (mixI (dif za zb) za k)∧IB wr (B+1) 29 zb∧IB wr (B+1+1) 29 (List.replicate 16 0)) (fun i _=>16-(intOf i).toNat)
 case atStart=>exact⟨0,by omega,rfl,E1,by rw[mixI_zero];exact p0,p1,p2⟩
 case round =>
  obtain⟨k,hk,rfl,E4,r0,r1,r2⟩:=hrel;clear p0 p1 p2 E1
  by_cases hlt:k<16
  ·have hd:decide ((k:Int)<16)=true:=by simp;omega
   have b0:=Bx.out k;have b1:=By.out k;have hset:=mixI_set (dif za zb) za k 16 HI.out Hx.out hlt;rw[nth_dif _ _ hlt]at hset;have Hset:=Lib.hid hset;have c0:=r0.cell (i:=k) (by rw[mixI_len _ _ _ 16 HI.out Hx.out];exact hlt);rw[nth_mixR HI.out Hx.out (Nat.le_refl _) hlt]at c0;have f0:=r0.frozen k;have c1:=r1.cell (i:=k) (by rw[Hy.out];exact hlt);clear hset c1;go_wp2_with (refine wpList_iindex _ _ _ rfl rfl zb rfl k 16 _ rfl rfl _ Tryz.underlying29 Tryz.underlying3 size_int hlt Hy.out ?_)
   go_roundw
   case rel=>exact⟨k+1,by omega,by go_num,Ext.grown E4 (gr_set _ _ _ _) (fun q hq=>by cases hq;omega),by rw[←Hset.out];exact r0.set k _,r1.set_other (by omega),r2.set_other (by omega)⟩
   case measure=>simp[intOf];omega
  ·obtain rfl:k=16:=by omega
   rw[mixI_all _ _ 16 HI.out Hx.out]at r0;go_wp2_with (first|(refine wpList_iload 29 _ rfl rfl r0 0 16 rfl _ Tryz.underlying29 rfl size_A16 (by rw[HI.out];omega) _ (by rw[sub_all _ _ (HI.out)]) ?_)|(refine wpList_istore 29 _ _ rfl rfl r2 0 16 rfl _ rfl _ rfl size_A16 (HI.out) (by simp) ?_;intro w6 p6 g6;refine Hid.out ?_))
   rw[spl_all (by rw[HI.out];simp)]at p6;have E6:Ext w w6:=Ext.grown E4 g6 (fun q hq=>by cases hq;omega);refine Lib.hid ?_;go_wp2;exact bodyPost_ret (v := .agg (ic (dif za zb))) (results_cell_row rfl _ _ (B+1+1) 29 (ic (dif za zb)) (0,0) _ rfl p6 Tryz.underlying29 rfl (by rw[ic_size,dif_len];exact size_A16)) rfl ⟨rfl,E6⟩
theorem l8Minus_any (za zb:List Int) (w:World) (hx:za.length=16) (hy:zb.length=16) (bx:bdA 1099511627776 za) (by':bdA 1099511627776 zb) :
 Calls Tryz.prog 151 #[.agg (ic za),.agg (ic zb)] w fun e w'=>e= .returned (.agg (ic (dif za zb)))∧Ext w w':=by
 have Hx:=Lib.hid hx;have Hy:=Lib.hid hy;have Bx:=Lib.hid bx;have By:=Lib.hid by'
 have HI:=Lib.hid (dif_len za zb);clear hx hy bx by'
 have a2:=Ext.alloc (w.alloc (.cells (ic za) 29)) (.cells (ic zb) 29);have a3:=Ext.alloc ((w.alloc (.cells (ic za) 29)).alloc (.cells (ic zb) 29)) (.cells (ic (List.replicate 16 0)) 29);have p0:=((IB.new w 29 za).ext a2).ext a3;have p1:=(IB.new (w.alloc (.cells (ic za) 29)) 29 zb).ext a3;have p2:=IB.new ((w.alloc (.cells (ic za) 29)).alloc (.cells (ic zb) 29)) 29 (List.replicate 16 0);have E1:=((Ext.alloc w (.cells (ic za) 29)).trans a2).trans a3;simp only[World.size_alloc]at p1 p2;clear a2 a3;go_enter Tryz.func151,Tryz.ntmps151
 go_wp2_with fail
 try simp only[World.size_alloc]
 obtain⟨B,hB⟩:∃ B,B=w.heap.size:=⟨_,rfl⟩;rw[←hB]at p0 p1 p2⊢;have hwB:w.heap.size≤B:=by omega
 have HB0:=Lib.hid hB;clear hB;go_loopw [5] (fun i wr=>∃ k:Nat,k≤16∧i= .int .i64 k∧Ext w wr∧IB wr B 29 (mixI (dif za zb) za k)∧IB wr (B+1) 29 zb∧IB wr (B+1+1) 29 (List.replicate 16 0)) (fun i _=>16-(intOf i).toNat)
 case atStart=>exact⟨0,by omega,rfl,E1,by rw[mixI_zero];exact p0,p1,p2⟩
 case round =>
  obtain⟨k,hk,rfl,E4,r0,r1,r2⟩:=hrel;clear p0 p1 p2 E1
  by_cases hlt:k<16
  ·have hd:decide ((k:Int)<16)=true:=by simp;omega
   have b0:=Bx.out k;have b1:=By.out k;have hset:=mixI_set (dif za zb) za k 16 HI.out Hx.out hlt;rw[nth_dif _ _ hlt]at hset;have Hset:=Lib.hid hset;have c0:=r0.cell (i:=k) (by rw[mixI_len _ _ _ 16 HI.out Hx.out];exact hlt);rw[nth_mixR HI.out Hx.out (Nat.le_refl _) hlt]at c0;have f0:=r0.frozen k;have c1:=r1.cell (i:=k) (by rw[Hy.out];exact hlt);clear hset;have C0:=Lib.hid c0;have C1:=Lib.hid c1;have HM:=Lib.hid (mixI_len (dif za zb) za k 16 HI.out Hx.out);generalize nth za k=u at *;generalize nth zb k=v at *;have G0:Ext w wr∧IB wr (B+1) 29 zb∧IB wr (B+1+1) 29 (List.replicate 16 0)∧IB wr B 29 (mixI (dif za zb) za k):=⟨E4,r1,r2,r0⟩;have HcU:=Lib.hid (fun(wx:World) (h:IB wx B 29 (mixI (dif za zb) za k))=>(h.cell (i:=k) (by rw[HM.out];exact hlt)).trans ((r0.cell (i:=k) (by rw[HM.out];exact hlt)).symm.trans C0.out));have HcV:=Lib.hid (fun(wx:World) (h:IB wx (B+1) 29 zb)=>(h.cell (i:=k) (by rw[Hy.out];exact hlt)).trans ((r1.cell (i:=k) (by rw[Hy.out];exact hlt)).symm.trans C1.out));clear E4 r0 r1 r2 c0 c1 f0;go_wp2_with fail
   refine wp_region_invL (by kernel_rfl) [(10,0),(11,1),(12,2),(13,3),(14,4),(15,5),(16,6),(17,7),(18,8)] [[],[],[1],[1,2],[],[4],[4,5],[1,2,3,4,5,6],[0,1,2,3,4,5,6,7],[0,1,2,3,4,5,6,7,8]] (fun i own ys wx=>match i with|0=>own= .int .i64 (k:Nat)|1=>own= .int .i64 (k:Nat)|2=>own= .pointer (some ⟨B,k,none⟩)|3=>own= .int .i64 u|4=>own= .int .i64 (k:Nat)|5=>own= .pointer (some ⟨B+1,k,none⟩)|6=>own= .int .i64 v|7=>own= .int .i64 (u-v)|8=>own= .pointer (some ⟨B,k,none⟩)|9=>True|_=>True) (fun Lx wx=>Ext w wx∧IB wx (B+1) 29 zb∧IB wx (B+1+1) 29 (List.replicate 16 0)∧IB wx B 29 (if Lx 9=true then mixI (dif za zb) za (k+1)else mixI (dif za zb) za k)) (by kernel_rfl) (by kernel_rfl) (by kernel_rfl) ?g0_r2 ?gop_r2 ?gend_r2
   case g0_r2=>exact⟨Ext.trans_drewN G0.1 1,G0.2.1.drewN 1,G0.2.2.1.drewN 1,G0.2.2.2.drewN 1⟩
   case gop_r2 =>
    refine⟨?_,?_,?o2,?o3,?_,?o5,?o6,?o7,?o8,?o9,trivial⟩ <;> (intro Lx xs wx hG hl ha hb hD hI Qo Kx hK hQo;simp only[patchS,Nat.reduceAdd,Nat.reduceEqDiff,↓reduceIte]at hQo⊢)
    case o2 =>
     clear hl ha hb;rw[ddq (hD 1 rfl)]at hQo⊢;clear hD hI;go_wp2;exact hK.out _ _ ⟨rfl,hG,kkp⟩
    case o3 =>
     have l9:Lx 9=false:=hb 9 rfl;clear hl ha hb;rw[ddq (hD 2 rfl)]at hQo⊢;clear hD hI;have hG2:=hG.2.2.2;rw[l9,ifF]at hG2;have cx:=HcU.out wx hG2;clear hG2;go_wp2;exact hK.out _ _ ⟨rfl,hG,kkp⟩
    case o5 =>
     clear hl ha hb;rw[ddq (hD 4 rfl)]at hQo⊢;clear hD hI;go_wp2;exact hK.out _ _ ⟨rfl,hG,kkp⟩
    case o6 =>
     clear hl ha hb;rw[ddq (hD 5 rfl)]at hQo⊢;clear hD hI;have cx:=HcV.out wx hG.2.1;go_wp2;exact hK.out _ _ ⟨rfl,hG,kkp⟩
    case o7 =>
     clear hl ha hb;rw[ddq (hD 3 rfl),ddq (hD 6 rfl)]at hQo⊢;clear hD hI;go_wp2;exact hK.out _ _ ⟨rfl,hG,kkp⟩
    case o8 =>
     clear hl ha hb;rw[ddq (hD 0 rfl)]at hQo⊢;clear hD hI;go_wp2;exact hK.out _ _ ⟨rfl,hG,kkp⟩
    case o9 =>
     have l9:Lx 9=false:=hl;clear hl ha hb;rw[ddq (hD 7 rfl),ddq (hD 8 rfl)]at hQo⊢;clear hD hI;rw[l9,ifF]at hG;have cx:=hG.2.2.2.cell (i:=k) (by rw[HM.out];exact hlt);have fx:=hG.2.2.2.frozen k;have s2:=hG.2.2.2.set k (u-v);rw[Hset.out]at s2;have gE:=Ext.grown hG.1 (gr_set _ B k (.int .i64 (u-v))) (fun q hq=>by cases hq;omega);have g0':=hG.2.1.set_other (c:=B) (i:=k) (v := .int .i64 (u-v)) (by omega);have g1':=hG.2.2.1.set_other (c:=B) (i:=k) (v := .int .i64 (u-v)) (by omega);go_wp2;exact hQo undef _ (hK.out _ _ ⟨trivial,⟨gE,g0',g1',s2⟩,fun _ _ _ _ _ _ h=>h⟩)
    all_goals
     clear hl ha hb hD hI;go_wp2;exact hK.out _ _ ⟨rfl,hG,kkp⟩
   intro xs wx hV hG0;obtain⟨Lx,hL,hG⟩:=hG0;have l9:Lx 9=true:=hL 9 (by decide);clear hL hV;simp only[patchS,Nat.reduceAdd,Nat.reduceEqDiff,↓reduceIte];generalize xs 0=y0,xs 1=y1,xs 2=y2,xs 3=y3,xs 4=y4,xs 5=y5,xs 6=y6,xs 7=y7,xs 8=y8,xs 9=y9 at *
   replace hG:Ext w wx∧IB wx (B+1) 29 zb∧IB wx (B+1+1) 29 (List.replicate 16 0)∧IB wx B 29 (if Lx 9=true then mixI (dif za zb) za (k+1)else mixI (dif za zb) za k):=hG
   rw[l9,ifT]at hG;clear G0 HcU HcV;obtain⟨E5,s1,s2,s0⟩:=hG;go_wp2;go_roundw
   case rel=>exact⟨k+1,by omega,by go_num,E5,s0,s1,s2⟩
   case measure=>simp[intOf];omega
  ·obtain rfl:k=16:=by omega
   rw[mixI_all _ _ 16 HI.out Hx.out]at r0;go_wp2_with (first|(refine wpList_iload 29 _ rfl rfl r0 0 16 rfl _ Tryz.underlying29 rfl size_A16 (by rw[HI.out];omega) _ (by rw[sub_all _ _ (HI.out)]) ?_)|(refine wpList_istore 29 _ _ rfl rfl r2 0 16 rfl _ rfl _ rfl size_A16 (HI.out) (by simp) ?_;intro w6 p6 g6;refine Hid.out ?_))
   rw[spl_all (by rw[HI.out];simp)]at p6;have E6:Ext w w6:=Ext.grown E4 g6 (fun q hq=>by cases hq;omega);refine Lib.hid ?_;go_wp2;exact bodyPost_ret (v := .agg (ic (dif za zb))) (results_cell_row rfl _ _ (B+1+1) 29 (ic (dif za zb)) (0,0) _ rfl p6 Tryz.underlying29 rfl (by rw[ic_size,dif_len];exact size_A16)) rfl ⟨rfl,E6⟩
end Go.Proofs.YtbnhaegidfbgbaaGreatDoor
