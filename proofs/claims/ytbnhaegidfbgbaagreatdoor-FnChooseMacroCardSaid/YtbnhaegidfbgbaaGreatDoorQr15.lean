/- The cost of a difference and the validity of the samples around a block, both sides. | The best prediction mode, both sides. | The intra macroblock: plain law, and the memory of both walks. | Slices of macroblocks written as literals. -/
import Derived.Test.YtbnhaegidfbgbaaGreatDoorQr14
set_option linter.unusedVariables false
set_option linter.unusedSimpArgs false
set_option maxRecDepth 100000
set_option maxHeartbeats 4000000
namespace Go.Proofs.YtbnhaegidfbgbaaGreatDoor
open Go.RowKit
def absZ (n:Int):Int:=if n<0 then -n else n
theorem absZ_ge (n:Int):0≤absZ n:=by unfold absZ;split <;> omega
theorem absZ_le {n B:Int} (h : -B≤n∧n≤B):absZ n≤B:=by unfold absZ;split <;> omega
def sumA (c:List Int) (k:Nat):Int:=sumZ (fun i=>absZ (nth c i)) k
theorem sumA_succ (c:List Int) (k:Nat):sumA c (k+1)=sumA c k+absZ (nth c k):=rfl
theorem sumA_zero (c:List Int):sumA c 0=0:=rfl
theorem sumA_rng {c:List Int} {B:Int} {k:Nat} (h:∀ i,i<k → -B≤nth c i∧nth c i≤B):0≤sumA c k∧sumA c k≤k*B:=by
 induction k with
 | zero=>simp[sumA_zero]
 | succ k ih =>
  have h1:=ih (fun i hi=>h i (by omega));have h2:=absZ_ge (nth c k);have h3:=absZ_le (h k (by omega));rw[sumA_succ,show((k+1:Nat):Int)*B=k*B+B by rw[Int.natCast_add,Int.add_mul];simp];omega
def tcost (a b:List Int):Int:=sumA (had (dif a b)) 16/4
theorem tcost_rng {a b:List Int} (ha:smp a) (hb:smp b) (la:a.length=16) (lb:b.length=16):0≤tcost a b∧tcost a b≤16320:=by
 have:=sumA_rng (c:=had (dif a b)) (B:=4080) (k:=16) (fun i hi=>had_255 (dif_len a b) (dif_rng ha hb la lb) hi);unfold tcost;omega
theorem IB.sl {w:World} {b T n:Nat} {zs:List Int} (h:IB w b T zs) (hl:zs.length=n):Sl w (some ⟨b,0,none⟩) n (zs.map (Value.int .i64)):=by
 refine⟨by simp[hl],fun i hi=>⟨b,0,rfl,?_⟩⟩;rw[Nat.zero_add,h.cell (i:=i) (by omega)];simp[nth,show i<zs.length by omega]
theorem EB.sl_ab {w:World} {b:Nat} {e:Ed} (h:EB w b e) (l:e.ln):Sl w (some ⟨b,0,none⟩) 4 (e.ab.map (Value.int .i64)):=by
 have:=l.ab;refine⟨by simp[this],fun i hi=>⟨b,0,rfl,?_⟩⟩;rw[Nat.zero_add,h.ab l hi];simp[nth,show i<e.ab.length by omega]
theorem EB.sl_lf {w:World} {b:Nat} {e:Ed} (h:EB w b e) (l:e.ln):Sl w (some ⟨b,4,none⟩) 4 (e.lf.map (Value.int .i64)):=by
 have:=l.lf;refine⟨by simp[this],fun i hi=>⟨b,4,rfl,?_⟩⟩;rw[h.lf l hi];simp[nth,show i<e.lf.length by omega]
theorem impl_TransformCost_any (za zb:List Int) (w:World) (hx:za.length=16) (hy:zb.length=16) (sx:smp za) (sy:smp zb) :
 Calls Tryz.prog 119 #[.agg (ic za),.agg (ic zb)] w fun e w'=>e= .returned (.int .i64 (tcost za zb))∧Ext w w':=by
 have Hx:=Lib.hid hx;have Hy:=Lib.hid hy;have Sx:=Lib.hid sx;have Sy:=Lib.hid sy;have Dx:=Lib.hid (show decide (smp za)=true from decide_eq_true sx);have Dy:=Lib.hid (show decide (smp zb)=true from decide_eq_true sy);have Bx:=Lib.hid (smp_bd sx);have By:=Lib.hid (smp_bd sy);have HL:=Lib.hid (dif_len za zb);have HR:=Lib.hid (dif_rng sx sy hx hy);have HH:=Lib.hid (had_len (dif za zb));have HB:=Lib.hid (fun k (hk:k<16)=>had_255 (dif_len za zb) (dif_rng sx sy hx hy) hk);clear hx hy sx sy;have a2:=Ext.alloc (w.alloc (.cells (ic za) 29)) (.cells (ic zb) 29);have p0:=(IB.new w 29 za).ext a2;have p1:=IB.new (w.alloc (.cells (ic za) 29)) 29 zb;have E1:=(Ext.alloc w (.cells (ic za) 29)).trans a2;simp only[World.size_alloc]at p1;clear a2;go_enter Tryz.func119,Tryz.ntmps119
 go_wp2_with fail
 obtain⟨B,hB⟩:∃ B,B=w.heap.size:=⟨_,rfl⟩;try simp only[World.size_alloc]
 rw[←hB]at p0 p1⊢;have hwB:w.heap.size≤B:=by omega
 have HB0:=Lib.hid hB;clear hB;refine(samplesIn_any (some ⟨B,0,none⟩) 16 16 za _ (by omega) (p0.sl Hx.out)).mono ?_;rw[Dx.out]
 rintro e w0 ⟨rfl,rfl⟩
 go_wp2_with fail
 refine(samplesIn_any (some ⟨B+1,0,none⟩) 16 16 zb _ (by omega) (p1.sl Hy.out)).mono ?_;rw[Dy.out]
 rintro e w0 ⟨rfl,rfl⟩
 go_wp2_with (first|(refine wpList_iload 29 _ rfl rfl p0 0 16 rfl _ Tryz.underlying29 rfl size_A16 (by rw[Hx.out];omega) _ (by rw[sub_all _ _ (Hx.out)]) ?_)|(refine wpList_iload 29 _ rfl rfl p1 0 16 rfl _ Tryz.underlying29 rfl size_A16 (by rw[Hy.out];omega) _ (by rw[sub_all _ _ (Hy.out)]) ?_))
 refine(difference_any za zb _ Hx.out Hy.out Bx.out By.out).mono ?_
 rintro e w1 ⟨rfl,e1⟩
 have E2:=E1.trans e1;clear p0 p1 E1 e1;go_wp2_with fail
 refine(hadamard_any (dif za zb) _ HL.out (inB_bdA (M:=1048576) (by omega) HR.out (by omega))).mono ?_
 rintro e w2 ⟨rfl,e2⟩
 have E3:=E2.trans e2;clear E2 e2;go_wp2_with fail
 go_loopw [20,5] (fun i s wr=>∃ k:Nat,k≤16∧i= .int .i64 k∧s= .int .i64 (sumA (had (dif za zb)) k)∧Ext w wr) (fun i _ _=>16-(intOf i).toNat)
 case atStart=>exact⟨0,by omega,rfl,rfl,E3⟩
 case round =>
  obtain⟨k,hk,rfl,rfl,E4⟩:=hrel;clear E3;have hsr:=sumA_rng (c:=had (dif za zb)) (B:=4080) (k:=k) (fun i hi=>HB.out i (by omega))
  by_cases hlt:k<16
  ·have hd:decide ((k:Int)<16)=true:=by simp;omega
   have hbk:=HB.out k hlt;have Hsu:=Lib.hid (sumA_succ (had (dif za zb)) k);go_wp2_with (refine wpList_iindex _ _ _ rfl rfl (had (dif za zb)) rfl k 16 _ rfl rfl _ Tryz.underlying29 Tryz.underlying3 size_int hlt HH.out ?_)
   obtain⟨z,hz⟩:∃ z,z=nth (had (dif za zb)) k:=⟨_,rfl⟩;obtain⟨S,hS⟩:∃ S,S=sumA (had (dif za zb)) k:=⟨_,rfl⟩;rw[←hz]at hbk Hsu⊢;rw[←hS]at hsr Hsu⊢;have ha1:=absZ_ge z;have ha2:=absZ_le hbk;clear hz hS;have h40:S≤65280:=by omega
   refine(impl_abs_any z _ (by omega) (by omega)).mono ?_;rw[show(if z<0 then -z else z)=absZ z from rfl]
   rintro e w5 ⟨rfl,rfl⟩
   go_wp2;go_roundw
   case rel=>exact⟨k+1,by omega,by go_num,by rw[Hsu.out],E4⟩
   case measure=>simp[intOf];omega
  ·obtain rfl:k=16:=by omega
   have Htc:=Lib.hid (show tcost za zb=sumA (had (dif za zb)) 16/4 from rfl);obtain⟨S,hS⟩:∃ S,S=sumA (had (dif za zb)) 16:=⟨_,rfl⟩;rw[←hS]at hsr Htc⊢;clear hS;go_wp2;go_ret
   exact⟨by rw[Htc.out];rfl,E4⟩
theorem spec_TransformCost_any (za zb:List Int) (w:World) (hx:za.length=16) (hy:zb.length=16) (sx:smp za) (sy:smp zb) :
 Calls Tryz.prog 172 #[.agg (ic za),.agg (ic zb)] w fun e w'=>e= .returned (.int .i64 (tcost za zb))∧Ext w w':=by
 have Hx:=Lib.hid hx;have Hy:=Lib.hid hy;have Sx:=Lib.hid (fun k (hk:k<16)=>smp_nth sx (i:=k) (by omega));have Sy:=Lib.hid (fun k (hk:k<16)=>smp_nth sy (i:=k) (by omega));have HL:=Lib.hid (dif_len za zb);have HR:=Lib.hid (dif_rng sx sy hx hy);have HH:=Lib.hid (had_len (dif za zb));have HB:=Lib.hid (fun k (hk:k<16)=>had_255 (dif_len za zb) (dif_rng sx sy hx hy) hk);clear hx hy sx sy;have hz0:(List.replicate 16 (0:Int)).length=16:=by simp
 have Hz0:=Lib.hid hz0;clear hz0;have a2:=Ext.alloc (w.alloc (.cells (ic za) 29)) (.cells (ic zb) 29);have a3:=Ext.alloc ((w.alloc (.cells (ic za) 29)).alloc (.cells (ic zb) 29)) (.cells (ic (List.replicate 16 0)) 29);have p0:=((IB.new w 29 za).ext a2).ext a3;have p1:=(IB.new (w.alloc (.cells (ic za) 29)) 29 zb).ext a3;have p2:=IB.new ((w.alloc (.cells (ic za) 29)).alloc (.cells (ic zb) 29)) 29 (List.replicate 16 0);have E1:=((Ext.alloc w (.cells (ic za) 29)).trans a2).trans a3;simp only[World.size_alloc]at p1 p2;clear a2 a3;go_enter Tryz.func172,Tryz.ntmps172
 go_wp2_with fail
 try simp only[World.size_alloc]
 obtain⟨B,hB⟩:∃ B,B=w.heap.size:=⟨_,rfl⟩;rw[←hB]at p0 p1 p2⊢;have hwB:w.heap.size≤B:=by omega
 have HB0:=Lib.hid hB;clear hB;go_loopw [6] (fun i wr=>∃ k:Nat,k≤16∧i= .int .i64 k∧Ext w wr∧IB wr B 29 za∧IB wr (B+1) 29 zb∧IB wr (B+1+1) 29 (mixI (dif za zb) (List.replicate 16 0) k)) (fun i _=>16-(intOf i).toNat)
 case atStart=>exact⟨0,by omega,rfl,E1,p0,p1,by rw[mixI_zero];exact p2⟩
 case round =>
  obtain⟨k,hk,rfl,E4,r0,r1,r2⟩:=hrel;clear p0 p1 p2 E1
  by_cases hlt:k<16
  ·have hd:decide ((k:Int)<16)=true:=by simp;omega
   have b0:=Sx.out k hlt;have b1:=Sy.out k hlt;have hset:=mixI_set (dif za zb) (List.replicate 16 0) k 16 HL.out Hz0.out hlt;rw[nth_dif _ _ hlt]at hset;have Hset:=Lib.hid hset;have c0:=r0.cell (i:=k) (by rw[Hx.out];exact hlt);have c1:=r1.cell (i:=k) (by rw[Hy.out];exact hlt);clear hset;have C0:=Lib.hid c0;have C1:=Lib.hid c1;have HM:=Lib.hid (mixI_len (dif za zb) (List.replicate 16 0) k 16 HL.out Hz0.out);generalize nth za k=u at *;generalize nth zb k=v at *;have G0:Ext w wr∧IB wr B 29 za∧IB wr (B+1) 29 zb∧IB wr (B+1+1) 29 (mixI (dif za zb) (List.replicate 16 0) k):=⟨E4,r0,r1,r2⟩;have HcU:=Lib.hid (fun(wx:World) (h:IB wx B 29 za)=>(h.cell (i:=k) (by rw[Hx.out];exact hlt)).trans ((r0.cell (i:=k) (by rw[Hx.out];exact hlt)).symm.trans C0.out));have HcV:=Lib.hid (fun(wx:World) (h:IB wx (B+1) 29 zb)=>(h.cell (i:=k) (by rw[Hy.out];exact hlt)).trans ((r1.cell (i:=k) (by rw[Hy.out];exact hlt)).symm.trans C1.out));clear E4 r0 r1 r2;go_wp2_with fail
   refine(l1In_yes _ _ _ _ b0.1 b0.2).mono ?_
   rintro e w0 ⟨rfl,rfl⟩
   go_wp2_with fail
   refine(l1In_yes _ _ _ _ b1.1 b1.2).mono ?_
   rintro e w0 ⟨rfl,rfl⟩
   clear c0 c1;go_wp2_with fail
   refine wp_region_invL (by kernel_rfl) [(27,0),(28,1),(29,2),(30,3),(31,4),(32,5),(33,6),(34,7),(35,8)] [[],[],[1],[1,2],[],[4],[4,5],[1,2,3,4,5,6],[0,1,2,3,4,5,6,7],[0,1,2,3,4,5,6,7,8]] (fun i own ys wx=>match i with|0=>own= .int .i64 (k:Nat)|1=>own= .int .i64 (k:Nat)|2=>own= .pointer (some ⟨B,k,none⟩)|3=>own= .int .i64 u|4=>own= .int .i64 (k:Nat)|5=>own= .pointer (some ⟨B+1,k,none⟩)|6=>own= .int .i64 v|7=>own= .int .i64 (u-v)|8=>own= .pointer (some ⟨B+1+1,k,none⟩)|9=>True|_=>True) (fun Lx wx=>Ext w wx∧IB wx B 29 za∧IB wx (B+1) 29 zb∧IB wx (B+1+1) 29 (if Lx 9=true then mixI (dif za zb) (List.replicate 16 0) (k+1)else mixI (dif za zb) (List.replicate 16 0) k)) (by kernel_rfl) (by kernel_rfl) (by kernel_rfl) ?g0_r1 ?gop_r1 ?gend_r1
   case g0_r1=>exact⟨Ext.trans_drewN G0.1 1,G0.2.1.drewN 1,G0.2.2.1.drewN 1,G0.2.2.2.drewN 1⟩
   case gop_r1 =>
    refine⟨?_,?_,?o2,?o3,?_,?o5,?o6,?o7,?o8,?o9,trivial⟩ <;> (intro Lx xs wx hG hl ha hb hD hI Qo Kx hK hQo;simp only[patchS,Nat.reduceAdd,Nat.reduceEqDiff,↓reduceIte]at hQo⊢)
    case o2 =>
     clear hl ha hb;rw[ddq (hD 1 rfl)]at hQo⊢;clear hD hI;go_wp2;exact hK.out _ _ ⟨rfl,hG,kkp⟩
    case o3 =>
     clear hl ha hb;rw[ddq (hD 2 rfl)]at hQo⊢;clear hD hI;have cx:=HcU.out wx hG.2.1;go_wp2;exact hK.out _ _ ⟨rfl,hG,kkp⟩
    case o5 =>
     clear hl ha hb;rw[ddq (hD 4 rfl)]at hQo⊢;clear hD hI;go_wp2;exact hK.out _ _ ⟨rfl,hG,kkp⟩
    case o6 =>
     clear hl ha hb;rw[ddq (hD 5 rfl)]at hQo⊢;clear hD hI;have cx:=HcV.out wx hG.2.2.1;go_wp2;exact hK.out _ _ ⟨rfl,hG,kkp⟩
    case o7 =>
     clear hl ha hb;rw[ddq (hD 3 rfl),ddq (hD 6 rfl)]at hQo⊢;clear hD hI;go_wp2;exact hK.out _ _ ⟨rfl,hG,kkp⟩
    case o8 =>
     clear hl ha hb;rw[ddq (hD 0 rfl)]at hQo⊢;clear hD hI;go_wp2;exact hK.out _ _ ⟨rfl,hG,kkp⟩
    case o9 =>
     have l9:Lx 9=false:=hl;clear hl ha hb;rw[ddq (hD 7 rfl),ddq (hD 8 rfl)]at hQo⊢;clear hD hI;rw[l9,ifF]at hG;have cx:=hG.2.2.2.cell (i:=k) (by rw[HM.out];exact hlt);have fx:=hG.2.2.2.frozen k;have s2:=hG.2.2.2.set k (u-v);rw[Hset.out]at s2;have gE:=Ext.grown hG.1 (gr_set _ (B+1+1) k (.int .i64 (u-v))) (fun q hq=>by cases hq;omega);have g0':=hG.2.1.set_other (c:=B+1+1) (i:=k) (v := .int .i64 (u-v)) (by omega);have g1':=hG.2.2.1.set_other (c:=B+1+1) (i:=k) (v := .int .i64 (u-v)) (by omega);go_wp2;exact hQo undef _ (hK.out _ _ ⟨trivial,⟨gE,g0',g1',s2⟩,fun _ _ _ _ _ _ h=>h⟩)
    all_goals
     clear hl ha hb hD hI;go_wp2;exact hK.out _ _ ⟨rfl,hG,kkp⟩
   intro xs wx hV hG0;obtain⟨Lx,hL,hG⟩:=hG0;have l9:Lx 9=true:=hL 9 (by decide);clear hL hV;simp only[patchS,Nat.reduceAdd,Nat.reduceEqDiff,↓reduceIte];generalize xs 0=y0,xs 1=y1,xs 2=y2,xs 3=y3,xs 4=y4,xs 5=y5,xs 6=y6,xs 7=y7,xs 8=y8,xs 9=y9 at *
   replace hG:Ext w wx∧IB wx B 29 za∧IB wx (B+1) 29 zb∧IB wx (B+1+1) 29 (if Lx 9=true then mixI (dif za zb) (List.replicate 16 0) (k+1)else mixI (dif za zb) (List.replicate 16 0) k):=hG
   rw[l9,ifT]at hG;clear G0 HcU HcV;obtain⟨E5,s0,s1,s2⟩:=hG;go_wp2;go_roundw
   case rel=>exact⟨k+1,by omega,by go_num,E5,s0,s1,s2⟩
   case measure=>simp[intOf];omega
  ·obtain rfl:k=16:=by omega
   rw[mixI_all _ _ 16 HL.out Hz0.out]at r2;go_wp2_with (refine wpList_iload 29 _ rfl rfl r2 0 16 rfl _ Tryz.underlying29 rfl size_A16 (by rw[HL.out];omega) _ (by rw[sub_all _ _ (HL.out)]) ?_)
   refine(l3Apply_any (dif za zb) _ HL.out (inB_bdA (M:=1048576) (by omega) HR.out (by omega))).mono ?_
   rintro e w2 ⟨rfl,e2⟩
   have E5:=E4.trans e2;have q2:=IB.new w2 29 (List.replicate 16 0);have E6:=E5.trans (Ext.alloc w2 (.cells (ic (List.replicate 16 0)) 29));have hs2:=E5.size;clear r0 r1 r2 E4 E5 e2;go_wp2_with (refine wpList_istore 29 _ _ rfl rfl q2 0 16 rfl _ rfl _ rfl size_A16 (HH.out) (by simp) ?_;intro w3 i3 g3;refine Hid.out ?_)
   rw[spl_all (by rw[HH.out];simp)]at i3;have E7:Ext w w3:=Ext.grown E6 g3 (fun k e=>by cases e;omega);obtain⟨O,hO⟩:∃ O,O=w2.heap.size:=⟨_,rfl⟩;rw[←hO]at i3⊢;have HO:=Lib.hid hO;clear hO q2 E6 g3 hs2;refine Lib.hid ?_;go_wp2_with fail
   go_loopw [9,8] (fun i s wr=>∃ k:Nat,k≤16∧i= .int .i64 k∧s= .int .i64 (sumA (had (dif za zb)) k)∧Ext w wr∧IB wr O 29 (had (dif za zb))) (fun i _ _=>16-(intOf i).toNat)
   case atStart=>exact⟨0,by omega,rfl,rfl,E7,i3⟩
   case round =>
    obtain⟨k,hk,rfl,rfl,E8,r0⟩:=hrel;clear E7 i3;have hsr:=sumA_rng (c:=had (dif za zb)) (B:=4080) (k:=k) (fun i hi=>HB.out i (by omega))
    by_cases hlt:k<16
    ·have hd:decide ((k:Int)<16)=true:=by simp;omega
     have hbk:=HB.out k hlt;have Hsu:=Lib.hid (sumA_succ (had (dif za zb)) k);have c0:=r0.cell (i:=k) (by rw[HH.out];exact hlt);have Cr:=Lib.hid (fun(wx:World) (h:IB wx O 29 (had (dif za zb)))=>h.cell (i:=k) (by rw[HH.out];exact hlt));obtain⟨z,hz⟩:∃ z,z=nth (had (dif za zb)) k:=⟨_,rfl⟩;obtain⟨S,hS⟩:∃ S,S=sumA (had (dif za zb)) k:=⟨_,rfl⟩;rw[←hz]at hbk Hsu c0;simp only[←hz]at Cr;rw[←hS]at hsr Hsu⊢;have ha1:=absZ_ge z;have ha2:=absZ_le hbk;clear hz hS;have h40:S≤65280:=by omega
     have hmx:(max z (-z):Int)=absZ z:=by unfold absZ;split <;> omega
     have Hmx:=Lib.hid hmx;clear hmx c0;have G0:Ext w wr∧IB wr O 29 (had (dif za zb)):=⟨E8,r0⟩;clear E8 r0;go_wp2_with fail
     refine wp_region_invL (by kernel_rfl) [(8,10),(42,0),(43,1),(44,2),(45,3),(46,4),(47,5),(48,6),(49,7),(50,8),(51,9)] [[],[],[1],[1,2],[],[4],[4,5],[4,5,6],[1,2,3,4,5,6,7],[0,1,2,3,4,5,6,7,8],[0,1,2,3,4,5,6,7,8,9]] (fun i own ys wx=>match i with|0=>own= .int .i64 S|1=>own= .int .i64 (k:Nat)|2=>own= .pointer (some ⟨O,k,none⟩)|3=>own= .int .i64 z|4=>own= .int .i64 (k:Nat)|5=>own= .pointer (some ⟨O,k,none⟩)|6=>own= .int .i64 z|7=>own= .int .i64 (-z)|8=>own= .int .i64 (absZ z)|9=>own= .int .i64 (S+absZ z)|10=>own= .int .i64 (S+absZ z)|_=>True) (fun Lx wx=>Ext w wx∧IB wx O 29 (had (dif za zb))) (by kernel_rfl) (by kernel_rfl) (by kernel_rfl) ?g0_r2 ?gop_r2 ?gend_r2
     case g0_r2=>exact⟨Ext.trans_drewN G0.1 1,G0.2.drewN 1⟩
     case gop_r2 =>
      refine⟨?o0,?_,?o2,?o3,?_,?o5,?o6,?o7,?o8,?o9,?o10,trivial⟩ <;> (intro Lx xs wx hG hl ha hb hD hI Qo Kx hK hQo;simp only[patchS,Nat.reduceAdd,Nat.reduceEqDiff,↓reduceIte]at hQo⊢)
      case o0 =>
       clear hl ha hb;have i10:=hI 10 8 rfl rfl;simp only[List.getD_cons_succ,List.getD_cons_zero]at i10;clear hD hI;rw[i10]at hQo⊢;clear i10;go_wp2;exact hK.out _ _ ⟨rfl,hG,kkp⟩
      case o2 =>
       clear hl ha hb;rw[ddq (hD 1 rfl)]at hQo⊢;clear hD hI;go_wp2;exact hK.out _ _ ⟨rfl,hG,kkp⟩
      case o3 =>
       clear hl ha hb;rw[ddq (hD 2 rfl)]at hQo⊢;clear hD hI;have cx:=Cr.out wx hG.2;go_wp2;exact hK.out _ _ ⟨rfl,hG,kkp⟩
      case o5 =>
       clear hl ha hb;rw[ddq (hD 4 rfl)]at hQo⊢;clear hD hI;go_wp2;exact hK.out _ _ ⟨rfl,hG,kkp⟩
      case o6 =>
       clear hl ha hb;rw[ddq (hD 5 rfl)]at hQo⊢;clear hD hI;have cx:=Cr.out wx hG.2;go_wp2;exact hK.out _ _ ⟨rfl,hG,kkp⟩
      case o7 =>
       clear hl ha hb;rw[ddq (hD 6 rfl)]at hQo⊢;clear hD hI;go_wp2;exact hK.out _ _ ⟨rfl,hG,kkp⟩
      case o8 =>
       clear hl ha hb;rw[ddq (hD 3 rfl),ddq (hD 7 rfl)]at hQo⊢;clear hD hI;go_wp2;all_goals exact hK.out _ _ ⟨by first|rfl|(unfold absZ;congr 1 <;> split <;> omega),hG,fun _ _ _ _ _ _ h=>h⟩
      case o9 =>
       clear hl ha hb;rw[ddq (hD 0 rfl),ddq (hD 8 rfl)]at hQo⊢;clear hD hI;go_wp2;exact hK.out _ _ ⟨rfl,hG,kkp⟩
      case o10 =>
       clear hl ha hb;rw[ddq (hD 9 rfl)]at hQo⊢;clear hD hI;go_wp2;exact hK.out _ _ ⟨rfl,hG,kkp⟩
      all_goals
       clear hl ha hb hD hI;go_wp2;exact hK.out _ _ ⟨rfl,hG,kkp⟩
     intro xs wx hV hG0;obtain⟨Lx,hL,hG⟩:=hG0;clear hL;have d10:_=_:=hV 10 (by decide);clear hV;simp only[patchS,Nat.reduceAdd,Nat.reduceEqDiff,↓reduceIte];generalize xs 0=y0,xs 1=y1,xs 2=y2,xs 3=y3,xs 4=y4,xs 5=y5,xs 6=y6,xs 7=y7,xs 8=y8,xs 9=y9,xs 10=y10 at *
     replace hG:Ext w wx∧IB wx O 29 (had (dif za zb)):=hG
     subst d10;obtain⟨E9,s0⟩:=hG;clear G0 Cr;go_wp2;go_roundw
     case rel=>exact⟨k+1,by omega,by go_num,by rw[Hsu.out],E9,s0⟩
     case measure=>simp[intOf];omega
    ·obtain rfl:k=16:=by omega
     have Htc:=Lib.hid (show tcost za zb=sumA (had (dif za zb)) 16/4 from rfl);obtain⟨S,hS⟩:∃ S,S=sumA (had (dif za zb)) 16:=⟨_,rfl⟩;rw[←hS]at hsr Htc⊢;clear hS;go_wp2;go_ret
     exact⟨by rw[Htc.out];rfl,E8⟩
theorem impl_EdgesValid_any (ed:Ed) (w:World) (ok:ed.ok) :
 Calls Tryz.prog 118 #[.agg (edC ed)] w fun e w'=>e= .returned (.bool true)∧Ext w w':=by
 have Da:=Lib.hid (show decide (smp ed.ab)=true from decide_eq_true ok.sab);have Dl:=Lib.hid (show decide (smp ed.lf)=true from decide_eq_true ok.slf);have hco:=ok.sco;have L:=Lib.hid ok.ln;clear ok;have p0:=EB.new w ed;have E1:=Ext.alloc w (.cells (edC ed) 106);have cc:=p0.co L.out;have sa:=p0.sl_ab L.out;have sl:=p0.sl_lf L.out;have Sa:=Lib.hid sa;have S2:=Lib.hid sl;clear sa sl;go_enter Tryz.func118,Tryz.ntmps118
 go_wp2_with fail
 refine(samplesIn_any _ _ 4 ed.ab _ (by omega) Sa.out).mono ?_;rw[Da.out]
 rintro e w0 ⟨rfl,rfl⟩
 go_wp2_with fail
 refine(samplesIn_any _ _ 4 ed.lf _ (by omega) S2.out).mono ?_;rw[Dl.out]
 rintro e w0 ⟨rfl,rfl⟩
 go_wp2_with fail
 refine(sampleValid_yes ed.co _ hco.1 hco.2).mono ?_
 rintro e w0 ⟨rfl,rfl⟩
 go_wp2;go_ret
 exact⟨rfl,E1⟩
theorem spec_EdgesValid_any (ed:Ed) (w:World) (ok:ed.ok) :
 Calls Tryz.prog 171 #[.agg (edC ed)] w fun e w'=>e= .returned (.bool true)∧Ext w w':=by
 have Ha:=Lib.hid (fun k (hk:k<4)=>smp_nth ok.sab (i:=k) (by have:=ok.ab;omega));have Hf:=Lib.hid (fun k (hk:k<4)=>smp_nth ok.slf (i:=k) (by have:=ok.lf;omega));have hco:=ok.sco;have L:=Lib.hid ok.ln;clear ok;have p0:=EB.new w ed;have E1:=Ext.alloc w (.cells (edC ed) 106);have cc:=p0.co L.out;have ca:=Lib.hid (fun k (hk:k<4)=>p0.ab L.out hk);have cl:=Lib.hid (fun k (hk:k<4)=>p0.lf L.out hk);go_enter Tryz.func171,Tryz.ntmps171
 go_wp2_with fail
 refine(l1In_yes _ _ _ _ hco.1 hco.2).mono ?_
 rintro e w0 ⟨rfl,rfl⟩
 go_wp2_with fail
 go_loop [4,3] (fun i s=>∃ k:Nat,k≤4∧i= .int .i64 k∧s= .bool true) (fun i _=>4-(intOf i).toNat)
 case atStart=>exact⟨0,by omega,rfl,rfl⟩
 case round =>
  obtain⟨k,hk,rfl,rfl⟩:=hrel
  by_cases hlt:k<4
  ·have hd:decide ((k:Int)<4)=true:=by simp;omega
   have b0:=Ha.out k hlt;have b1:=Hf.out k hlt;have c0:=ca.out k hlt;have c1:=cl.out k hlt;generalize nth ed.ab k=u at *;generalize nth ed.lf k=v at *;go_wp2_with fail
   refine(l1In_yes _ _ _ _ b0.1 b0.2).mono ?_
   rintro e w0 ⟨rfl,rfl⟩
   go_wp2_with fail
   refine(l1In_yes _ _ _ _ b1.1 b1.2).mono ?_
   rintro e w0 ⟨rfl,rfl⟩
   go_wp2;go_round
   case rel=>exact⟨k+1,by omega,by go_num,rfl⟩
   case measure=>simp[intOf];omega
  ·obtain rfl:k=4:=by omega
   go_wp2;go_ret
   exact⟨rfl,E1⟩
/-- The best of the first modes, and its cost. -/
def bb (a:List Int) (e:Ed):Nat→Nat×Int
 | 0=>(0,0)
 | k+1=>if k=0∨tcost a (prd k e)<(bb a e k).2 then(k,tcost a (prd k e))else bb a e k
theorem bb_yes {a:List Int} {e:Ed} {k:Nat} (h:k=0∨tcost a (prd k e)<(bb a e k).2):bb a e (k+1)=(k,tcost a (prd k e)):=by
 show(if _ then _ else _)=_;rw[if_pos h]
theorem bb_no {a:List Int} {e:Ed} {k:Nat} (h0 : ¬ k=0) (h : ¬ tcost a (prd k e)<(bb a e k).2):bb a e (k+1)=bb a e k:=by
 show(if _ then _ else _)=_;rw[if_neg (by omega)]
theorem bb_le (a:List Int) (e:Ed):∀ k:Nat,(bb a e (k+1)).1≤k
 | 0=>by rw[bb_yes (.inl rfl)];exact Nat.le_refl _
 | k+1=>by
  by_cases h:tcost a (prd (k+1) e)<(bb a e (k+1)).2
  ·rw[bb_yes (.inr h)];exact Nat.le_refl _
  ·rw[bb_no (by omega) h];exact Nat.le_succ_of_le (bb_le a e k)
def bst (a:List Int) (e:Ed):Nat:=(bb a e 5).1
theorem bst_le (a:List Int) (e:Ed):bst a e≤4:=bb_le a e 4
theorem impl_BestIntra_any (za:List Int) (ed:Ed) (w:World) (hx:za.length=16) (sx:smp za) (ok:ed.ok) :
 Calls Tryz.prog 76 #[.agg (ic za),.agg (edC ed)] w fun e w'=>e= .returned (.int .i64 (bst za ed:Nat))∧Ext w w':=by
 have Hx:=Lib.hid hx;have Sx:=Lib.hid sx;have Dx:=Lib.hid (show decide (smp za)=true from decide_eq_true sx);have OK:=Lib.hid ok;have HC:=Lib.hid (fun k=>tcost_rng sx (prd_smp k ok) hx (prd_len k ed));have h00:=(tcost_rng sx sx hx hx).1;have h01:decide (tcost za za<0)=false:=decide_eq_false (by omega);have H01:=Lib.hid h01;have HSt:=Lib.hid (show bst za ed=(bb za ed 5).1 from rfl);clear hx sx ok h00 h01;have a2:=Ext.alloc (w.alloc (.cells (ic za) 29)) (.cells (edC ed) 106);have p0:=(IB.new w 29 za).ext a2;have p1:=EB.new (w.alloc (.cells (ic za) 29)) ed;have E1:=(Ext.alloc w (.cells (ic za) 29)).trans a2;simp only[World.size_alloc]at p1;clear a2;go_enter Tryz.func76,Tryz.ntmps76
 go_wp2_with fail
 obtain⟨B,hB⟩:∃ B,B=w.heap.size:=⟨_,rfl⟩;try simp only[World.size_alloc]
 rw[←hB]at p0 p1⊢;have hwB:w.heap.size≤B:=by omega
 have HB0:=Lib.hid hB;clear hB;refine(samplesIn_any (some ⟨B,0,none⟩) 16 16 za _ (by omega) (p0.sl Hx.out)).mono ?_;rw[Dx.out]
 rintro e w0 ⟨rfl,rfl⟩
 go_wp2_with (refine wpList_cload 106 _ rfl rfl p1 rfl _ Tryz.underlying106 rfl 11 size_Edges (edC_size OK.out.ln) ?_)
 refine(impl_EdgesValid_any ed _ OK.out).mono ?_
 rintro e w1 ⟨rfl,e1⟩
 have q0:=p0.ext e1;have q1:=p1.ext e1;have E2:=E1.trans e1;clear p0 p1 E1 e1;go_wp2_with fail
 go_loopw [7,5,6] (fun i s t wr=>∃ k:Nat,k≤5∧i= .int .i64 k∧s= .int .i64 ((bb za ed k).1:Nat)∧t= .int .i64 (bb za ed k).2∧Ext w wr∧IB wr B 29 za∧EB wr (B+1) ed) (fun i _ _ _=>5-(intOf i).toNat)
 case atStart=>exact⟨0,by omega,rfl,rfl,rfl,E2,q0,q1⟩
 case round =>
  obtain⟨k,hk,rfl,rfl,rfl,E4,r0,r1⟩:=hrel;clear E2 q0 q1
  by_cases hlt:k≤4
  ·have hd:decide ((k:Int)≤4)=true:=by simp;omega
   have hCr:=HC.out k;have Hy:=Lib.hid (fun h=>bb_yes (a:=za) (e:=ed) (k:=k) h);have Hn:=Lib.hid (fun h0 h=>bb_no (a:=za) (e:=ed) (k:=k) h0 h);obtain⟨C,hC⟩:∃ C,C=tcost za (prd k ed):=⟨_,rfl⟩;obtain⟨S,hS⟩:∃ S,S=(bb za ed k).2:=⟨_,rfl⟩;obtain⟨b,hb⟩:∃ b,b=(bb za ed k).1:=⟨_,rfl⟩;have Heq:=Lib.hid (show bb za ed k=((bb za ed k).1,(bb za ed k).2)from rfl);rw[←hC]at hCr Hy Hn;rw[←hS]at Hy Hn Heq⊢;rw[←hb]at Heq⊢;have HCe:=Lib.hid hC;clear hC hS hb;have G0:Ext w wr∧IB wr B 29 za∧EB wr (B+1) ed:=⟨E4,r0,r1⟩;clear E4 r0 r1;go_wp2_with fail
   refine wp_region_invL (by kernel_rfl) [(8,5),(21,0),(22,1),(23,2),(24,3),(25,4)] [[],[],[],[1,2],[0,1,2,3],[0,1,2,3,4]] (fun i own ys wx=>match i with|0=>own= .agg (ic za)|1=>own= .agg (edC ed)|2=>own= .int .i64 (k:Nat)|3=>own= .agg (ic (prd k ed))|4=>own= .int .i64 C|5=>own= .int .i64 C|_=>True) (fun Lx wx=>Ext w wx∧IB wx B 29 za∧EB wx (B+1) ed) (by kernel_rfl) (by kernel_rfl) (by kernel_rfl) ?g0_r1 ?gop_r1 ?gend_r1
   case g0_r1=>exact⟨Ext.trans_drewN G0.1 1,G0.2.1.drewN 1,G0.2.2.ext (Ext.drewN _ 1)⟩
   case gop_r1 =>
    refine⟨?o0,?o1,?o2,?o3,?o4,?o5,trivial⟩ <;> (intro Lx xs wx hG hl ha hb hD hI Qo Kx hK hQo;simp only[patchS,Nat.reduceAdd,Nat.reduceEqDiff,↓reduceIte]at hQo⊢)
    case o0 =>
     clear hl ha hb hD hI;go_wp2_with (refine wpList_iload 29 _ rfl rfl hG.2.1 0 16 rfl _ Tryz.underlying29 rfl size_A16 (by rw[Hx.out];omega) _ (by rw[sub_all _ _ (Hx.out)]) ?_)
     exact hK.out _ _ ⟨rfl,hG,kkp⟩
    case o1 =>
     clear hl ha hb hD hI;go_wp2_with (refine wpList_cload 106 _ rfl rfl hG.2.2 rfl _ Tryz.underlying106 rfl 11 size_Edges (edC_size OK.out.ln) ?_)
     exact hK.out _ _ ⟨rfl,hG,kkp⟩
    case o2 =>
     clear hl ha hb hD hI;go_wp2;exact hK.out _ _ ⟨rfl,hG,kkp⟩
    case o3 =>
     clear hl ha hb;rw[ddq (hD 1 rfl),ddq (hD 2 rfl)]at hQo⊢;clear hD hI;go_wp2_with fail
     refine(predict_any ed k _ OK.out (by omega)).mono ?_
     rintro e w9 ⟨rfl,e9⟩
     go_wp2;exact hK.out _ _ ⟨rfl,⟨hG.1.trans e9,hG.2.1.ext e9,hG.2.2.ext e9⟩,fun _ _ _ _ _ _ h=>h⟩
    case o4 =>
     clear hl ha hb;rw[ddq (hD 0 rfl),ddq (hD 3 rfl)]at hQo⊢;clear hD hI;go_wp2_with fail
     refine(impl_TransformCost_any za (prd k ed) _ Hx.out (prd_len _ _) Sx.out (prd_smp _ OK.out)).mono ?_
     rintro e w9 ⟨rfl,e9⟩
     rw[←HCe.out];go_wp2;exact hK.out _ _ ⟨rfl,⟨hG.1.trans e9,hG.2.1.ext e9,hG.2.2.ext e9⟩,fun _ _ _ _ _ _ h=>h⟩
    case o5 =>
     clear hl ha hb;rw[ddq (hD 4 rfl)]at hQo⊢;clear hD hI;go_wp2;exact hK.out _ _ ⟨rfl,hG,kkp⟩
   intro xs wx hV hG0;obtain⟨Lx,hL,hG⟩:=hG0;clear hL;have d5:_=_:=hV 5 (by decide);clear hV;simp only[patchS,Nat.reduceAdd,Nat.reduceEqDiff,↓reduceIte];generalize xs 0=y0,xs 1=y1,xs 2=y2,xs 3=y3,xs 4=y4,xs 5=y5 at *
   replace hG:Ext w wx∧IB wx B 29 za∧EB wx (B+1) ed:=hG
   subst d5;obtain⟨E5,s0,s1⟩:=hG;clear G0
   by_cases h0:k=0
   ·have g0:((k:Int) == 0)=true:=by simp;omega
    ·go_wp2;go_roundw
     case rel =>
      have hn:=Hy.out (.inl h0);exact⟨k+1,by omega,by go_num,by rw[hn],by rw[hn],E5,s0,s1⟩
     case measure=>simp[intOf];omega
   ·have g0:((k:Int) == 0)=false:=by simp;omega
    by_cases h1:C<S
    ·have g1:decide (C<S)=true:=decide_eq_true h1;go_wp2;go_roundw
     case rel =>
      have hn:=Hy.out (.inr h1);exact⟨k+1,by omega,by go_num,by rw[hn],by rw[hn],E5,s0,s1⟩
     case measure=>simp[intOf];omega
    ·have g1:decide (C<S)=false:=decide_eq_false h1;go_wp2;go_roundw
     case rel =>
      have hn:=Hn.out h0 (by omega);exact⟨k+1,by omega,by go_num,by rw[hn,Heq.out],by rw[hn,Heq.out],E5,s0,s1⟩
     case measure=>simp[intOf];omega
  ·obtain rfl:k=5:=by omega
   go_wp2;go_ret
   exact⟨by rw[HSt.out];rfl,E4⟩
theorem spec_BestIntra_any (za:List Int) (ed:Ed) (w:World) (hx:za.length=16) (sx:smp za) (ok:ed.ok) :
 Calls Tryz.prog 154 #[.agg (ic za),.agg (edC ed)] w fun e w'=>e= .returned (.int .i64 (bst za ed:Nat))∧Ext w w':=by
 have Hx:=Lib.hid hx;have Sx:=Lib.hid sx;have Dx:=Lib.hid (show decide (smp za)=true from decide_eq_true sx);have OK:=Lib.hid ok;have HC:=Lib.hid (fun k=>tcost_rng sx (prd_smp k ok) hx (prd_len k ed));have h00:=(tcost_rng sx sx hx hx).1;have h01:decide (tcost za za<0)=false:=decide_eq_false (by omega);have H01:=Lib.hid h01;have HSt:=Lib.hid (show bst za ed=(bb za ed 5).1 from rfl);clear hx sx ok h00 h01;have a2:=Ext.alloc (w.alloc (.cells (ic za) 29)) (.cells (edC ed) 106);have p0:=(IB.new w 29 za).ext a2;have p1:=EB.new (w.alloc (.cells (ic za) 29)) ed;have E1:=(Ext.alloc w (.cells (ic za) 29)).trans a2;simp only[World.size_alloc]at p1;clear a2;go_enter Tryz.func154,Tryz.ntmps154
 go_wp2_with (refine wpList_cload 106 _ rfl rfl p1 rfl _ Tryz.underlying106 rfl 11 size_Edges (edC_size OK.out.ln) ?_)
 obtain⟨B,hB⟩:∃ B,B=w.heap.size:=⟨_,rfl⟩;try simp only[World.size_alloc]
 rw[←hB]at p0 p1⊢;have hwB:w.heap.size≤B:=by omega
 have HB0:=Lib.hid hB;clear hB;refine(spec_EdgesValid_any ed _ OK.out).mono ?_
 rintro e w0 ⟨rfl,e0⟩
 have q0:=p0.ext e0;have q1:=p1.ext e0;have F1:=E1.trans e0;clear p0 p1 E1 e0;have p0:=q0;have p1:=q1;have E1:=F1;clear q0 q1 F1;go_wp2_with (refine wpList_iload 29 _ rfl rfl p0 0 16 rfl _ Tryz.underlying29 rfl size_A16 (by rw[Hx.out];omega) _ (by rw[sub_all _ _ (Hx.out)]) ?_)
 refine(spec_TransformCost_any za za _ Hx.out Hx.out Sx.out Sx.out).mono ?_;have h01:=H01.out;generalize tcost za za=C0 at *
 rintro e w1 ⟨rfl,e1⟩
 have q0:=p0.ext e1;have q1:=p1.ext e1;have E2:=E1.trans e1;clear p0 p1 E1 e1;go_wp2_with fail
 go_loopw [7,5,6] (fun i s t wr=>∃ k:Nat,k≤5∧i= .int .i64 k∧s= .int .i64 (if k=0 then(-1:Int)else((bb za ed k).1:Nat))∧t= .int .i64 (bb za ed k).2∧Ext w wr∧IB wr B 29 za∧EB wr (B+1) ed) (fun i _ _ _=>5-(intOf i).toNat)
 case atStart=>exact⟨0,by omega,rfl,rfl,rfl,E2,q0,q1⟩
 case round =>
  obtain⟨k,hk,rfl,rfl,rfl,E4,r0,r1⟩:=hrel;clear E2 q0 q1;obtain⟨b,hb⟩:∃ b:Int,b=(if k=0 then(-1:Int)else((bb za ed k).1:Nat)):=⟨_,rfl⟩;rw[←hb];have Hb0:=Lib.hid (show k=0→b = -1 from fun h=>by rw[hb,if_pos h]);have Hb1:=Lib.hid (show ¬ k=0→b=((bb za ed k).1:Nat)from fun h=>by rw[hb,if_neg h]);clear hb
  by_cases hlt:k≤4
  ·have hd:decide ((k:Int)≤4)=true:=by simp;omega
   have hCr:=HC.out k;have Hy:=Lib.hid (fun h=>bb_yes (a:=za) (e:=ed) (k:=k) h);have Hn:=Lib.hid (fun h0 h=>bb_no (a:=za) (e:=ed) (k:=k) h0 h);obtain⟨C,hC⟩:∃ C,C=tcost za (prd k ed):=⟨_,rfl⟩;obtain⟨S,hS⟩:∃ S,S=(bb za ed k).2:=⟨_,rfl⟩;have Heq:=Lib.hid (show bb za ed k=((bb za ed k).1,(bb za ed k).2)from rfl);rw[←hC]at hCr Hy Hn;rw[←hS]at Hy Hn Heq⊢;have HCe:=Lib.hid hC;clear hC hS;have G0:Ext w wr∧IB wr B 29 za∧EB wr (B+1) ed:=⟨E4,r0,r1⟩;clear E4 r0 r1;go_wp2_with fail
   refine wp_region_invL (by kernel_rfl) [(8,5),(23,0),(24,1),(25,2),(26,3),(27,4)] [[],[],[],[1,2],[0,1,2,3],[0,1,2,3,4]] (fun i own ys wx=>match i with|0=>own= .agg (ic za)|1=>own= .int .i64 (k:Nat)|2=>own= .agg (edC ed)|3=>own= .agg (ic (prd k ed))|4=>own= .int .i64 C|5=>own= .int .i64 C|_=>True) (fun Lx wx=>Ext w wx∧IB wx B 29 za∧EB wx (B+1) ed) (by kernel_rfl) (by kernel_rfl) (by kernel_rfl) ?g0_r2 ?gop_r2 ?gend_r2
   case g0_r2=>exact⟨Ext.trans_drewN G0.1 1,G0.2.1.drewN 1,G0.2.2.ext (Ext.drewN _ 1)⟩
   case gop_r2 =>
    refine⟨?o0,?o1,?o2,?o3,?o4,?o5,trivial⟩ <;> (intro Lx xs wx hG hl ha hb hD hI Qo Kx hK hQo;simp only[patchS,Nat.reduceAdd,Nat.reduceEqDiff,↓reduceIte]at hQo⊢)
    case o0 =>
     clear hl ha hb hD hI;go_wp2_with (refine wpList_iload 29 _ rfl rfl hG.2.1 0 16 rfl _ Tryz.underlying29 rfl size_A16 (by rw[Hx.out];omega) _ (by rw[sub_all _ _ (Hx.out)]) ?_)
     exact hK.out _ _ ⟨rfl,hG,kkp⟩
    case o1 =>
     clear hl ha hb hD hI;go_wp2;exact hK.out _ _ ⟨rfl,hG,kkp⟩
    case o2 =>
     clear hl ha hb hD hI;go_wp2_with (refine wpList_cload 106 _ rfl rfl hG.2.2 rfl _ Tryz.underlying106 rfl 11 size_Edges (edC_size OK.out.ln) ?_)
     exact hK.out _ _ ⟨rfl,hG,kkp⟩
    case o3 =>
     clear hl ha hb;rw[ddq (hD 1 rfl),ddq (hD 2 rfl)]at hQo⊢;clear hD hI;go_wp2_with fail
     refine(l6Predict_any ed k _ OK.out (by omega)).mono ?_
     rintro e w9 ⟨rfl,e9⟩
     go_wp2;exact hK.out _ _ ⟨rfl,⟨hG.1.trans e9,hG.2.1.ext e9,hG.2.2.ext e9⟩,fun _ _ _ _ _ _ h=>h⟩
    case o4 =>
     clear hl ha hb;rw[ddq (hD 0 rfl),ddq (hD 3 rfl)]at hQo⊢;clear hD hI;go_wp2_with fail
     refine(spec_TransformCost_any za (prd k ed) _ Hx.out (prd_len _ _) Sx.out (prd_smp _ OK.out)).mono ?_
     rintro e w9 ⟨rfl,e9⟩
     rw[←HCe.out];go_wp2;exact hK.out _ _ ⟨rfl,⟨hG.1.trans e9,hG.2.1.ext e9,hG.2.2.ext e9⟩,fun _ _ _ _ _ _ h=>h⟩
    case o5 =>
     clear hl ha hb;rw[ddq (hD 4 rfl)]at hQo⊢;clear hD hI;go_wp2;exact hK.out _ _ ⟨rfl,hG,kkp⟩
   intro xs wx hV hG0;obtain⟨Lx,hL,hG⟩:=hG0;clear hL;have d5:_=_:=hV 5 (by decide);clear hV;simp only[patchS,Nat.reduceAdd,Nat.reduceEqDiff,↓reduceIte];generalize xs 0=y0,xs 1=y1,xs 2=y2,xs 3=y3,xs 4=y4,xs 5=y5 at *
   replace hG:Ext w wx∧IB wx B 29 za∧EB wx (B+1) ed:=hG
   subst d5;obtain⟨E5,s0,s1⟩:=hG;clear G0
   by_cases h0:k=0
   ·have g0:decide (b<0)=true:=by have:=Hb0.out h0;simp;omega
    ·go_wp2;go_roundw
     case rel =>
      have hn:=Hy.out (.inl h0);exact⟨k+1,by omega,by go_num,by rw[if_neg (by omega),hn],by rw[hn],E5,s0,s1⟩
     case measure=>simp[intOf];omega
   ·have g0:decide (b<0)=false:=by have:=Hb1.out h0;simp;omega
    by_cases h1:C<S
    ·have g1:decide (C<S)=true:=decide_eq_true h1;go_wp2;go_roundw
     case rel =>
      have hn:=Hy.out (.inr h1);exact⟨k+1,by omega,by go_num,by rw[if_neg (by omega),hn],by rw[hn],E5,s0,s1⟩
     case measure=>simp[intOf];omega
    ·have g1:decide (C<S)=false:=decide_eq_false h1;go_wp2;go_roundw
     case rel =>
      have hn:=Hn.out h0 (by omega);exact⟨k+1,by omega,by go_num,by rw[if_neg (by omega),hn,Hb1.out h0],by rw[hn,Heq.out],E5,s0,s1⟩
     case measure=>simp[intOf];omega
  ·obtain rfl:k=5:=by omega
   have hb5:=Hb1.out (by omega);go_wp2;go_ret
   exact⟨by rw[HSt.out,←hb5];rfl,E4⟩
section
variable (t p : Pic) (x y q : Nat) (top : Int)
def inE (Z:List Int) (k:Nat):Ed:=edg ⟨p.w,p.h,Z⟩ ((x+k%2*4:Nat):Int) ((y+k/2*4:Nat):Int) top
def inU (k:Nat):List Int:=prt t ((x+k%2*4:Nat):Int) ((y+k/2*4:Nat):Int)
def inM (Z:List Int) (k:Nat):Nat:=bst (inU t x y k) (inE p x y top Z k)
def inP (Z:List Int) (k:Nat):List Int:=prd (inM t p x y top Z k) (inE p x y top Z k)
def inL (Z:List Int) (k:Nat):List Int:=cod (dif (inU t x y k) (inP t p x y top Z k)) q
/-- Of the first k blocks: the picture, the modes, the levels. -/
def inS : Nat→List Int×List Int×List Int
 | 0=>(p.px,zero4,zl 64)
 | k+1=>(putS (inS k).1 p.w.toNat (x+k%2*4) (y+k/2*4) (inP t p x y top (inS k).1 k) (dec (inL t p x y q top (inS k).1 k) q) 16,
  (inS k).2.1.set k (inM t p x y top (inS k).1 k:Nat),spl (inS k).2.2 (k*16) (inL t p x y q top (inS k).1 k))
def inMac (k:Nat):Mac:=⟨2,0,0,(inS t p x y q top k).2.1,(inS t p x y q top k).2.2⟩
end
theorem inS_len (t p:Pic) (x y q:Nat) (top:Int):∀ k:Nat,(inS t p x y q top k).1.length=p.px.length
 | 0=>rfl
 | k+1=>by
  show(putS _ _ _ _ _ _ _).length=_;rw[putS_len,inS_len t p x y q top k]
theorem inS_modes (t p:Pic) (x y q:Nat) (top:Int):∀ k:Nat,(inS t p x y q top k).2.1.length=4
 | 0=>rfl
 | k+1=>by
  show(List.set _ _ _).length=_;rw[List.length_set,inS_modes t p x y q top k]
theorem inS_lv (t p:Pic) (x y q:Nat) (top:Int):∀ k:Nat,k≤4→(inS t p x y q top k).2.2.length=64
 | 0,_=>zl_len 64
 | k+1,h=>by
  have ih:=inS_lv t p x y q top k (by omega);show(spl _ _ _).length=_;rw[spl_len (by rw[show(inL t p x y q top (inS t p x y q top k).1 k).length=16 from cod_len _ _,ih];omega),ih]
theorem inMac_ok (t p:Pic) (x y q:Nat) (top:Int) {k:Nat} (h:k≤4):(inMac t p x y q top k).ok:=⟨inS_modes _ _ _ _ _ _ _,inS_lv _ _ _ _ _ _ _ h⟩
theorem inS_smp (t:Pic) {p:Pic} (h:smp p.px) (x y q:Nat) (top:Int):∀ k:Nat,smp (inS t p x y q top k).1
 | 0=>h
 | k+1=>putS_smp (inS_smp t h x y q top k) _ _ _ _ _ _
theorem inS_valid (t:Pic) {p:Pic} (h:p.valid) (x y q:Nat) (top:Int) (k:Nat):Pic.valid ⟨p.w,p.h,(inS t p x y q top k).1⟩ :=
 ⟨h.1,h.2.1,by show((inS t p x y q top k).1.length:Int)=_;rw[inS_len];exact h.2.2.1,inS_smp t h.2.2.2 _ _ _ _ _⟩
theorem Mac.set_md {m:Mac} (h:m.ok) {k:Nat} (hk:k<4) (v:Int):m.zs.set (3+k) v=Mac.zs { m with modes:=m.modes.set k v } := by
 have e:m.zs = [m.kind,m.x,m.y]++(m.modes++m.lv):=by simp[Mac.zs]
 rw[e,List.set_append_right _ _ (by simp),show 3+k - [m.kind,m.x,m.y].length=k by simp,List.set_append_left _ _ (by rw[h.modes];exact hk)];simp[Mac.zs]
/-- The two stores of a round. -/
theorem inMac_md (t p:Pic) (x y q:Nat) (top:Int) {k:Nat} (h:k<4):(inMac t p x y q top k).zs.set (3+k) (inM t p x y top (inS t p x y q top k).1 k:Nat)=Mac.zs ⟨2,0,0,(inS t p x y q top (k+1)).2.1,(inS t p x y q top k).2.2⟩ :=
 Mac.set_md (inMac_ok t p x y q top (by omega)) h _
theorem inMac_lv (t p:Pic) (x y q:Nat) (top:Int) {k:Nat} (h:k<4):spl (Mac.zs ⟨2,0,0,(inS t p x y q top (k+1)).2.1,(inS t p x y q top k).2.2⟩) (7+k*16) (inL t p x y q top (inS t p x y q top k).1 k)=(inMac t p x y q top (k+1)).zs :=
 Mac.spl_lv (m:=⟨2,0,0,(inS t p x y q top (k+1)).2.1,(inS t p x y q top k).2.2⟩) ⟨inS_modes _ _ _ _ _ _ _,inS_lv _ _ _ _ _ _ _ (by omega)⟩ _ _
theorem inMac_build : Tryz.zeroCells32.setIfInBounds 0 (.int .i64 2)=ic (Mac.zs ⟨2,0,0,zero4,zl 64⟩):=by kernel_rfl
def okN (t p:Pic) (x y q top:Int):Prop:=alikeP t p∧placeP t x y∧(0≤q∧q≤15)∧(0≤top∧top≤y)
noncomputable instance (t p : Pic) (x y q top : Int) : Decidable (okN t p x y q top) := Classical.propDecidable _
noncomputable def intraP (t p : Pic) (x y q top : Int) : Mac := if okN t p x y q top then inMac t p x.toNat y.toNat q.toNat top 4 else mac0
theorem intraP_yes {t p:Pic} {x y q top:Int} (h:okN t p x y q top):intraP t p x y q top=inMac t p x.toNat y.toNat q.toNat top 4:=if_pos h
theorem intraP_no {t p:Pic} {x y q top:Int} (h : ¬ okN t p x y q top):intraP t p x y q top=mac0:=if_neg h
theorem intraP_ok (t p:Pic) (x y q top:Int):(intraP t p x y q top).ok:=by
 by_cases h:okN t p x y q top
 ·rw[intraP_yes h];exact inMac_ok _ _ _ _ _ _ (Nat.le_refl _)
 ·rw[intraP_no h];exact mac0_ok
/-- What both walks keep: the copy (a row and its structure), the macroblock, the two zero places. -/
structure NS (w : World) (g n c : Nat) (tw th : Int) (a : Option Addr) (nt ct W H B O M : Nat) (Z ms : List Int) (wx : World) : Prop where
 ex:Ext w wx
 own:wx.ownsRow w.heap.size 3 1 (.slice (some ⟨g,0,none⟩) n c) n (Z.map (Value.int .i64))
 bt:wx.heap[B]?=some (.cells #[.int .i64 tw,.int .i64 th,.slice a nt ct] 25 (0,0))
 br:wx.heap[O]?=some (.cells #[.int .i64 W,.int .i64 H,.slice (some ⟨g,0,none⟩) n c] 25 (0,0))
 bz:IB wx (B+1+1) 32 (zl 71)
 bm:IB wx M 32 ms
 h1:w.heap.size≤B∧w.heap.size≤g∧w.heap.size≤O∧w.heap.size≤M
 h2:B≠g∧O≠g∧B+1+1≠g∧M≠g∧M≠B∧M≠O∧M≠B+1+1
section
variable {w wx wy : World} {g n c nt ct W H B O M : Nat} {tw th : Int} {a : Option Addr} {Z Z' ms ms' : List Int}
theorem NS.e (h:NS w g n c tw th a nt ct W H B O M Z ms wx) (e:Ext wx wy):NS w g n c tw th a nt ct W H B O M Z ms wy :=
 ⟨h.ex.trans e,owns_ext h.own e,e.blk h.bt,e.blk h.br,h.bz.ext e,h.bm.ext e,h.h1,h.h2⟩
theorem NS.lt (h:NS w g n c tw th a nt ct W H B O M Z ms wx):B<wx.heap.size∧g<wx.heap.size∧O<wx.heap.size∧M<wx.heap.size∧B+1+1<wx.heap.size :=
 ⟨lt_of_block h.bt,(h.own.lt g rfl).2,lt_of_block h.br,h.bm.lt,h.bz.lt⟩
theorem NS.put (h:NS w g n c tw th a nt ct W H B O M Z ms wx) (gr:wx.grownBy wy (some g)) (own:wy.ownsRow w.heap.size 3 1 (.slice (some ⟨g,0,none⟩) n c) n (Z'.map (Value.int .i64))):NS w g n c tw th a nt ct W H B O M Z' ms wy:=by
 have a1:=h.h1;have a2:=h.h2;exact⟨Ext.grown h.ex gr (fun k hk=>by cases hk;omega),own,blk_gr h.bt gr (by simp;omega),blk_gr h.br gr (by simp;omega),h.bz.gr gr (by simp;omega),h.bm.gr gr (by simp;omega),a1,a2⟩
theorem NS.mac (h:NS w g n c tw th a nt ct W H B O M Z ms wx) (gr:wx.grownBy wy (some M)) (i:IB wy M 32 ms'):NS w g n c tw th a nt ct W H B O M Z ms' wy:=by
 have a1:=h.h1;have a2:=h.h2;exact⟨Ext.grown h.ex gr (fun k hk=>by cases hk;omega),h.own.kept gr (.inr (by simp[Value.ownBlock];omega)),blk_gr h.bt gr (by simp;omega),blk_gr h.br gr (by simp;omega),h.bz.gr gr (by simp;omega),i,a1,a2⟩
theorem NS.loc {b K:Nat} (h:NS w g n c tw th a nt ct W H B O M Z ms wx) (gr:wx.grownBy wy (some b)) (hb:K≤b) (hK:w.heap.size≤K∧B<K∧g<K∧O<K∧M<K∧B+1+1<K):NS w g n c tw th a nt ct W H B O M Z ms wy:=by
 have a1:=h.h1;exact⟨Ext.grown h.ex gr (fun k hk=>by cases hk;omega),h.own.kept gr (.inr (by simp[Value.ownBlock];omega)),blk_gr h.bt gr (by simp;omega),blk_gr h.br gr (by simp;omega),h.bz.gr gr (by simp;omega),h.bm.gr gr (by simp;omega),a1,h.h2⟩
/-- A place for a block of integers, or for the samples around a block, that came to be behind K. -/
def IA (w:World) (K:Nat) (v:Value):Prop:=∃(b:Nat) (us:List Int),v= .pointer (some ⟨b,0,none⟩)∧K≤b∧IB w b 29 us∧us.length=16
def EA (w:World) (K:Nat) (v:Value):Prop:=∃(b:Nat) (u:Ed),v= .pointer (some ⟨b,0,none⟩)∧K≤b∧EB w b u∧u.ln
def IS (w:World) (K:Nat) (v:Value) (U:List Int):Prop:=∃ b:Nat,v= .pointer (some ⟨b,0,none⟩)∧K≤b∧IB w b 29 U
def ES (w:World) (K:Nat) (v:Value) (E:Ed):Prop:=∃ b:Nat,v= .pointer (some ⟨b,0,none⟩)∧K≤b∧EB w b E
/-- One block of integers, or one of samples around a block, was written. -/
def StI (wx wy:World):Prop:=∃(b:Nat) (us vs:List Int),wx.grownBy wy (some b)∧IB wx b 29 us∧IB wy b 29 vs∧vs.length=16
def StE (wx wy:World):Prop:=∃(b:Nat) (u v:Ed),wx.grownBy wy (some b)∧EB wx b u∧EB wy b v∧v.ln
theorem IB.ne_E {b d:Nat} {us:List Int} {u:Ed} (h:IB w b 29 us) (k:EB w d u):b≠d:=by
 intro e;subst e;have h1:w.heap[b]?=some (.cells (ic us) 29 (0,0)):=h;have h2:w.heap[b]?=some (.cells (edC u) 106 (0,0)):=k;rw[h1]at h2;simp only[Option.some.injEq,Obj.cells.injEq]at h2;exact absurd h2.2.1 (by decide)
variable {K : Nat} {v : Value} {U : List Int} {E : Ed}
theorem IA.ext (h:IA wx K v) (e:Ext wx wy):IA wy K v:=by obtain⟨b,us,h1,h2,h3,h4⟩:=h;exact⟨b,us,h1,h2,h3.ext e,h4⟩
theorem EA.ext (h:EA wx K v) (e:Ext wx wy):EA wy K v:=by obtain⟨b,us,h1,h2,h3,h4⟩:=h;exact⟨b,us,h1,h2,h3.ext e,h4⟩
theorem IS.ext (h:IS wx K v U) (e:Ext wx wy):IS wy K v U:=by obtain⟨b,h1,h2,h3⟩:=h;exact⟨b,h1,h2,h3.ext e⟩
theorem ES.ext (h:ES wx K v E) (e:Ext wx wy):ES wy K v E:=by obtain⟨b,h1,h2,h3⟩:=h;exact⟨b,h1,h2,h3.ext e⟩
theorem IA.stI (h:IA wx K v) (s:StI wx wy):IA wy K v:=by
 obtain⟨b,us,h1,h2,h3,h4⟩:=h;obtain⟨d,u1,u2,s1,s2,s3,s4⟩:=s
 by_cases e:b=d
 ·subst e;exact⟨b,u2,h1,h2,s3,s4⟩
 ·exact⟨b,us,h1,h2,h3.gr s1 (by simp;omega),h4⟩
theorem IA.stE (h:IA wx K v) (s:StE wx wy):IA wy K v:=by
 obtain⟨b,us,h1,h2,h3,h4⟩:=h;obtain⟨d,u1,u2,s1,s2,s3,s4⟩:=s;have:=h3.ne_E s2;exact⟨b,us,h1,h2,h3.gr s1 (by simp;omega),h4⟩
theorem EA.stE (h:EA wx K v) (s:StE wx wy):EA wy K v:=by
 obtain⟨b,us,h1,h2,h3,h4⟩:=h;obtain⟨d,u1,u2,s1,s2,s3,s4⟩:=s
 by_cases e:b=d
 ·subst e;exact⟨b,u2,h1,h2,s3,s4⟩
 ·exact⟨b,us,h1,h2,h3.gr s1 (by simp;omega),h4⟩
theorem EA.stI (h:EA wx K v) (s:StI wx wy):EA wy K v:=by
 obtain⟨b,us,h1,h2,h3,h4⟩:=h;obtain⟨d,u1,u2,s1,s2,s3,s4⟩:=s;have:=s2.ne_E h3;exact⟨b,us,h1,h2,h3.gr s1 (by simp;omega),h4⟩
theorem IS.stE (h:IS wx K v U) (s:StE wx wy):IS wy K v U:=by
 obtain⟨b,h1,h2,h3⟩:=h;obtain⟨d,u1,u2,s1,s2,s3,s4⟩:=s;have:=h3.ne_E s2;exact⟨b,h1,h2,h3.gr s1 (by simp;omega)⟩
theorem ES.stI (h:ES wx K v E) (s:StI wx wy):ES wy K v E:=by
 obtain⟨b,h1,h2,h3⟩:=h;obtain⟨d,u1,u2,s1,s2,s3,s4⟩:=s;have:=s2.ne_E h3;exact⟨b,h1,h2,h3.gr s1 (by simp;omega)⟩
end
end Go.Proofs.YtbnhaegidfbgbaaGreatDoor
namespace Go.Proofs.YtbnhaegidfbgbaaGreatDoor
open Go.RowKit
theorem fill_seg (zs ys:List Int) (off:Nat) (h:off+zs.length≤ys.length):(ic zs).zipIdx.foldl (fun cs (x:Value×Nat)=>cs.setIfInBounds (off+x.2) x.1) (ic ys)=ic (spl ys off zs):=by
 have key:∀(zs ys:List Int) (k:Nat),off+k+zs.length≤ys.length→((zs.map (Value.int .i64)).zipIdx k).foldl (fun cs (x:Value×Nat)=>cs.setIfInBounds (off+x.2) x.1) (ic ys)=ic (spl ys (off+k) zs):=by
  intro zs
  induction zs with
  | nil=>intro ys k _;simp[spl_nil]
  | cons z zs ih =>
   intro ys k hk;simp only[List.length_cons]at hk;rw[List.map_cons,List.zipIdx_cons,List.foldl_cons];have e:(ic ys).setIfInBounds (off+k) (.int .i64 z)=ic (ys.set (off+k) z):=by simp[ic,List.map_set]
   rw[e,ih _ _ (by simp;omega),show off+(k+1)=off+k+1 by omega,spl_cons (by omega)]
 have:=key zs ys 0 (by omega);rw[Nat.add_zero]at this;rw[←this,←Array.foldl_toList];simp[ic]
theorem zrow2 : (Array.range (2*71)).map (fun i=>Tryz.zeroCells32[i%Tryz.zeroCells32.size]!)=ic (zl 142):=by kernel_rfl
theorem zrow3 : (Array.range (3*71)).map (fun i=>Tryz.zeroCells32[i%Tryz.zeroCells32.size]!)=ic (zl 213):=by kernel_rfl
theorem info_Mc : (Tryz.prog.info? 32).map (fun i=>(i.zero,i.size))=some (some (.agg Tryz.zeroCells32),71):=by kernel_rfl
theorem spl_app (xs ys zs:List Int):spl (xs++zs) xs.length ys=xs++(ys++zs.drop ys.length):=by
 unfold spl;rw[List.take_left,List.append_assoc,List.drop_append,List.drop_of_length_le (by omega)];simp
theorem fill_cons {place:Nat→Option (Nat×Nat)} {i off size:Nat} {zs ys:List Int} (rest:List (Nat×Value)) (hp:place i=some (off,size)) (hz:zs.length=size) (h:off+size≤ys.length) :
 Instr.fill place (ic ys) ((i,.agg (ic zs))::rest)=Instr.fill place (ic (spl ys off zs)) rest:=by
 have hs:=fill_seg zs ys off (by omega);have e:Instr.fill place (ic ys) ((i,.agg (ic zs))::rest)=if(ic zs).size≠size || off+(ic zs).size>(ic ys).size then none else Instr.fill place ((ic zs).zipIdx.foldl (fun cs (x:Value×Nat)=>cs.setIfInBounds (off+x.2) x.1) (ic ys)) rest:=by
  rw[Instr.fill,hp];rfl
 rw[e,if_neg (by simp[ic_size];omega),hs]
theorem spl2 (z0 z1:List Int) (h0:z0.length=71) (h1:z1.length=71):spl (spl (zl 142) 0 z0) 71 z1=z0++z1:=by
 have a:spl (zl 142) 0 z0=z0++zl 71:=by unfold spl;rw[h0];rfl
 have:=spl_app z0 z1 (zl 71);rw[h0,h1]at this;rw[a,this];simp[zl]
theorem spl3 (z0 z1 z2:List Int) (h0:z0.length=71) (h1:z1.length=71) (h2:z2.length=71):spl (spl (spl (zl 213) 0 z0) 71 z1) 142 z2=z0++z1++z2:=by
 have a:spl (zl 213) 0 z0=z0++zl 142:=by unfold spl;rw[h0];rfl
 have b:=spl_app z0 z1 (zl 142);rw[h0,h1,←List.append_assoc,show(zl 142).drop 71=zl 71 by decide]at b;have d:=spl_app (z0++z1) z2 (zl 71);rw[List.length_append,h0,h1,h2]at d;rw[a,b,d];simp[zl]
theorem run_bs2 (w:World) (z0 z1:List Int) (h0:z0.length=71) (h1:z1.length=71) :
 (Instr.buildSlice 55 2 #[(0,.agg (ic z0)),(1,.agg (ic z1))]).run Tryz.prog w= .ok (.slice (some ⟨w.heap.size,0,none⟩) 2 2) (w.alloc (.cells (ic (z0++z1)) 32)):=by
 have hi:∃ i,Tryz.prog.info? 32=some i∧i.zero=some (.agg Tryz.zeroCells32)∧i.size=71:=by
  have:=info_Mc;cases hq:Tryz.prog.info? 32 with
  | none=>rw[hq]at this;simp at this
  | some i=>rw[hq]at this;simp at this;exact⟨i,rfl,this.1,this.2⟩
 obtain⟨i,hi,hz,hs⟩:=hi;have hf:Instr.fill (fun i=>some (i*71,71)) ((Array.range (2*71)).map (fun i=>Tryz.zeroCells32[i%Tryz.zeroCells32.size]!)) [(0,.agg (ic z0)),(1,.agg (ic z1))]=some (ic (z0++z1)):=by
  rw[zrow2,fill_cons _ rfl h0 (by rw[zl_len];omega),fill_cons _ rfl h1 (by rw[spl_len (by rw[h0,zl_len];omega),zl_len];omega),Nat.zero_mul,Nat.one_mul,spl2 z0 z1 h0 h1];rfl
 have hsz:(sizeOf 32).run Tryz.prog w= .ok 71 w:=by simp[sizeOf,typeInfo,hi,hs]
 have hzv:(zeroValue 32).run Tryz.prog w= .ok (.agg Tryz.zeroCells32) w:=by simp[zeroValue,typeInfo,hi,hz]
 unfold Instr.buildSlice;rw[Sem.run_bind,run_underlying Tryz.underlying55 w,Result.andThen_ok];show Sem.run _ (do let size ←sizeOf 32;_) w=_;rw[Sem.run_bind,hsz,Result.andThen_ok,if_neg (by decide),if_neg (by decide)];simp only[Sem.run_bind,hzv,Result.andThen_ok,Sem.run_pure,Value.cells];rw[hf];rfl
theorem run_bs3 (w:World) (z0 z1 z2:List Int) (h0:z0.length=71) (h1:z1.length=71) (h2:z2.length=71) :
 (Instr.buildSlice 55 3 #[(0,.agg (ic z0)),(1,.agg (ic z1)),(2,.agg (ic z2))]).run Tryz.prog w= .ok (.slice (some ⟨w.heap.size,0,none⟩) 3 3) (w.alloc (.cells (ic (z0++z1++z2)) 32)):=by
 have hi:∃ i,Tryz.prog.info? 32=some i∧i.zero=some (.agg Tryz.zeroCells32)∧i.size=71:=by
  have:=info_Mc;cases hq:Tryz.prog.info? 32 with
  | none=>rw[hq]at this;simp at this
  | some i=>rw[hq]at this;simp at this;exact⟨i,rfl,this.1,this.2⟩
 obtain⟨i,hi,hz,hs⟩:=hi;have l1:(spl (zl 213) 0 z0).length=213:=by rw[spl_len (by rw[h0,zl_len];omega),zl_len]
 have l2:(spl (spl (zl 213) 0 z0) 71 z1).length=213:=by rw[spl_len (by rw[h1,l1];omega),l1]
 have hf:Instr.fill (fun i=>some (i*71,71)) ((Array.range (3*71)).map (fun i=>Tryz.zeroCells32[i%Tryz.zeroCells32.size]!)) [(0,.agg (ic z0)),(1,.agg (ic z1)),(2,.agg (ic z2))]=some (ic (z0++z1++z2)):=by
  rw[zrow3,fill_cons _ rfl h0 (by rw[zl_len];omega),Nat.zero_mul,fill_cons _ rfl h1 (by rw[l1];omega),Nat.one_mul,fill_cons _ rfl h2 (by rw[l2];omega),spl3 z0 z1 z2 h0 h1 h2];rfl
 have hsz:(sizeOf 32).run Tryz.prog w= .ok 71 w:=by simp[sizeOf,typeInfo,hi,hs]
 have hzv:(zeroValue 32).run Tryz.prog w= .ok (.agg Tryz.zeroCells32) w:=by simp[zeroValue,typeInfo,hi,hz]
 unfold Instr.buildSlice;rw[Sem.run_bind,run_underlying Tryz.underlying55 w,Result.andThen_ok];show Sem.run _ (do let size ←sizeOf 32;_) w=_;rw[Sem.run_bind,hsz,Result.andThen_ok,if_neg (by decide),if_neg (by decide)];simp only[Sem.run_bind,hzv,Result.andThen_ok,Sem.run_pure,Value.cells];rw[hf];rfl
theorem wpList_bs2 {ops:Array Oper} {rest:List Oper} {o:Oper} {a:Act} {w:World} {Q:Exit→Act→World→Prop} (x0 x1:Operand) (ho:o.op= .buildSlice 55 2 #[(0,x0),(1,x1)]) (hgd:Region.wanted o (yielded ops a.tmps)=true)
 (z0 z1:List Int) (e0:a.eval x0= .agg (ic z0)) (e1:a.eval x1= .agg (ic z1)) (h0:z0.length=71) (h1:z1.length=71)
 (hK:wpList Tryz.prog ops Q rest (a.put o.dst (.slice (some ⟨w.heap.size,0,none⟩) 2 2)) (w.alloc (.cells (ic (z0++z1)) 32))):wpList Tryz.prog ops Q (o::rest) a w:=by
 refine wpList_wanted hgd fun _ hK' => ?_
 unfold Oper.wp execOp;have h:=run_bs2 w z0 z1 h0 h1;rw[←e0,←e1]at h;simp only[ho,List.map_toArray,List.map_cons,List.map_nil,Sem.run_bind,Sem.run_pure,Result.andThen_ok,h];exact hK' _ _ hK
theorem wpList_bs3 {ops:Array Oper} {rest:List Oper} {o:Oper} {a:Act} {w:World} {Q:Exit→Act→World→Prop} (x0 x1 x2:Operand) (ho:o.op= .buildSlice 55 3 #[(0,x0),(1,x1),(2,x2)]) (hgd:Region.wanted o (yielded ops a.tmps)=true)
 (z0 z1 z2:List Int) (e0:a.eval x0= .agg (ic z0)) (e1:a.eval x1= .agg (ic z1)) (e2:a.eval x2= .agg (ic z2)) (h0:z0.length=71) (h1:z1.length=71) (h2:z2.length=71)
 (hK:wpList Tryz.prog ops Q rest (a.put o.dst (.slice (some ⟨w.heap.size,0,none⟩) 3 3)) (w.alloc (.cells (ic (z0++z1++z2)) 32))):wpList Tryz.prog ops Q (o::rest) a w:=by
 refine wpList_wanted hgd fun _ hK' => ?_
 unfold Oper.wp execOp;have h:=run_bs3 w z0 z1 z2 h0 h1 h2;rw[←e0,←e1,←e2]at h;simp only[ho,List.map_toArray,List.map_cons,List.map_nil,Sem.run_bind,Sem.run_pure,Result.andThen_ok,h];exact hK' _ _ hK
end Go.Proofs.YtbnhaegidfbgbaaGreatDoor
