/- The prediction of a block from the samples around it: both sides. | The prediction of a block from the samples around it: the reference's. | Tests on pictures: both sides. -/
import Derived.Test.YtbnhaegidfbgbaaGreatDoorQr7
import Derived.Laws.EntriesVeiled
set_option linter.unusedVariables false
set_option linter.unusedSimpArgs false
set_option maxRecDepth 100000
set_option maxHeartbeats 4000000
namespace Go.Proofs.YtbnhaegidfbgbaaGreatDoor
open Go.RowKit
theorem bx5m {w:World} {b:Nat} {x0 x1 x2 x3 x4:Value} {T:TypeId} (h:w.heap[b]?=some (.cells #[x0,x1,x2,x3,x4] T (0,0))):w.cell? ⟨b,0,none⟩=some x0∧w.cell? ⟨b,1,none⟩=some x1∧w.cell? ⟨b,2,none⟩=some x2∧w.cell? ⟨b,3,none⟩=some x3∧w.cell? ⟨b,4,none⟩=some x4 :=
 ⟨by simp[World.cell?,h],by simp[World.cell?,h],by simp[World.cell?,h],by simp[World.cell?,h],by simp[World.cell?,h]⟩
theorem prd_mix (m:Nat) (e:Ed) {k:Nat} (hk:k<16):(mixI (prd m e) (List.replicate 16 0) k).set k (prd1 m e (k%4) (k/4))=mixI (prd m e) (List.replicate 16 0) (k+1):=by
 rw[←nth_prd m e hk,mixI_set _ _ _ 16 (prd_len _ _) lenZ hk]
theorem predict_0 (e:Ed) (w:World) (ok:e.ok) :
 Calls Tryz.prog 77 #[.agg (edC e),.int .i64 0] w fun r w'=>r= .returned (.agg (ic (prd 0 e)))∧Ext w w':=by
 have OK:=Lib.hid ok;have HI:=Lib.hid (prd_len 0 e);have Hm:=Lib.hid (fun(k:Nat) (hk:k<16)=>prd_mix 0 e hk);have a2:=Ext.alloc (w.alloc (.cells (edC e) 106)) (.cells (ic (List.replicate 16 0)) 29);have a3:=Ext.alloc ((w.alloc (.cells (edC e) 106)).alloc (.cells (ic (List.replicate 16 0)) 29)) (.cells #[.func (.func 120) #[] #[],.func (.func 121) #[] #[],.func (.func 122) #[] #[],.func (.func 123) #[] #[],.func (.func 124) #[] #[]] 146);have a4:=Ext.alloc (((w.alloc (.cells (edC e) 106)).alloc (.cells (ic (List.replicate 16 0)) 29)).alloc (.cells #[.func (.func 120) #[] #[],.func (.func 121) #[] #[],.func (.func 122) #[] #[],.func (.func 123) #[] #[],.func (.func 124) #[] #[]] 146)) (.cells (ic (List.replicate 16 0)) 29);have p0:=(((EB.new w e).ext a2).ext a3).ext a4;have p1:=((IB.new (w.alloc (.cells (edC e) 106)) 29 (List.replicate 16 0)).ext a3).ext a4;have p2:=a4.blk (blk_new ((w.alloc (.cells (edC e) 106)).alloc (.cells (ic (List.replicate 16 0)) 29)) (.cells #[.func (.func 120) #[] #[],.func (.func 121) #[] #[],.func (.func 122) #[] #[],.func (.func 123) #[] #[],.func (.func 124) #[] #[]] 146));have p3:=IB.new (((w.alloc (.cells (edC e) 106)).alloc (.cells (ic (List.replicate 16 0)) 29)).alloc (.cells #[.func (.func 120) #[] #[],.func (.func 121) #[] #[],.func (.func 122) #[] #[],.func (.func 123) #[] #[],.func (.func 124) #[] #[]] 146)) 29 (List.replicate 16 0);have E1:=(((Ext.alloc w (.cells (edC e) 106)).trans a2).trans a3).trans a4;simp only[World.size_alloc]at p1 p2 p3;clear a2 a3 a4 ok;go_enter Tryz.func77,Tryz.ntmps77
 go_wp2_with fail
 try simp only[World.size_alloc]
 obtain⟨B,hB⟩:∃ B,B=w.heap.size:=⟨_,rfl⟩;rw[←hB]at p0 p1 p2 p3⊢;have hwB:w.heap.size≤B:=by omega
 have HB:=Lib.hid hB;clear hB;go_loopw [9] (fun i wr=>∃ k:Nat,k≤16∧i= .int .i64 k∧Ext w wr∧EB wr B e∧IB wr (B+1) 29 (List.replicate 16 0)∧Hid (wr.heap[B+1+1]?=some (.cells #[.func (.func 120) #[] #[],.func (.func 121) #[] #[],.func (.func 122) #[] #[],.func (.func 123) #[] #[],.func (.func 124) #[] #[]] 146 (0,0)))∧IB wr (B+1+1+1) 29 (mixI (prd 0 e) (List.replicate 16 0) k)) (fun i _=>16-(intOf i).toNat)
 case atStart=>exact⟨0,by omega,rfl,E1,p0,p1,Lib.hid p2,by rw[mixI_zero];exact p3⟩
 case round =>
  obtain⟨k,hk,rfl,E4,r0,r1,X2,r3⟩:=hrel;clear p0 p1 p2 p3 E1
  by_cases hlt:k<16
  ·have hd:decide ((k:Int)<16)=true:=by simp;omega
   have HM:=Lib.hid (fun(k:Nat) (hk:k≤16)=>mixI_len (prd 0 e) (List.replicate 16 0) k 16 HI.out lenZ);have Hset:=Lib.hid (show(mixI (prd 0 e) (List.replicate 16 0) k).set k (mean e)=mixI (prd 0 e) (List.replicate 16 0) (k+1)from Hm.out k hlt);have G0:Ext w wr∧EB wr B e∧IB wr (B+1) 29 (List.replicate 16 0)∧Hid (wr.heap[B+1+1]?=some (.cells #[.func (.func 120) #[] #[],.func (.func 121) #[] #[],.func (.func 122) #[] #[],.func (.func 123) #[] #[],.func (.func 124) #[] #[]] 146 (0,0)))∧IB wr (B+1+1+1) 29 (mixI (prd 0 e) (List.replicate 16 0) k):=⟨E4,r0,r1,X2,r3⟩;clear E4 r0 r1 X2 r3;go_wp2_with fail
   refine wp_region_invL (by kernel_rfl) [(12,0),(13,1),(14,2),(15,3),(16,4),(17,5),(18,6),(19,7),(20,8),(21,9),(22,10)] [[],[],[1],[1,2],[],[],[5],[],[7],[1,2,3,4,5,6,7,8],[0,1,2,3,4,5,6,7,8,9],[0,1,2,3,4,5,6,7,8,9,10]] (fun i own ys wx=>match i with|0=>own= .int .i64 (k:Nat)|1=>own= .int .i64 0|2=>own= .pointer (some ⟨B+1+1,0,none⟩)|3=>own= .func (.func 120) #[] #[]|4=>own= .agg (edC e)|5=>own= .int .i64 (k:Nat)|6=>own= .int .i64 ((k:Int)%4)|7=>own= .int .i64 (k:Nat)|8=>own= .int .i64 ((k:Int)/4)|9=>own= .int .i64 (mean e)|10=>own= .pointer (some ⟨B+1+1+1,k,none⟩)|11=>True|_=>True) (fun Lx wx=>Ext w wx∧EB wx B e∧IB wx (B+1) 29 (List.replicate 16 0)∧Hid (wx.heap[B+1+1]?=some (.cells #[.func (.func 120) #[] #[],.func (.func 121) #[] #[],.func (.func 122) #[] #[],.func (.func 123) #[] #[],.func (.func 124) #[] #[]] 146 (0,0)))∧IB wx (B+1+1+1) 29 (if Lx 11=true then mixI (prd 0 e) (List.replicate 16 0) (k+1)else mixI (prd 0 e) (List.replicate 16 0) k)) (by kernel_rfl) (by kernel_rfl) (by kernel_rfl) ?g0_r1 ?gop_r1 ?gend_r1
   case g0_r1=>exact⟨Ext.trans_drewN G0.1 1,G0.2.1.ext (Ext.drewN _ 1),G0.2.2.1.drewN 1,Lib.hid (blk_drewN G0.2.2.2.1.out 1),G0.2.2.2.2.drewN 1⟩
   case gop_r1 =>
    refine⟨?_,?_,?o2,?o3,?o4,?_,?o6,?_,?o8,?o9,?o10,?o11,trivial⟩ <;> (intro Lx xs wx hG hl ha hb hD hI Qo Kx hK hQo;simp only[patchS,Nat.reduceAdd,Nat.reduceEqDiff,↓reduceIte]at hQo⊢)
    case o2 =>
     clear hl ha hb;rw[ddq (hD 1 rfl)]at hQo⊢;clear hD hI;go_wp2;exact hK.out _ _ ⟨rfl,hG,kkp⟩
    case o3 =>
     clear hl ha hb;rw[ddq (hD 2 rfl)]at hQo⊢;clear hD hI;obtain⟨f0,f1,f2,f3,f4⟩:=bx5m hG.2.2.2.1.out;go_wp2;exact hK.out _ _ ⟨rfl,hG,kkp⟩
    case o4 =>
     clear hl ha hb hD hI;go_wp2_with (refine wpList_cload 106 _ rfl rfl hG.2.1 rfl _ Tryz.underlying106 rfl 11 size_Edges (edC_size OK.out.ln) ?_)
     exact hK.out _ _ ⟨rfl,hG,kkp⟩
    case o6 =>
     clear hl ha hb;rw[ddq (hD 5 rfl)]at hQo⊢;clear hD hI;go_wp2;exact hK.out _ _ ⟨rfl,hG,kkp⟩
    case o8 =>
     clear hl ha hb;rw[ddq (hD 7 rfl)]at hQo⊢;clear hD hI;go_wp2;exact hK.out _ _ ⟨rfl,hG,kkp⟩
    case o9 =>
     clear hl ha hb;rw[ddq (hD 3 rfl),ddq (hD 4 rfl),ddq (hD 6 rfl),ddq (hD 8 rfl)]at hQo⊢;clear hD hI;go_wp2_with fail
     refine(impl_mean_any e _ _ _ OK.out).mono ?_
     rintro r w9 ⟨rfl,e9⟩
     go_wp2;exact hK.out _ _ ⟨rfl,⟨hG.1.trans e9,hG.2.1.ext e9,hG.2.2.1.ext e9,Lib.hid (e9.blk hG.2.2.2.1.out),hG.2.2.2.2.ext e9⟩,fun _ _ _ _ _ _ h=>h⟩
    case o10 =>
     clear hl ha hb;rw[ddq (hD 0 rfl)]at hQo⊢;clear hD hI;go_wp2;exact hK.out _ _ ⟨rfl,hG,kkp⟩
    case o11 =>
     have l11:Lx 11=false:=hl;clear hl ha hb;rw[ddq (hD 9 rfl),ddq (hD 10 rfl)]at hQo⊢;clear hD hI;rw[l11,ifF]at hG;have cx:=hG.2.2.2.2.cell (i:=k) (by rw[HM.out k hk];exact hlt);have fx:=hG.2.2.2.2.frozen k;have s2:=hG.2.2.2.2.set k (mean e);rw[Hset.out]at s2;have gE:=Ext.grown hG.1 (gr_set _ (B+1+1+1) k (.int .i64 (mean e))) (fun q hq=>by cases hq;omega);have g0':=hG.2.1.set_other (c:=B+1+1+1) (i:=k) (v := .int .i64 (mean e)) (by omega);have g1':=hG.2.2.1.set_other (c:=B+1+1+1) (i:=k) (v := .int .i64 (mean e)) (by omega);have g2':=blk_set_other (c:=B+1+1+1) (i:=k) (v := .int .i64 (mean e)) hG.2.2.2.1.out (by omega);go_wp2;exact hQo undef _ (hK.out _ _ ⟨trivial,⟨gE,g0',g1',Lib.hid g2',s2⟩,fun _ _ _ _ _ _ h=>h⟩)
    all_goals
     clear hl ha hb hD hI;go_wp2;exact hK.out _ _ ⟨rfl,hG,kkp⟩
   intro xs wx hV hG0;obtain⟨Lx,hL,hG⟩:=hG0;have l11:Lx 11=true:=hL 11 (by decide);clear hL hV;simp only[patchS,Nat.reduceAdd,Nat.reduceEqDiff,↓reduceIte];generalize xs 0=y0,xs 1=y1,xs 2=y2,xs 3=y3,xs 4=y4,xs 5=y5,xs 6=y6,xs 7=y7,xs 8=y8,xs 9=y9,xs 10=y10,xs 11=y11 at *
   replace hG:Ext w wx∧EB wx B e∧IB wx (B+1) 29 (List.replicate 16 0)∧Hid (wx.heap[B+1+1]?=some (.cells #[.func (.func 120) #[] #[],.func (.func 121) #[] #[],.func (.func 122) #[] #[],.func (.func 123) #[] #[],.func (.func 124) #[] #[]] 146 (0,0)))∧IB wx (B+1+1+1) 29 (if Lx 11=true then mixI (prd 0 e) (List.replicate 16 0) (k+1)else mixI (prd 0 e) (List.replicate 16 0) k):=hG
   rw[l11,ifT]at hG;clear G0;obtain⟨E5,s0,s1,X5,s3⟩:=hG;go_wp2;go_roundw
   case rel=>exact⟨k+1,by omega,by go_num,E5,s0,s1,X5,s3⟩
   case measure=>simp[intOf];omega
  ·obtain rfl:k=16:=by omega
   rw[mixI_all _ _ 16 HI.out lenZ]at r3;go_wp2_with (first|(refine wpList_iload 29 _ rfl rfl r3 0 16 rfl _ Tryz.underlying29 rfl size_A16 (by rw[HI.out];omega) _ (by rw[sub_all _ _ (HI.out)]) ?_)|(refine wpList_istore 29 _ _ rfl rfl r1 0 16 rfl _ rfl _ rfl size_A16 (HI.out) (by simp) ?_;intro w6 p6 g6;refine Hid.out ?_))
   rw[spl_all (by rw[HI.out];simp)]at p6;have E6:Ext w w6:=Ext.grown E4 g6 (fun q hq=>by cases hq;omega);refine Lib.hid ?_;go_wp2;exact bodyPost_ret (v := .agg (ic (prd 0 e))) (results_cell_row rfl _ _ (B+1) 29 (ic (prd 0 e)) (0,0) _ rfl p6 Tryz.underlying29 rfl (by rw[ic_size,prd_len];exact size_A16)) rfl ⟨rfl,E6⟩
theorem predict_1 (e:Ed) (w:World) (ok:e.ok) :
 Calls Tryz.prog 77 #[.agg (edC e),.int .i64 1] w fun r w'=>r= .returned (.agg (ic (prd 1 e)))∧Ext w w':=by
 have OK:=Lib.hid ok;have HI:=Lib.hid (prd_len 1 e);have Hm:=Lib.hid (fun(k:Nat) (hk:k<16)=>prd_mix 1 e hk);have a2:=Ext.alloc (w.alloc (.cells (edC e) 106)) (.cells (ic (List.replicate 16 0)) 29);have a3:=Ext.alloc ((w.alloc (.cells (edC e) 106)).alloc (.cells (ic (List.replicate 16 0)) 29)) (.cells #[.func (.func 120) #[] #[],.func (.func 121) #[] #[],.func (.func 122) #[] #[],.func (.func 123) #[] #[],.func (.func 124) #[] #[]] 146);have a4:=Ext.alloc (((w.alloc (.cells (edC e) 106)).alloc (.cells (ic (List.replicate 16 0)) 29)).alloc (.cells #[.func (.func 120) #[] #[],.func (.func 121) #[] #[],.func (.func 122) #[] #[],.func (.func 123) #[] #[],.func (.func 124) #[] #[]] 146)) (.cells (ic (List.replicate 16 0)) 29);have p0:=(((EB.new w e).ext a2).ext a3).ext a4;have p1:=((IB.new (w.alloc (.cells (edC e) 106)) 29 (List.replicate 16 0)).ext a3).ext a4;have p2:=a4.blk (blk_new ((w.alloc (.cells (edC e) 106)).alloc (.cells (ic (List.replicate 16 0)) 29)) (.cells #[.func (.func 120) #[] #[],.func (.func 121) #[] #[],.func (.func 122) #[] #[],.func (.func 123) #[] #[],.func (.func 124) #[] #[]] 146));have p3:=IB.new (((w.alloc (.cells (edC e) 106)).alloc (.cells (ic (List.replicate 16 0)) 29)).alloc (.cells #[.func (.func 120) #[] #[],.func (.func 121) #[] #[],.func (.func 122) #[] #[],.func (.func 123) #[] #[],.func (.func 124) #[] #[]] 146)) 29 (List.replicate 16 0);have E1:=(((Ext.alloc w (.cells (edC e) 106)).trans a2).trans a3).trans a4;simp only[World.size_alloc]at p1 p2 p3;clear a2 a3 a4 ok;go_enter Tryz.func77,Tryz.ntmps77
 go_wp2_with fail
 try simp only[World.size_alloc]
 obtain⟨B,hB⟩:∃ B,B=w.heap.size:=⟨_,rfl⟩;rw[←hB]at p0 p1 p2 p3⊢;have hwB:w.heap.size≤B:=by omega
 have HB:=Lib.hid hB;clear hB;go_loopw [9] (fun i wr=>∃ k:Nat,k≤16∧i= .int .i64 k∧Ext w wr∧EB wr B e∧IB wr (B+1) 29 (List.replicate 16 0)∧Hid (wr.heap[B+1+1]?=some (.cells #[.func (.func 120) #[] #[],.func (.func 121) #[] #[],.func (.func 122) #[] #[],.func (.func 123) #[] #[],.func (.func 124) #[] #[]] 146 (0,0)))∧IB wr (B+1+1+1) 29 (mixI (prd 1 e) (List.replicate 16 0) k)) (fun i _=>16-(intOf i).toNat)
 case atStart=>exact⟨0,by omega,rfl,E1,p0,p1,Lib.hid p2,by rw[mixI_zero];exact p3⟩
 case round =>
  obtain⟨k,hk,rfl,E4,r0,r1,X2,r3⟩:=hrel;clear p0 p1 p2 p3 E1
  by_cases hlt:k<16
  ·have hd:decide ((k:Int)<16)=true:=by simp;omega
   have HM:=Lib.hid (fun(k:Nat) (hk:k≤16)=>mixI_len (prd 1 e) (List.replicate 16 0) k 16 HI.out lenZ);have Hset:=Lib.hid (show(mixI (prd 1 e) (List.replicate 16 0) k).set k (prd1 1 e (k%4) (k/4))=mixI (prd 1 e) (List.replicate 16 0) (k+1)from Hm.out k hlt);have G0:Ext w wr∧EB wr B e∧IB wr (B+1) 29 (List.replicate 16 0)∧Hid (wr.heap[B+1+1]?=some (.cells #[.func (.func 120) #[] #[],.func (.func 121) #[] #[],.func (.func 122) #[] #[],.func (.func 123) #[] #[],.func (.func 124) #[] #[]] 146 (0,0)))∧IB wr (B+1+1+1) 29 (mixI (prd 1 e) (List.replicate 16 0) k):=⟨E4,r0,r1,X2,r3⟩;clear E4 r0 r1 X2 r3;go_wp2_with fail
   refine wp_region_invL (by kernel_rfl) [(12,0),(13,1),(14,2),(15,3),(16,4),(17,5),(18,6),(19,7),(20,8),(21,9),(22,10)] [[],[],[1],[1,2],[],[],[5],[],[7],[1,2,3,4,5,6,7,8],[0,1,2,3,4,5,6,7,8,9],[0,1,2,3,4,5,6,7,8,9,10]] (fun i own ys wx=>match i with|0=>own= .int .i64 (k:Nat)|1=>own= .int .i64 1|2=>own= .pointer (some ⟨B+1+1,1,none⟩)|3=>own= .func (.func 121) #[] #[]|4=>own= .agg (edC e)|5=>own= .int .i64 (k:Nat)|6=>own= .int .i64 ((k:Int)%4)|7=>own= .int .i64 (k:Nat)|8=>own= .int .i64 ((k:Int)/4)|9=>own= .int .i64 (prd1 1 e (k%4) (k/4))|10=>own= .pointer (some ⟨B+1+1+1,k,none⟩)|11=>True|_=>True) (fun Lx wx=>Ext w wx∧EB wx B e∧IB wx (B+1) 29 (List.replicate 16 0)∧Hid (wx.heap[B+1+1]?=some (.cells #[.func (.func 120) #[] #[],.func (.func 121) #[] #[],.func (.func 122) #[] #[],.func (.func 123) #[] #[],.func (.func 124) #[] #[]] 146 (0,0)))∧IB wx (B+1+1+1) 29 (if Lx 11=true then mixI (prd 1 e) (List.replicate 16 0) (k+1)else mixI (prd 1 e) (List.replicate 16 0) k)) (by kernel_rfl) (by kernel_rfl) (by kernel_rfl) ?g0_r2 ?gop_r2 ?gend_r2
   case g0_r2=>exact⟨Ext.trans_drewN G0.1 1,G0.2.1.ext (Ext.drewN _ 1),G0.2.2.1.drewN 1,Lib.hid (blk_drewN G0.2.2.2.1.out 1),G0.2.2.2.2.drewN 1⟩
   case gop_r2 =>
    refine⟨?_,?_,?o2,?o3,?o4,?_,?o6,?_,?o8,?o9,?o10,?o11,trivial⟩ <;> (intro Lx xs wx hG hl ha hb hD hI Qo Kx hK hQo;simp only[patchS,Nat.reduceAdd,Nat.reduceEqDiff,↓reduceIte]at hQo⊢)
    case o2 =>
     clear hl ha hb;rw[ddq (hD 1 rfl)]at hQo⊢;clear hD hI;go_wp2;exact hK.out _ _ ⟨rfl,hG,kkp⟩
    case o3 =>
     clear hl ha hb;rw[ddq (hD 2 rfl)]at hQo⊢;clear hD hI;obtain⟨f0,f1,f2,f3,f4⟩:=bx5m hG.2.2.2.1.out;go_wp2;exact hK.out _ _ ⟨rfl,hG,kkp⟩
    case o4 =>
     clear hl ha hb hD hI;go_wp2_with (refine wpList_cload 106 _ rfl rfl hG.2.1 rfl _ Tryz.underlying106 rfl 11 size_Edges (edC_size OK.out.ln) ?_)
     exact hK.out _ _ ⟨rfl,hG,kkp⟩
    case o6 =>
     clear hl ha hb;rw[ddq (hD 5 rfl)]at hQo⊢;clear hD hI;go_wp2;exact hK.out _ _ ⟨rfl,hG,kkp⟩
    case o8 =>
     clear hl ha hb;rw[ddq (hD 7 rfl)]at hQo⊢;clear hD hI;go_wp2;exact hK.out _ _ ⟨rfl,hG,kkp⟩
    case o9 =>
     clear hl ha hb;rw[ddq (hD 3 rfl),ddq (hD 4 rfl),ddq (hD 6 rfl),ddq (hD 8 rfl)]at hQo⊢;clear hD hI;go_wp2_with fail
     refine(vertical_any e (k%4) (k/4) _ OK.out (by omega) (by omega)).mono ?_
     rintro r w9 ⟨rfl,e9⟩
     go_wp2;exact hK.out _ _ ⟨rfl,⟨hG.1.trans e9,hG.2.1.ext e9,hG.2.2.1.ext e9,Lib.hid (e9.blk hG.2.2.2.1.out),hG.2.2.2.2.ext e9⟩,fun _ _ _ _ _ _ h=>h⟩
    case o10 =>
     clear hl ha hb;rw[ddq (hD 0 rfl)]at hQo⊢;clear hD hI;go_wp2;exact hK.out _ _ ⟨rfl,hG,kkp⟩
    case o11 =>
     have l11:Lx 11=false:=hl;clear hl ha hb;rw[ddq (hD 9 rfl),ddq (hD 10 rfl)]at hQo⊢;clear hD hI;rw[l11,ifF]at hG;have cx:=hG.2.2.2.2.cell (i:=k) (by rw[HM.out k hk];exact hlt);have fx:=hG.2.2.2.2.frozen k;have s2:=hG.2.2.2.2.set k (prd1 1 e (k%4) (k/4));rw[Hset.out]at s2;have gE:=Ext.grown hG.1 (gr_set _ (B+1+1+1) k (.int .i64 (prd1 1 e (k%4) (k/4)))) (fun q hq=>by cases hq;omega);have g0':=hG.2.1.set_other (c:=B+1+1+1) (i:=k) (v := .int .i64 (prd1 1 e (k%4) (k/4))) (by omega);have g1':=hG.2.2.1.set_other (c:=B+1+1+1) (i:=k) (v := .int .i64 (prd1 1 e (k%4) (k/4))) (by omega);have g2':=blk_set_other (c:=B+1+1+1) (i:=k) (v := .int .i64 (prd1 1 e (k%4) (k/4))) hG.2.2.2.1.out (by omega);go_wp2;exact hQo undef _ (hK.out _ _ ⟨trivial,⟨gE,g0',g1',Lib.hid g2',s2⟩,fun _ _ _ _ _ _ h=>h⟩)
    all_goals
     clear hl ha hb hD hI;go_wp2;exact hK.out _ _ ⟨rfl,hG,kkp⟩
   intro xs wx hV hG0;obtain⟨Lx,hL,hG⟩:=hG0;have l11:Lx 11=true:=hL 11 (by decide);clear hL hV;simp only[patchS,Nat.reduceAdd,Nat.reduceEqDiff,↓reduceIte];generalize xs 0=y0,xs 1=y1,xs 2=y2,xs 3=y3,xs 4=y4,xs 5=y5,xs 6=y6,xs 7=y7,xs 8=y8,xs 9=y9,xs 10=y10,xs 11=y11 at *
   replace hG:Ext w wx∧EB wx B e∧IB wx (B+1) 29 (List.replicate 16 0)∧Hid (wx.heap[B+1+1]?=some (.cells #[.func (.func 120) #[] #[],.func (.func 121) #[] #[],.func (.func 122) #[] #[],.func (.func 123) #[] #[],.func (.func 124) #[] #[]] 146 (0,0)))∧IB wx (B+1+1+1) 29 (if Lx 11=true then mixI (prd 1 e) (List.replicate 16 0) (k+1)else mixI (prd 1 e) (List.replicate 16 0) k):=hG
   rw[l11,ifT]at hG;clear G0;obtain⟨E5,s0,s1,X5,s3⟩:=hG;go_wp2;go_roundw
   case rel=>exact⟨k+1,by omega,by go_num,E5,s0,s1,X5,s3⟩
   case measure=>simp[intOf];omega
  ·obtain rfl:k=16:=by omega
   rw[mixI_all _ _ 16 HI.out lenZ]at r3;go_wp2_with (first|(refine wpList_iload 29 _ rfl rfl r3 0 16 rfl _ Tryz.underlying29 rfl size_A16 (by rw[HI.out];omega) _ (by rw[sub_all _ _ (HI.out)]) ?_)|(refine wpList_istore 29 _ _ rfl rfl r1 0 16 rfl _ rfl _ rfl size_A16 (HI.out) (by simp) ?_;intro w6 p6 g6;refine Hid.out ?_))
   rw[spl_all (by rw[HI.out];simp)]at p6;have E6:Ext w w6:=Ext.grown E4 g6 (fun q hq=>by cases hq;omega);refine Lib.hid ?_;go_wp2;exact bodyPost_ret (v := .agg (ic (prd 1 e))) (results_cell_row rfl _ _ (B+1) 29 (ic (prd 1 e)) (0,0) _ rfl p6 Tryz.underlying29 rfl (by rw[ic_size,prd_len];exact size_A16)) rfl ⟨rfl,E6⟩
theorem predict_2 (e:Ed) (w:World) (ok:e.ok) :
 Calls Tryz.prog 77 #[.agg (edC e),.int .i64 2] w fun r w'=>r= .returned (.agg (ic (prd 2 e)))∧Ext w w':=by
 have OK:=Lib.hid ok;have HI:=Lib.hid (prd_len 2 e);have Hm:=Lib.hid (fun(k:Nat) (hk:k<16)=>prd_mix 2 e hk);have a2:=Ext.alloc (w.alloc (.cells (edC e) 106)) (.cells (ic (List.replicate 16 0)) 29);have a3:=Ext.alloc ((w.alloc (.cells (edC e) 106)).alloc (.cells (ic (List.replicate 16 0)) 29)) (.cells #[.func (.func 120) #[] #[],.func (.func 121) #[] #[],.func (.func 122) #[] #[],.func (.func 123) #[] #[],.func (.func 124) #[] #[]] 146);have a4:=Ext.alloc (((w.alloc (.cells (edC e) 106)).alloc (.cells (ic (List.replicate 16 0)) 29)).alloc (.cells #[.func (.func 120) #[] #[],.func (.func 121) #[] #[],.func (.func 122) #[] #[],.func (.func 123) #[] #[],.func (.func 124) #[] #[]] 146)) (.cells (ic (List.replicate 16 0)) 29);have p0:=(((EB.new w e).ext a2).ext a3).ext a4;have p1:=((IB.new (w.alloc (.cells (edC e) 106)) 29 (List.replicate 16 0)).ext a3).ext a4;have p2:=a4.blk (blk_new ((w.alloc (.cells (edC e) 106)).alloc (.cells (ic (List.replicate 16 0)) 29)) (.cells #[.func (.func 120) #[] #[],.func (.func 121) #[] #[],.func (.func 122) #[] #[],.func (.func 123) #[] #[],.func (.func 124) #[] #[]] 146));have p3:=IB.new (((w.alloc (.cells (edC e) 106)).alloc (.cells (ic (List.replicate 16 0)) 29)).alloc (.cells #[.func (.func 120) #[] #[],.func (.func 121) #[] #[],.func (.func 122) #[] #[],.func (.func 123) #[] #[],.func (.func 124) #[] #[]] 146)) 29 (List.replicate 16 0);have E1:=(((Ext.alloc w (.cells (edC e) 106)).trans a2).trans a3).trans a4;simp only[World.size_alloc]at p1 p2 p3;clear a2 a3 a4 ok;go_enter Tryz.func77,Tryz.ntmps77
 go_wp2_with fail
 try simp only[World.size_alloc]
 obtain⟨B,hB⟩:∃ B,B=w.heap.size:=⟨_,rfl⟩;rw[←hB]at p0 p1 p2 p3⊢;have hwB:w.heap.size≤B:=by omega
 have HB:=Lib.hid hB;clear hB;go_loopw [9] (fun i wr=>∃ k:Nat,k≤16∧i= .int .i64 k∧Ext w wr∧EB wr B e∧IB wr (B+1) 29 (List.replicate 16 0)∧Hid (wr.heap[B+1+1]?=some (.cells #[.func (.func 120) #[] #[],.func (.func 121) #[] #[],.func (.func 122) #[] #[],.func (.func 123) #[] #[],.func (.func 124) #[] #[]] 146 (0,0)))∧IB wr (B+1+1+1) 29 (mixI (prd 2 e) (List.replicate 16 0) k)) (fun i _=>16-(intOf i).toNat)
 case atStart=>exact⟨0,by omega,rfl,E1,p0,p1,Lib.hid p2,by rw[mixI_zero];exact p3⟩
 case round =>
  obtain⟨k,hk,rfl,E4,r0,r1,X2,r3⟩:=hrel;clear p0 p1 p2 p3 E1
  by_cases hlt:k<16
  ·have hd:decide ((k:Int)<16)=true:=by simp;omega
   have HM:=Lib.hid (fun(k:Nat) (hk:k≤16)=>mixI_len (prd 2 e) (List.replicate 16 0) k 16 HI.out lenZ);have Hset:=Lib.hid (show(mixI (prd 2 e) (List.replicate 16 0) k).set k (prd1 2 e (k%4) (k/4))=mixI (prd 2 e) (List.replicate 16 0) (k+1)from Hm.out k hlt);have G0:Ext w wr∧EB wr B e∧IB wr (B+1) 29 (List.replicate 16 0)∧Hid (wr.heap[B+1+1]?=some (.cells #[.func (.func 120) #[] #[],.func (.func 121) #[] #[],.func (.func 122) #[] #[],.func (.func 123) #[] #[],.func (.func 124) #[] #[]] 146 (0,0)))∧IB wr (B+1+1+1) 29 (mixI (prd 2 e) (List.replicate 16 0) k):=⟨E4,r0,r1,X2,r3⟩;clear E4 r0 r1 X2 r3;go_wp2_with fail
   refine wp_region_invL (by kernel_rfl) [(12,0),(13,1),(14,2),(15,3),(16,4),(17,5),(18,6),(19,7),(20,8),(21,9),(22,10)] [[],[],[1],[1,2],[],[],[5],[],[7],[1,2,3,4,5,6,7,8],[0,1,2,3,4,5,6,7,8,9],[0,1,2,3,4,5,6,7,8,9,10]] (fun i own ys wx=>match i with|0=>own= .int .i64 (k:Nat)|1=>own= .int .i64 2|2=>own= .pointer (some ⟨B+1+1,2,none⟩)|3=>own= .func (.func 122) #[] #[]|4=>own= .agg (edC e)|5=>own= .int .i64 (k:Nat)|6=>own= .int .i64 ((k:Int)%4)|7=>own= .int .i64 (k:Nat)|8=>own= .int .i64 ((k:Int)/4)|9=>own= .int .i64 (prd1 2 e (k%4) (k/4))|10=>own= .pointer (some ⟨B+1+1+1,k,none⟩)|11=>True|_=>True) (fun Lx wx=>Ext w wx∧EB wx B e∧IB wx (B+1) 29 (List.replicate 16 0)∧Hid (wx.heap[B+1+1]?=some (.cells #[.func (.func 120) #[] #[],.func (.func 121) #[] #[],.func (.func 122) #[] #[],.func (.func 123) #[] #[],.func (.func 124) #[] #[]] 146 (0,0)))∧IB wx (B+1+1+1) 29 (if Lx 11=true then mixI (prd 2 e) (List.replicate 16 0) (k+1)else mixI (prd 2 e) (List.replicate 16 0) k)) (by kernel_rfl) (by kernel_rfl) (by kernel_rfl) ?g0_r3 ?gop_r3 ?gend_r3
   case g0_r3=>exact⟨Ext.trans_drewN G0.1 1,G0.2.1.ext (Ext.drewN _ 1),G0.2.2.1.drewN 1,Lib.hid (blk_drewN G0.2.2.2.1.out 1),G0.2.2.2.2.drewN 1⟩
   case gop_r3 =>
    refine⟨?_,?_,?o2,?o3,?o4,?_,?o6,?_,?o8,?o9,?o10,?o11,trivial⟩ <;> (intro Lx xs wx hG hl ha hb hD hI Qo Kx hK hQo;simp only[patchS,Nat.reduceAdd,Nat.reduceEqDiff,↓reduceIte]at hQo⊢)
    case o2 =>
     clear hl ha hb;rw[ddq (hD 1 rfl)]at hQo⊢;clear hD hI;go_wp2;exact hK.out _ _ ⟨rfl,hG,kkp⟩
    case o3 =>
     clear hl ha hb;rw[ddq (hD 2 rfl)]at hQo⊢;clear hD hI;obtain⟨f0,f1,f2,f3,f4⟩:=bx5m hG.2.2.2.1.out;go_wp2;exact hK.out _ _ ⟨rfl,hG,kkp⟩
    case o4 =>
     clear hl ha hb hD hI;go_wp2_with (refine wpList_cload 106 _ rfl rfl hG.2.1 rfl _ Tryz.underlying106 rfl 11 size_Edges (edC_size OK.out.ln) ?_)
     exact hK.out _ _ ⟨rfl,hG,kkp⟩
    case o6 =>
     clear hl ha hb;rw[ddq (hD 5 rfl)]at hQo⊢;clear hD hI;go_wp2;exact hK.out _ _ ⟨rfl,hG,kkp⟩
    case o8 =>
     clear hl ha hb;rw[ddq (hD 7 rfl)]at hQo⊢;clear hD hI;go_wp2;exact hK.out _ _ ⟨rfl,hG,kkp⟩
    case o9 =>
     clear hl ha hb;rw[ddq (hD 3 rfl),ddq (hD 4 rfl),ddq (hD 6 rfl),ddq (hD 8 rfl)]at hQo⊢;clear hD hI;go_wp2_with fail
     refine(horizontal_any e (k%4) (k/4) _ OK.out (by omega) (by omega)).mono ?_
     rintro r w9 ⟨rfl,e9⟩
     go_wp2;exact hK.out _ _ ⟨rfl,⟨hG.1.trans e9,hG.2.1.ext e9,hG.2.2.1.ext e9,Lib.hid (e9.blk hG.2.2.2.1.out),hG.2.2.2.2.ext e9⟩,fun _ _ _ _ _ _ h=>h⟩
    case o10 =>
     clear hl ha hb;rw[ddq (hD 0 rfl)]at hQo⊢;clear hD hI;go_wp2;exact hK.out _ _ ⟨rfl,hG,kkp⟩
    case o11 =>
     have l11:Lx 11=false:=hl;clear hl ha hb;rw[ddq (hD 9 rfl),ddq (hD 10 rfl)]at hQo⊢;clear hD hI;rw[l11,ifF]at hG;have cx:=hG.2.2.2.2.cell (i:=k) (by rw[HM.out k hk];exact hlt);have fx:=hG.2.2.2.2.frozen k;have s2:=hG.2.2.2.2.set k (prd1 2 e (k%4) (k/4));rw[Hset.out]at s2;have gE:=Ext.grown hG.1 (gr_set _ (B+1+1+1) k (.int .i64 (prd1 2 e (k%4) (k/4)))) (fun q hq=>by cases hq;omega);have g0':=hG.2.1.set_other (c:=B+1+1+1) (i:=k) (v := .int .i64 (prd1 2 e (k%4) (k/4))) (by omega);have g1':=hG.2.2.1.set_other (c:=B+1+1+1) (i:=k) (v := .int .i64 (prd1 2 e (k%4) (k/4))) (by omega);have g2':=blk_set_other (c:=B+1+1+1) (i:=k) (v := .int .i64 (prd1 2 e (k%4) (k/4))) hG.2.2.2.1.out (by omega);go_wp2;exact hQo undef _ (hK.out _ _ ⟨trivial,⟨gE,g0',g1',Lib.hid g2',s2⟩,fun _ _ _ _ _ _ h=>h⟩)
    all_goals
     clear hl ha hb hD hI;go_wp2;exact hK.out _ _ ⟨rfl,hG,kkp⟩
   intro xs wx hV hG0;obtain⟨Lx,hL,hG⟩:=hG0;have l11:Lx 11=true:=hL 11 (by decide);clear hL hV;simp only[patchS,Nat.reduceAdd,Nat.reduceEqDiff,↓reduceIte];generalize xs 0=y0,xs 1=y1,xs 2=y2,xs 3=y3,xs 4=y4,xs 5=y5,xs 6=y6,xs 7=y7,xs 8=y8,xs 9=y9,xs 10=y10,xs 11=y11 at *
   replace hG:Ext w wx∧EB wx B e∧IB wx (B+1) 29 (List.replicate 16 0)∧Hid (wx.heap[B+1+1]?=some (.cells #[.func (.func 120) #[] #[],.func (.func 121) #[] #[],.func (.func 122) #[] #[],.func (.func 123) #[] #[],.func (.func 124) #[] #[]] 146 (0,0)))∧IB wx (B+1+1+1) 29 (if Lx 11=true then mixI (prd 2 e) (List.replicate 16 0) (k+1)else mixI (prd 2 e) (List.replicate 16 0) k):=hG
   rw[l11,ifT]at hG;clear G0;obtain⟨E5,s0,s1,X5,s3⟩:=hG;go_wp2;go_roundw
   case rel=>exact⟨k+1,by omega,by go_num,E5,s0,s1,X5,s3⟩
   case measure=>simp[intOf];omega
  ·obtain rfl:k=16:=by omega
   rw[mixI_all _ _ 16 HI.out lenZ]at r3;go_wp2_with (first|(refine wpList_iload 29 _ rfl rfl r3 0 16 rfl _ Tryz.underlying29 rfl size_A16 (by rw[HI.out];omega) _ (by rw[sub_all _ _ (HI.out)]) ?_)|(refine wpList_istore 29 _ _ rfl rfl r1 0 16 rfl _ rfl _ rfl size_A16 (HI.out) (by simp) ?_;intro w6 p6 g6;refine Hid.out ?_))
   rw[spl_all (by rw[HI.out];simp)]at p6;have E6:Ext w w6:=Ext.grown E4 g6 (fun q hq=>by cases hq;omega);refine Lib.hid ?_;go_wp2;exact bodyPost_ret (v := .agg (ic (prd 2 e))) (results_cell_row rfl _ _ (B+1) 29 (ic (prd 2 e)) (0,0) _ rfl p6 Tryz.underlying29 rfl (by rw[ic_size,prd_len];exact size_A16)) rfl ⟨rfl,E6⟩
theorem predict_3 (e:Ed) (w:World) (ok:e.ok) :
 Calls Tryz.prog 77 #[.agg (edC e),.int .i64 3] w fun r w'=>r= .returned (.agg (ic (prd 3 e)))∧Ext w w':=by
 have OK:=Lib.hid ok;have HI:=Lib.hid (prd_len 3 e);have Hm:=Lib.hid (fun(k:Nat) (hk:k<16)=>prd_mix 3 e hk);have a2:=Ext.alloc (w.alloc (.cells (edC e) 106)) (.cells (ic (List.replicate 16 0)) 29);have a3:=Ext.alloc ((w.alloc (.cells (edC e) 106)).alloc (.cells (ic (List.replicate 16 0)) 29)) (.cells #[.func (.func 120) #[] #[],.func (.func 121) #[] #[],.func (.func 122) #[] #[],.func (.func 123) #[] #[],.func (.func 124) #[] #[]] 146);have a4:=Ext.alloc (((w.alloc (.cells (edC e) 106)).alloc (.cells (ic (List.replicate 16 0)) 29)).alloc (.cells #[.func (.func 120) #[] #[],.func (.func 121) #[] #[],.func (.func 122) #[] #[],.func (.func 123) #[] #[],.func (.func 124) #[] #[]] 146)) (.cells (ic (List.replicate 16 0)) 29);have p0:=(((EB.new w e).ext a2).ext a3).ext a4;have p1:=((IB.new (w.alloc (.cells (edC e) 106)) 29 (List.replicate 16 0)).ext a3).ext a4;have p2:=a4.blk (blk_new ((w.alloc (.cells (edC e) 106)).alloc (.cells (ic (List.replicate 16 0)) 29)) (.cells #[.func (.func 120) #[] #[],.func (.func 121) #[] #[],.func (.func 122) #[] #[],.func (.func 123) #[] #[],.func (.func 124) #[] #[]] 146));have p3:=IB.new (((w.alloc (.cells (edC e) 106)).alloc (.cells (ic (List.replicate 16 0)) 29)).alloc (.cells #[.func (.func 120) #[] #[],.func (.func 121) #[] #[],.func (.func 122) #[] #[],.func (.func 123) #[] #[],.func (.func 124) #[] #[]] 146)) 29 (List.replicate 16 0);have E1:=(((Ext.alloc w (.cells (edC e) 106)).trans a2).trans a3).trans a4;simp only[World.size_alloc]at p1 p2 p3;clear a2 a3 a4 ok;go_enter Tryz.func77,Tryz.ntmps77
 go_wp2_with fail
 try simp only[World.size_alloc]
 obtain⟨B,hB⟩:∃ B,B=w.heap.size:=⟨_,rfl⟩;rw[←hB]at p0 p1 p2 p3⊢;have hwB:w.heap.size≤B:=by omega
 have HB:=Lib.hid hB;clear hB;go_loopw [9] (fun i wr=>∃ k:Nat,k≤16∧i= .int .i64 k∧Ext w wr∧EB wr B e∧IB wr (B+1) 29 (List.replicate 16 0)∧Hid (wr.heap[B+1+1]?=some (.cells #[.func (.func 120) #[] #[],.func (.func 121) #[] #[],.func (.func 122) #[] #[],.func (.func 123) #[] #[],.func (.func 124) #[] #[]] 146 (0,0)))∧IB wr (B+1+1+1) 29 (mixI (prd 3 e) (List.replicate 16 0) k)) (fun i _=>16-(intOf i).toNat)
 case atStart=>exact⟨0,by omega,rfl,E1,p0,p1,Lib.hid p2,by rw[mixI_zero];exact p3⟩
 case round =>
  obtain⟨k,hk,rfl,E4,r0,r1,X2,r3⟩:=hrel;clear p0 p1 p2 p3 E1
  by_cases hlt:k<16
  ·have hd:decide ((k:Int)<16)=true:=by simp;omega
   have HM:=Lib.hid (fun(k:Nat) (hk:k≤16)=>mixI_len (prd 3 e) (List.replicate 16 0) k 16 HI.out lenZ);have Hset:=Lib.hid (show(mixI (prd 3 e) (List.replicate 16 0) k).set k (prd1 3 e (k%4) (k/4))=mixI (prd 3 e) (List.replicate 16 0) (k+1)from Hm.out k hlt);have G0:Ext w wr∧EB wr B e∧IB wr (B+1) 29 (List.replicate 16 0)∧Hid (wr.heap[B+1+1]?=some (.cells #[.func (.func 120) #[] #[],.func (.func 121) #[] #[],.func (.func 122) #[] #[],.func (.func 123) #[] #[],.func (.func 124) #[] #[]] 146 (0,0)))∧IB wr (B+1+1+1) 29 (mixI (prd 3 e) (List.replicate 16 0) k):=⟨E4,r0,r1,X2,r3⟩;clear E4 r0 r1 X2 r3;go_wp2_with fail
   refine wp_region_invL (by kernel_rfl) [(12,0),(13,1),(14,2),(15,3),(16,4),(17,5),(18,6),(19,7),(20,8),(21,9),(22,10)] [[],[],[1],[1,2],[],[],[5],[],[7],[1,2,3,4,5,6,7,8],[0,1,2,3,4,5,6,7,8,9],[0,1,2,3,4,5,6,7,8,9,10]] (fun i own ys wx=>match i with|0=>own= .int .i64 (k:Nat)|1=>own= .int .i64 3|2=>own= .pointer (some ⟨B+1+1,3,none⟩)|3=>own= .func (.func 123) #[] #[]|4=>own= .agg (edC e)|5=>own= .int .i64 (k:Nat)|6=>own= .int .i64 ((k:Int)%4)|7=>own= .int .i64 (k:Nat)|8=>own= .int .i64 ((k:Int)/4)|9=>own= .int .i64 (prd1 3 e (k%4) (k/4))|10=>own= .pointer (some ⟨B+1+1+1,k,none⟩)|11=>True|_=>True) (fun Lx wx=>Ext w wx∧EB wx B e∧IB wx (B+1) 29 (List.replicate 16 0)∧Hid (wx.heap[B+1+1]?=some (.cells #[.func (.func 120) #[] #[],.func (.func 121) #[] #[],.func (.func 122) #[] #[],.func (.func 123) #[] #[],.func (.func 124) #[] #[]] 146 (0,0)))∧IB wx (B+1+1+1) 29 (if Lx 11=true then mixI (prd 3 e) (List.replicate 16 0) (k+1)else mixI (prd 3 e) (List.replicate 16 0) k)) (by kernel_rfl) (by kernel_rfl) (by kernel_rfl) ?g0_r4 ?gop_r4 ?gend_r4
   case g0_r4=>exact⟨Ext.trans_drewN G0.1 1,G0.2.1.ext (Ext.drewN _ 1),G0.2.2.1.drewN 1,Lib.hid (blk_drewN G0.2.2.2.1.out 1),G0.2.2.2.2.drewN 1⟩
   case gop_r4 =>
    refine⟨?_,?_,?o2,?o3,?o4,?_,?o6,?_,?o8,?o9,?o10,?o11,trivial⟩ <;> (intro Lx xs wx hG hl ha hb hD hI Qo Kx hK hQo;simp only[patchS,Nat.reduceAdd,Nat.reduceEqDiff,↓reduceIte]at hQo⊢)
    case o2 =>
     clear hl ha hb;rw[ddq (hD 1 rfl)]at hQo⊢;clear hD hI;go_wp2;exact hK.out _ _ ⟨rfl,hG,kkp⟩
    case o3 =>
     clear hl ha hb;rw[ddq (hD 2 rfl)]at hQo⊢;clear hD hI;obtain⟨f0,f1,f2,f3,f4⟩:=bx5m hG.2.2.2.1.out;go_wp2;exact hK.out _ _ ⟨rfl,hG,kkp⟩
    case o4 =>
     clear hl ha hb hD hI;go_wp2_with (refine wpList_cload 106 _ rfl rfl hG.2.1 rfl _ Tryz.underlying106 rfl 11 size_Edges (edC_size OK.out.ln) ?_)
     exact hK.out _ _ ⟨rfl,hG,kkp⟩
    case o6 =>
     clear hl ha hb;rw[ddq (hD 5 rfl)]at hQo⊢;clear hD hI;go_wp2;exact hK.out _ _ ⟨rfl,hG,kkp⟩
    case o8 =>
     clear hl ha hb;rw[ddq (hD 7 rfl)]at hQo⊢;clear hD hI;go_wp2;exact hK.out _ _ ⟨rfl,hG,kkp⟩
    case o9 =>
     clear hl ha hb;rw[ddq (hD 3 rfl),ddq (hD 4 rfl),ddq (hD 6 rfl),ddq (hD 8 rfl)]at hQo⊢;clear hD hI;go_wp2_with fail
     refine(diagonal_any e (k%4) (k/4) _ OK.out (by omega) (by omega)).mono ?_
     rintro r w9 ⟨rfl,e9⟩
     go_wp2;exact hK.out _ _ ⟨rfl,⟨hG.1.trans e9,hG.2.1.ext e9,hG.2.2.1.ext e9,Lib.hid (e9.blk hG.2.2.2.1.out),hG.2.2.2.2.ext e9⟩,fun _ _ _ _ _ _ h=>h⟩
    case o10 =>
     clear hl ha hb;rw[ddq (hD 0 rfl)]at hQo⊢;clear hD hI;go_wp2;exact hK.out _ _ ⟨rfl,hG,kkp⟩
    case o11 =>
     have l11:Lx 11=false:=hl;clear hl ha hb;rw[ddq (hD 9 rfl),ddq (hD 10 rfl)]at hQo⊢;clear hD hI;rw[l11,ifF]at hG;have cx:=hG.2.2.2.2.cell (i:=k) (by rw[HM.out k hk];exact hlt);have fx:=hG.2.2.2.2.frozen k;have s2:=hG.2.2.2.2.set k (prd1 3 e (k%4) (k/4));rw[Hset.out]at s2;have gE:=Ext.grown hG.1 (gr_set _ (B+1+1+1) k (.int .i64 (prd1 3 e (k%4) (k/4)))) (fun q hq=>by cases hq;omega);have g0':=hG.2.1.set_other (c:=B+1+1+1) (i:=k) (v := .int .i64 (prd1 3 e (k%4) (k/4))) (by omega);have g1':=hG.2.2.1.set_other (c:=B+1+1+1) (i:=k) (v := .int .i64 (prd1 3 e (k%4) (k/4))) (by omega);have g2':=blk_set_other (c:=B+1+1+1) (i:=k) (v := .int .i64 (prd1 3 e (k%4) (k/4))) hG.2.2.2.1.out (by omega);go_wp2;exact hQo undef _ (hK.out _ _ ⟨trivial,⟨gE,g0',g1',Lib.hid g2',s2⟩,fun _ _ _ _ _ _ h=>h⟩)
    all_goals
     clear hl ha hb hD hI;go_wp2;exact hK.out _ _ ⟨rfl,hG,kkp⟩
   intro xs wx hV hG0;obtain⟨Lx,hL,hG⟩:=hG0;have l11:Lx 11=true:=hL 11 (by decide);clear hL hV;simp only[patchS,Nat.reduceAdd,Nat.reduceEqDiff,↓reduceIte];generalize xs 0=y0,xs 1=y1,xs 2=y2,xs 3=y3,xs 4=y4,xs 5=y5,xs 6=y6,xs 7=y7,xs 8=y8,xs 9=y9,xs 10=y10,xs 11=y11 at *
   replace hG:Ext w wx∧EB wx B e∧IB wx (B+1) 29 (List.replicate 16 0)∧Hid (wx.heap[B+1+1]?=some (.cells #[.func (.func 120) #[] #[],.func (.func 121) #[] #[],.func (.func 122) #[] #[],.func (.func 123) #[] #[],.func (.func 124) #[] #[]] 146 (0,0)))∧IB wx (B+1+1+1) 29 (if Lx 11=true then mixI (prd 3 e) (List.replicate 16 0) (k+1)else mixI (prd 3 e) (List.replicate 16 0) k):=hG
   rw[l11,ifT]at hG;clear G0;obtain⟨E5,s0,s1,X5,s3⟩:=hG;go_wp2;go_roundw
   case rel=>exact⟨k+1,by omega,by go_num,E5,s0,s1,X5,s3⟩
   case measure=>simp[intOf];omega
  ·obtain rfl:k=16:=by omega
   rw[mixI_all _ _ 16 HI.out lenZ]at r3;go_wp2_with (first|(refine wpList_iload 29 _ rfl rfl r3 0 16 rfl _ Tryz.underlying29 rfl size_A16 (by rw[HI.out];omega) _ (by rw[sub_all _ _ (HI.out)]) ?_)|(refine wpList_istore 29 _ _ rfl rfl r1 0 16 rfl _ rfl _ rfl size_A16 (HI.out) (by simp) ?_;intro w6 p6 g6;refine Hid.out ?_))
   rw[spl_all (by rw[HI.out];simp)]at p6;have E6:Ext w w6:=Ext.grown E4 g6 (fun q hq=>by cases hq;omega);refine Lib.hid ?_;go_wp2;exact bodyPost_ret (v := .agg (ic (prd 3 e))) (results_cell_row rfl _ _ (B+1) 29 (ic (prd 3 e)) (0,0) _ rfl p6 Tryz.underlying29 rfl (by rw[ic_size,prd_len];exact size_A16)) rfl ⟨rfl,E6⟩
theorem predict_4 (e:Ed) (w:World) (ok:e.ok) :
 Calls Tryz.prog 77 #[.agg (edC e),.int .i64 4] w fun r w'=>r= .returned (.agg (ic (prd 4 e)))∧Ext w w':=by
 have OK:=Lib.hid ok;have HI:=Lib.hid (prd_len 4 e);have Hm:=Lib.hid (fun(k:Nat) (hk:k<16)=>prd_mix 4 e hk);have a2:=Ext.alloc (w.alloc (.cells (edC e) 106)) (.cells (ic (List.replicate 16 0)) 29);have a3:=Ext.alloc ((w.alloc (.cells (edC e) 106)).alloc (.cells (ic (List.replicate 16 0)) 29)) (.cells #[.func (.func 120) #[] #[],.func (.func 121) #[] #[],.func (.func 122) #[] #[],.func (.func 123) #[] #[],.func (.func 124) #[] #[]] 146);have a4:=Ext.alloc (((w.alloc (.cells (edC e) 106)).alloc (.cells (ic (List.replicate 16 0)) 29)).alloc (.cells #[.func (.func 120) #[] #[],.func (.func 121) #[] #[],.func (.func 122) #[] #[],.func (.func 123) #[] #[],.func (.func 124) #[] #[]] 146)) (.cells (ic (List.replicate 16 0)) 29);have p0:=(((EB.new w e).ext a2).ext a3).ext a4;have p1:=((IB.new (w.alloc (.cells (edC e) 106)) 29 (List.replicate 16 0)).ext a3).ext a4;have p2:=a4.blk (blk_new ((w.alloc (.cells (edC e) 106)).alloc (.cells (ic (List.replicate 16 0)) 29)) (.cells #[.func (.func 120) #[] #[],.func (.func 121) #[] #[],.func (.func 122) #[] #[],.func (.func 123) #[] #[],.func (.func 124) #[] #[]] 146));have p3:=IB.new (((w.alloc (.cells (edC e) 106)).alloc (.cells (ic (List.replicate 16 0)) 29)).alloc (.cells #[.func (.func 120) #[] #[],.func (.func 121) #[] #[],.func (.func 122) #[] #[],.func (.func 123) #[] #[],.func (.func 124) #[] #[]] 146)) 29 (List.replicate 16 0);have E1:=(((Ext.alloc w (.cells (edC e) 106)).trans a2).trans a3).trans a4;simp only[World.size_alloc]at p1 p2 p3;clear a2 a3 a4 ok;go_enter Tryz.func77,Tryz.ntmps77
 go_wp2_with fail
 try simp only[World.size_alloc]
 obtain⟨B,hB⟩:∃ B,B=w.heap.size:=⟨_,rfl⟩;rw[←hB]at p0 p1 p2 p3⊢;have hwB:w.heap.size≤B:=by omega
 have HB:=Lib.hid hB;clear hB;go_loopw [9] (fun i wr=>∃ k:Nat,k≤16∧i= .int .i64 k∧Ext w wr∧EB wr B e∧IB wr (B+1) 29 (List.replicate 16 0)∧Hid (wr.heap[B+1+1]?=some (.cells #[.func (.func 120) #[] #[],.func (.func 121) #[] #[],.func (.func 122) #[] #[],.func (.func 123) #[] #[],.func (.func 124) #[] #[]] 146 (0,0)))∧IB wr (B+1+1+1) 29 (mixI (prd 4 e) (List.replicate 16 0) k)) (fun i _=>16-(intOf i).toNat)
 case atStart=>exact⟨0,by omega,rfl,E1,p0,p1,Lib.hid p2,by rw[mixI_zero];exact p3⟩
 case round =>
  obtain⟨k,hk,rfl,E4,r0,r1,X2,r3⟩:=hrel;clear p0 p1 p2 p3 E1
  by_cases hlt:k<16
  ·have hd:decide ((k:Int)<16)=true:=by simp;omega
   have HM:=Lib.hid (fun(k:Nat) (hk:k≤16)=>mixI_len (prd 4 e) (List.replicate 16 0) k 16 HI.out lenZ);have Hset:=Lib.hid (show(mixI (prd 4 e) (List.replicate 16 0) k).set k (prd1 4 e (k%4) (k/4))=mixI (prd 4 e) (List.replicate 16 0) (k+1)from Hm.out k hlt);have G0:Ext w wr∧EB wr B e∧IB wr (B+1) 29 (List.replicate 16 0)∧Hid (wr.heap[B+1+1]?=some (.cells #[.func (.func 120) #[] #[],.func (.func 121) #[] #[],.func (.func 122) #[] #[],.func (.func 123) #[] #[],.func (.func 124) #[] #[]] 146 (0,0)))∧IB wr (B+1+1+1) 29 (mixI (prd 4 e) (List.replicate 16 0) k):=⟨E4,r0,r1,X2,r3⟩;clear E4 r0 r1 X2 r3;go_wp2_with fail
   refine wp_region_invL (by kernel_rfl) [(12,0),(13,1),(14,2),(15,3),(16,4),(17,5),(18,6),(19,7),(20,8),(21,9),(22,10)] [[],[],[1],[1,2],[],[],[5],[],[7],[1,2,3,4,5,6,7,8],[0,1,2,3,4,5,6,7,8,9],[0,1,2,3,4,5,6,7,8,9,10]] (fun i own ys wx=>match i with|0=>own= .int .i64 (k:Nat)|1=>own= .int .i64 4|2=>own= .pointer (some ⟨B+1+1,4,none⟩)|3=>own= .func (.func 124) #[] #[]|4=>own= .agg (edC e)|5=>own= .int .i64 (k:Nat)|6=>own= .int .i64 ((k:Int)%4)|7=>own= .int .i64 (k:Nat)|8=>own= .int .i64 ((k:Int)/4)|9=>own= .int .i64 (prd1 4 e (k%4) (k/4))|10=>own= .pointer (some ⟨B+1+1+1,k,none⟩)|11=>True|_=>True) (fun Lx wx=>Ext w wx∧EB wx B e∧IB wx (B+1) 29 (List.replicate 16 0)∧Hid (wx.heap[B+1+1]?=some (.cells #[.func (.func 120) #[] #[],.func (.func 121) #[] #[],.func (.func 122) #[] #[],.func (.func 123) #[] #[],.func (.func 124) #[] #[]] 146 (0,0)))∧IB wx (B+1+1+1) 29 (if Lx 11=true then mixI (prd 4 e) (List.replicate 16 0) (k+1)else mixI (prd 4 e) (List.replicate 16 0) k)) (by kernel_rfl) (by kernel_rfl) (by kernel_rfl) ?g0_r5 ?gop_r5 ?gend_r5
   case g0_r5=>exact⟨Ext.trans_drewN G0.1 1,G0.2.1.ext (Ext.drewN _ 1),G0.2.2.1.drewN 1,Lib.hid (blk_drewN G0.2.2.2.1.out 1),G0.2.2.2.2.drewN 1⟩
   case gop_r5 =>
    refine⟨?_,?_,?o2,?o3,?o4,?_,?o6,?_,?o8,?o9,?o10,?o11,trivial⟩ <;> (intro Lx xs wx hG hl ha hb hD hI Qo Kx hK hQo;simp only[patchS,Nat.reduceAdd,Nat.reduceEqDiff,↓reduceIte]at hQo⊢)
    case o2 =>
     clear hl ha hb;rw[ddq (hD 1 rfl)]at hQo⊢;clear hD hI;go_wp2;exact hK.out _ _ ⟨rfl,hG,kkp⟩
    case o3 =>
     clear hl ha hb;rw[ddq (hD 2 rfl)]at hQo⊢;clear hD hI;obtain⟨f0,f1,f2,f3,f4⟩:=bx5m hG.2.2.2.1.out;go_wp2;exact hK.out _ _ ⟨rfl,hG,kkp⟩
    case o4 =>
     clear hl ha hb hD hI;go_wp2_with (refine wpList_cload 106 _ rfl rfl hG.2.1 rfl _ Tryz.underlying106 rfl 11 size_Edges (edC_size OK.out.ln) ?_)
     exact hK.out _ _ ⟨rfl,hG,kkp⟩
    case o6 =>
     clear hl ha hb;rw[ddq (hD 5 rfl)]at hQo⊢;clear hD hI;go_wp2;exact hK.out _ _ ⟨rfl,hG,kkp⟩
    case o8 =>
     clear hl ha hb;rw[ddq (hD 7 rfl)]at hQo⊢;clear hD hI;go_wp2;exact hK.out _ _ ⟨rfl,hG,kkp⟩
    case o9 =>
     clear hl ha hb;rw[ddq (hD 3 rfl),ddq (hD 4 rfl),ddq (hD 6 rfl),ddq (hD 8 rfl)]at hQo⊢;clear hD hI;go_wp2_with fail
     refine(plane_any e (k%4) (k/4) _ OK.out (by omega) (by omega)).mono ?_
     rintro r w9 ⟨rfl,e9⟩
     go_wp2;exact hK.out _ _ ⟨rfl,⟨hG.1.trans e9,hG.2.1.ext e9,hG.2.2.1.ext e9,Lib.hid (e9.blk hG.2.2.2.1.out),hG.2.2.2.2.ext e9⟩,fun _ _ _ _ _ _ h=>h⟩
    case o10 =>
     clear hl ha hb;rw[ddq (hD 0 rfl)]at hQo⊢;clear hD hI;go_wp2;exact hK.out _ _ ⟨rfl,hG,kkp⟩
    case o11 =>
     have l11:Lx 11=false:=hl;clear hl ha hb;rw[ddq (hD 9 rfl),ddq (hD 10 rfl)]at hQo⊢;clear hD hI;rw[l11,ifF]at hG;have cx:=hG.2.2.2.2.cell (i:=k) (by rw[HM.out k hk];exact hlt);have fx:=hG.2.2.2.2.frozen k;have s2:=hG.2.2.2.2.set k (prd1 4 e (k%4) (k/4));rw[Hset.out]at s2;have gE:=Ext.grown hG.1 (gr_set _ (B+1+1+1) k (.int .i64 (prd1 4 e (k%4) (k/4)))) (fun q hq=>by cases hq;omega);have g0':=hG.2.1.set_other (c:=B+1+1+1) (i:=k) (v := .int .i64 (prd1 4 e (k%4) (k/4))) (by omega);have g1':=hG.2.2.1.set_other (c:=B+1+1+1) (i:=k) (v := .int .i64 (prd1 4 e (k%4) (k/4))) (by omega);have g2':=blk_set_other (c:=B+1+1+1) (i:=k) (v := .int .i64 (prd1 4 e (k%4) (k/4))) hG.2.2.2.1.out (by omega);go_wp2;exact hQo undef _ (hK.out _ _ ⟨trivial,⟨gE,g0',g1',Lib.hid g2',s2⟩,fun _ _ _ _ _ _ h=>h⟩)
    all_goals
     clear hl ha hb hD hI;go_wp2;exact hK.out _ _ ⟨rfl,hG,kkp⟩
   intro xs wx hV hG0;obtain⟨Lx,hL,hG⟩:=hG0;have l11:Lx 11=true:=hL 11 (by decide);clear hL hV;simp only[patchS,Nat.reduceAdd,Nat.reduceEqDiff,↓reduceIte];generalize xs 0=y0,xs 1=y1,xs 2=y2,xs 3=y3,xs 4=y4,xs 5=y5,xs 6=y6,xs 7=y7,xs 8=y8,xs 9=y9,xs 10=y10,xs 11=y11 at *
   replace hG:Ext w wx∧EB wx B e∧IB wx (B+1) 29 (List.replicate 16 0)∧Hid (wx.heap[B+1+1]?=some (.cells #[.func (.func 120) #[] #[],.func (.func 121) #[] #[],.func (.func 122) #[] #[],.func (.func 123) #[] #[],.func (.func 124) #[] #[]] 146 (0,0)))∧IB wx (B+1+1+1) 29 (if Lx 11=true then mixI (prd 4 e) (List.replicate 16 0) (k+1)else mixI (prd 4 e) (List.replicate 16 0) k):=hG
   rw[l11,ifT]at hG;clear G0;obtain⟨E5,s0,s1,X5,s3⟩:=hG;go_wp2;go_roundw
   case rel=>exact⟨k+1,by omega,by go_num,E5,s0,s1,X5,s3⟩
   case measure=>simp[intOf];omega
  ·obtain rfl:k=16:=by omega
   rw[mixI_all _ _ 16 HI.out lenZ]at r3;go_wp2_with (first|(refine wpList_iload 29 _ rfl rfl r3 0 16 rfl _ Tryz.underlying29 rfl size_A16 (by rw[HI.out];omega) _ (by rw[sub_all _ _ (HI.out)]) ?_)|(refine wpList_istore 29 _ _ rfl rfl r1 0 16 rfl _ rfl _ rfl size_A16 (HI.out) (by simp) ?_;intro w6 p6 g6;refine Hid.out ?_))
   rw[spl_all (by rw[HI.out];simp)]at p6;have E6:Ext w w6:=Ext.grown E4 g6 (fun q hq=>by cases hq;omega);refine Lib.hid ?_;go_wp2;exact bodyPost_ret (v := .agg (ic (prd 4 e))) (results_cell_row rfl _ _ (B+1) 29 (ic (prd 4 e)) (0,0) _ rfl p6 Tryz.underlying29 rfl (by rw[ic_size,prd_len];exact size_A16)) rfl ⟨rfl,E6⟩
theorem predict_any (e:Ed) (m:Nat) (w:World) (ok:e.ok) (hm:m≤4) :
 Calls Tryz.prog 77 #[.agg (edC e),.int .i64 (m:Nat)] w fun r w'=>r= .returned (.agg (ic (prd m e)))∧Ext w w':=by
 match m,hm with
 | 0,_=>exact predict_0 e w ok
 | 1,_=>exact predict_1 e w ok
 | 2,_=>exact predict_2 e w ok
 | 3,_=>exact predict_3 e w ok
 | 4,_=>exact predict_4 e w ok
theorem l6Predict_0 (e:Ed) (w:World) (ok:e.ok) :
 Calls Tryz.prog 139 #[.int .i64 0,.agg (edC e)] w fun r w'=>r= .returned (.agg (ic (prd 0 e)))∧Ext w w':=by
 have OK:=Lib.hid ok;have HI:=Lib.hid (prd_len 0 e);have Hm:=Lib.hid (fun(k:Nat) (hk:k<16)=>prd_mix 0 e hk);have a2:=Ext.alloc (w.alloc (.cells (edC e) 106)) (.cells (ic (List.replicate 16 0)) 29);have a3:=Ext.alloc ((w.alloc (.cells (edC e) 106)).alloc (.cells (ic (List.replicate 16 0)) 29)) (.cells (ic (List.replicate 16 0)) 29);have p0:=((EB.new w e).ext a2).ext a3;have p1:=(IB.new (w.alloc (.cells (edC e) 106)) 29 (List.replicate 16 0)).ext a3;have p2:=IB.new ((w.alloc (.cells (edC e) 106)).alloc (.cells (ic (List.replicate 16 0)) 29)) 29 (List.replicate 16 0);have E1:=((Ext.alloc w (.cells (edC e) 106)).trans a2).trans a3;simp only[World.size_alloc]at p1 p2;clear a2 a3 ok;go_enter Tryz.func139,Tryz.ntmps139
 go_wp2_with (refine wpList_cload 106 _ rfl rfl p0 rfl _ Tryz.underlying106 rfl 11 size_Edges (edC_size OK.out.ln) ?_)
 try simp only[World.size_alloc]
 obtain⟨B,hB⟩:∃ B,B=w.heap.size:=⟨_,rfl⟩;rw[←hB]at p0 p1 p2⊢;have hwB:w.heap.size≤B:=by omega
 have HB:=Lib.hid hB;clear hB;refine(l6Mean_any e _ OK.out).mono ?_
 rintro r w0 ⟨rfl,e0⟩
 have q0:=p0.ext e0;have q1:=p1.ext e0;have q2:=p2.ext e0;have E2:=E1.trans e0;clear p0 p1 p2 E1 e0;go_wp2_with fail
 go_loopw [7] (fun y wr=>∃ Y:Nat,Y≤4∧y= .int .i64 Y∧Ext w wr∧EB wr B e∧IB wr (B+1) 29 (List.replicate 16 0)∧IB wr (B+1+1) 29 (mixI (prd 0 e) (List.replicate 16 0) (4*Y))) (fun y _=>4-(intOf y).toNat)
 case atStart=>exact⟨0,by omega,rfl,E2,q0,q1,by rw[mixI_zero];exact q2⟩
 case round =>
  obtain⟨Y,hY,rfl,E4,s0,s1,s2⟩:=hrel;obtain⟨wo,rfl⟩:∃ wo:World,wo=wr:=⟨_,rfl⟩;clear q0 q1 q2 E2
  by_cases hltY:Y<4
  ·have hdY:decide ((Y:Int)<4)=true:=by simp;omega
   go_wp2_with fail
   go_loopw [8] (fun x wr=>∃ X:Nat,X≤4∧x= .int .i64 X∧Ext w wr∧EB wr B e∧IB wr (B+1) 29 (List.replicate 16 0)∧IB wr (B+1+1) 29 (mixI (prd 0 e) (List.replicate 16 0) (4*Y+X))) (fun x _=>4-(intOf x).toNat)
   case atStart=>exact⟨0,by omega,rfl,E4,s0,s1,s2⟩
   case round =>
    obtain⟨X,hX,rfl,E5,r0,r1,r2⟩:=hrel;clear E4 s0 s1 s2
    by_cases hltX:X<4
    ·have hdX:decide ((X:Int)<4)=true:=by simp;omega
     have hs:=Hm.out (4*Y+X) (by omega);rw[show(4*Y+X)%4=X by omega,show(4*Y+X)/4=Y by omega]at hs;have Hset:=Lib.hid hs;clear hs;obtain⟨w1,rfl⟩:∃ w1:World,w1=wr:=⟨_,rfl⟩;have hv:prd1 0 e X Y=mean e:=rfl;have Hv:=Lib.hid hv;clear hv;rw[Hv.out]at Hset;have E5':=E5;have r0':=r0;have r1':=r1;have r2':=r2;clear E5 r0 r1 r2;have cB:=r2'.cell (i:=4*Y+X) (by rw[mixI_len _ _ _ 16 HI.out lenZ];omega);have fB:=r2'.frozen (4*Y+X);go_wp2;go_roundw
     case rel =>
      have t2:=r2'.set (4*Y+X) (mean e);rw[Hset.out]at t2;exact⟨X+1,by omega,by go_num,sC _ _ _ _ (by omega) E5',r0'.set_other (by omega),r1'.set_other (by omega),t2⟩
     case measure=>simp[intOf];omega
    ·obtain rfl:X=4:=by omega
     go_wp2;go_roundw
     case rel=>exact⟨Y+1,by omega,by go_num,E5,r0,r1,by rw[mul4];exact r2⟩
     case measure=>simp[intOf];omega
  ·obtain rfl:Y=4:=by omega
   rw[show 4*4=16 from rfl,mixI_all _ _ 16 HI.out lenZ]at s2;go_wp2_with (first|(refine wpList_iload 29 _ rfl rfl s2 0 16 rfl _ Tryz.underlying29 rfl size_A16 (by rw[HI.out];omega) _ (by rw[sub_all _ _ (HI.out)]) ?_)|(refine wpList_istore 29 _ _ rfl rfl s1 0 16 rfl _ rfl _ rfl size_A16 (HI.out) (by simp) ?_;intro w6 p6 g6;refine Hid.out ?_))
   rw[spl_all (by rw[HI.out];simp)]at p6;have E6:Ext w w6:=Ext.grown E4 g6 (fun q hq=>by cases hq;omega);refine Lib.hid ?_;go_wp2;exact bodyPost_ret (v := .agg (ic (prd 0 e))) (results_cell_row rfl _ _ (B+1) 29 (ic (prd 0 e)) (0,0) _ rfl p6 Tryz.underlying29 rfl (by rw[ic_size,prd_len];exact size_A16)) rfl ⟨rfl,E6⟩
theorem l6Predict_1 (e:Ed) (w:World) (ok:e.ok) :
 Calls Tryz.prog 139 #[.int .i64 1,.agg (edC e)] w fun r w'=>r= .returned (.agg (ic (prd 1 e)))∧Ext w w':=by
 have OK:=Lib.hid ok;have HI:=Lib.hid (prd_len 1 e);have Hm:=Lib.hid (fun(k:Nat) (hk:k<16)=>prd_mix 1 e hk);have a2:=Ext.alloc (w.alloc (.cells (edC e) 106)) (.cells (ic (List.replicate 16 0)) 29);have a3:=Ext.alloc ((w.alloc (.cells (edC e) 106)).alloc (.cells (ic (List.replicate 16 0)) 29)) (.cells (ic (List.replicate 16 0)) 29);have p0:=((EB.new w e).ext a2).ext a3;have p1:=(IB.new (w.alloc (.cells (edC e) 106)) 29 (List.replicate 16 0)).ext a3;have p2:=IB.new ((w.alloc (.cells (edC e) 106)).alloc (.cells (ic (List.replicate 16 0)) 29)) 29 (List.replicate 16 0);have E1:=((Ext.alloc w (.cells (edC e) 106)).trans a2).trans a3;simp only[World.size_alloc]at p1 p2;clear a2 a3 ok;go_enter Tryz.func139,Tryz.ntmps139
 go_wp2_with (refine wpList_cload 106 _ rfl rfl p0 rfl _ Tryz.underlying106 rfl 11 size_Edges (edC_size OK.out.ln) ?_)
 try simp only[World.size_alloc]
 obtain⟨B,hB⟩:∃ B,B=w.heap.size:=⟨_,rfl⟩;rw[←hB]at p0 p1 p2⊢;have hwB:w.heap.size≤B:=by omega
 have HB:=Lib.hid hB;clear hB;refine(l6Mean_any e _ OK.out).mono ?_
 rintro r w0 ⟨rfl,e0⟩
 have q0:=p0.ext e0;have q1:=p1.ext e0;have q2:=p2.ext e0;have E2:=E1.trans e0;clear p0 p1 p2 E1 e0;go_wp2_with fail
 go_loopw [7] (fun y wr=>∃ Y:Nat,Y≤4∧y= .int .i64 Y∧Ext w wr∧EB wr B e∧IB wr (B+1) 29 (List.replicate 16 0)∧IB wr (B+1+1) 29 (mixI (prd 1 e) (List.replicate 16 0) (4*Y))) (fun y _=>4-(intOf y).toNat)
 case atStart=>exact⟨0,by omega,rfl,E2,q0,q1,by rw[mixI_zero];exact q2⟩
 case round =>
  obtain⟨Y,hY,rfl,E4,s0,s1,s2⟩:=hrel;obtain⟨wo,rfl⟩:∃ wo:World,wo=wr:=⟨_,rfl⟩;clear q0 q1 q2 E2
  by_cases hltY:Y<4
  ·have hdY:decide ((Y:Int)<4)=true:=by simp;omega
   go_wp2_with fail
   go_loopw [8] (fun x wr=>∃ X:Nat,X≤4∧x= .int .i64 X∧Ext w wr∧EB wr B e∧IB wr (B+1) 29 (List.replicate 16 0)∧IB wr (B+1+1) 29 (mixI (prd 1 e) (List.replicate 16 0) (4*Y+X))) (fun x _=>4-(intOf x).toNat)
   case atStart=>exact⟨0,by omega,rfl,E4,s0,s1,s2⟩
   case round =>
    obtain⟨X,hX,rfl,E5,r0,r1,r2⟩:=hrel;clear E4 s0 s1 s2
    by_cases hltX:X<4
    ·have hdX:decide ((X:Int)<4)=true:=by simp;omega
     have hs:=Hm.out (4*Y+X) (by omega);rw[show(4*Y+X)%4=X by omega,show(4*Y+X)/4=Y by omega]at hs;have Hset:=Lib.hid hs;clear hs;obtain⟨w1,rfl⟩:∃ w1:World,w1=wr:=⟨_,rfl⟩;have Hv:=Lib.hid (show prd1 1 e X Y=nth e.ab X from rfl);have ca:=r0.ab OK.out.ln hltX;generalize nth e.ab X=va at *;rw[Hv.out]at Hset;have E5':=E5;have r0':=r0;have r1':=r1;have r2':=r2;clear E5 r0 r1 r2;have cB:=r2'.cell (i:=4*Y+X) (by rw[mixI_len _ _ _ 16 HI.out lenZ];omega);have fB:=r2'.frozen (4*Y+X);go_wp2;go_roundw
     case rel =>
      have t2:=r2'.set (4*Y+X) va;rw[Hset.out]at t2;exact⟨X+1,by omega,by go_num,sC _ _ _ _ (by omega) E5',r0'.set_other (by omega),r1'.set_other (by omega),t2⟩
     case measure=>simp[intOf];omega
    ·obtain rfl:X=4:=by omega
     go_wp2;go_roundw
     case rel=>exact⟨Y+1,by omega,by go_num,E5,r0,r1,by rw[mul4];exact r2⟩
     case measure=>simp[intOf];omega
  ·obtain rfl:Y=4:=by omega
   rw[show 4*4=16 from rfl,mixI_all _ _ 16 HI.out lenZ]at s2;go_wp2_with (first|(refine wpList_iload 29 _ rfl rfl s2 0 16 rfl _ Tryz.underlying29 rfl size_A16 (by rw[HI.out];omega) _ (by rw[sub_all _ _ (HI.out)]) ?_)|(refine wpList_istore 29 _ _ rfl rfl s1 0 16 rfl _ rfl _ rfl size_A16 (HI.out) (by simp) ?_;intro w6 p6 g6;refine Hid.out ?_))
   rw[spl_all (by rw[HI.out];simp)]at p6;have E6:Ext w w6:=Ext.grown E4 g6 (fun q hq=>by cases hq;omega);refine Lib.hid ?_;go_wp2;exact bodyPost_ret (v := .agg (ic (prd 1 e))) (results_cell_row rfl _ _ (B+1) 29 (ic (prd 1 e)) (0,0) _ rfl p6 Tryz.underlying29 rfl (by rw[ic_size,prd_len];exact size_A16)) rfl ⟨rfl,E6⟩
theorem l6Predict_2 (e:Ed) (w:World) (ok:e.ok) :
 Calls Tryz.prog 139 #[.int .i64 2,.agg (edC e)] w fun r w'=>r= .returned (.agg (ic (prd 2 e)))∧Ext w w':=by
 have OK:=Lib.hid ok;have HI:=Lib.hid (prd_len 2 e);have Hm:=Lib.hid (fun(k:Nat) (hk:k<16)=>prd_mix 2 e hk);have a2:=Ext.alloc (w.alloc (.cells (edC e) 106)) (.cells (ic (List.replicate 16 0)) 29);have a3:=Ext.alloc ((w.alloc (.cells (edC e) 106)).alloc (.cells (ic (List.replicate 16 0)) 29)) (.cells (ic (List.replicate 16 0)) 29);have p0:=((EB.new w e).ext a2).ext a3;have p1:=(IB.new (w.alloc (.cells (edC e) 106)) 29 (List.replicate 16 0)).ext a3;have p2:=IB.new ((w.alloc (.cells (edC e) 106)).alloc (.cells (ic (List.replicate 16 0)) 29)) 29 (List.replicate 16 0);have E1:=((Ext.alloc w (.cells (edC e) 106)).trans a2).trans a3;simp only[World.size_alloc]at p1 p2;clear a2 a3 ok;go_enter Tryz.func139,Tryz.ntmps139
 go_wp2_with (refine wpList_cload 106 _ rfl rfl p0 rfl _ Tryz.underlying106 rfl 11 size_Edges (edC_size OK.out.ln) ?_)
 try simp only[World.size_alloc]
 obtain⟨B,hB⟩:∃ B,B=w.heap.size:=⟨_,rfl⟩;rw[←hB]at p0 p1 p2⊢;have hwB:w.heap.size≤B:=by omega
 have HB:=Lib.hid hB;clear hB;refine(l6Mean_any e _ OK.out).mono ?_
 rintro r w0 ⟨rfl,e0⟩
 have q0:=p0.ext e0;have q1:=p1.ext e0;have q2:=p2.ext e0;have E2:=E1.trans e0;clear p0 p1 p2 E1 e0;go_wp2_with fail
 go_loopw [7] (fun y wr=>∃ Y:Nat,Y≤4∧y= .int .i64 Y∧Ext w wr∧EB wr B e∧IB wr (B+1) 29 (List.replicate 16 0)∧IB wr (B+1+1) 29 (mixI (prd 2 e) (List.replicate 16 0) (4*Y))) (fun y _=>4-(intOf y).toNat)
 case atStart=>exact⟨0,by omega,rfl,E2,q0,q1,by rw[mixI_zero];exact q2⟩
 case round =>
  obtain⟨Y,hY,rfl,E4,s0,s1,s2⟩:=hrel;obtain⟨wo,rfl⟩:∃ wo:World,wo=wr:=⟨_,rfl⟩;clear q0 q1 q2 E2
  by_cases hltY:Y<4
  ·have hdY:decide ((Y:Int)<4)=true:=by simp;omega
   go_wp2_with fail
   go_loopw [8] (fun x wr=>∃ X:Nat,X≤4∧x= .int .i64 X∧Ext w wr∧EB wr B e∧IB wr (B+1) 29 (List.replicate 16 0)∧IB wr (B+1+1) 29 (mixI (prd 2 e) (List.replicate 16 0) (4*Y+X))) (fun x _=>4-(intOf x).toNat)
   case atStart=>exact⟨0,by omega,rfl,E4,s0,s1,s2⟩
   case round =>
    obtain⟨X,hX,rfl,E5,r0,r1,r2⟩:=hrel;clear E4 s0 s1 s2
    by_cases hltX:X<4
    ·have hdX:decide ((X:Int)<4)=true:=by simp;omega
     have hs:=Hm.out (4*Y+X) (by omega);rw[show(4*Y+X)%4=X by omega,show(4*Y+X)/4=Y by omega]at hs;have Hset:=Lib.hid hs;clear hs;obtain⟨w1,rfl⟩:∃ w1:World,w1=wr:=⟨_,rfl⟩;have Hv:=Lib.hid (show prd1 2 e X Y=nth e.lf Y from rfl);have ca:=r0.lf OK.out.ln hltY;generalize nth e.lf Y=va at *;rw[Hv.out]at Hset;have E5':=E5;have r0':=r0;have r1':=r1;have r2':=r2;clear E5 r0 r1 r2;have cB:=r2'.cell (i:=4*Y+X) (by rw[mixI_len _ _ _ 16 HI.out lenZ];omega);have fB:=r2'.frozen (4*Y+X);go_wp2;go_roundw
     case rel =>
      have t2:=r2'.set (4*Y+X) va;rw[Hset.out]at t2;exact⟨X+1,by omega,by go_num,sC _ _ _ _ (by omega) E5',r0'.set_other (by omega),r1'.set_other (by omega),t2⟩
     case measure=>simp[intOf];omega
    ·obtain rfl:X=4:=by omega
     go_wp2;go_roundw
     case rel=>exact⟨Y+1,by omega,by go_num,E5,r0,r1,by rw[mul4];exact r2⟩
     case measure=>simp[intOf];omega
  ·obtain rfl:Y=4:=by omega
   rw[show 4*4=16 from rfl,mixI_all _ _ 16 HI.out lenZ]at s2;go_wp2_with (first|(refine wpList_iload 29 _ rfl rfl s2 0 16 rfl _ Tryz.underlying29 rfl size_A16 (by rw[HI.out];omega) _ (by rw[sub_all _ _ (HI.out)]) ?_)|(refine wpList_istore 29 _ _ rfl rfl s1 0 16 rfl _ rfl _ rfl size_A16 (HI.out) (by simp) ?_;intro w6 p6 g6;refine Hid.out ?_))
   rw[spl_all (by rw[HI.out];simp)]at p6;have E6:Ext w w6:=Ext.grown E4 g6 (fun q hq=>by cases hq;omega);refine Lib.hid ?_;go_wp2;exact bodyPost_ret (v := .agg (ic (prd 2 e))) (results_cell_row rfl _ _ (B+1) 29 (ic (prd 2 e)) (0,0) _ rfl p6 Tryz.underlying29 rfl (by rw[ic_size,prd_len];exact size_A16)) rfl ⟨rfl,E6⟩
theorem l6Predict_3 (e:Ed) (w:World) (ok:e.ok) :
 Calls Tryz.prog 139 #[.int .i64 3,.agg (edC e)] w fun r w'=>r= .returned (.agg (ic (prd 3 e)))∧Ext w w':=by
 have OK:=Lib.hid ok;have HI:=Lib.hid (prd_len 3 e);have Hm:=Lib.hid (fun(k:Nat) (hk:k<16)=>prd_mix 3 e hk);have a2:=Ext.alloc (w.alloc (.cells (edC e) 106)) (.cells (ic (List.replicate 16 0)) 29);have a3:=Ext.alloc ((w.alloc (.cells (edC e) 106)).alloc (.cells (ic (List.replicate 16 0)) 29)) (.cells (ic (List.replicate 16 0)) 29);have p0:=((EB.new w e).ext a2).ext a3;have p1:=(IB.new (w.alloc (.cells (edC e) 106)) 29 (List.replicate 16 0)).ext a3;have p2:=IB.new ((w.alloc (.cells (edC e) 106)).alloc (.cells (ic (List.replicate 16 0)) 29)) 29 (List.replicate 16 0);have E1:=((Ext.alloc w (.cells (edC e) 106)).trans a2).trans a3;simp only[World.size_alloc]at p1 p2;clear a2 a3 ok;go_enter Tryz.func139,Tryz.ntmps139
 go_wp2_with (refine wpList_cload 106 _ rfl rfl p0 rfl _ Tryz.underlying106 rfl 11 size_Edges (edC_size OK.out.ln) ?_)
 try simp only[World.size_alloc]
 obtain⟨B,hB⟩:∃ B,B=w.heap.size:=⟨_,rfl⟩;rw[←hB]at p0 p1 p2⊢;have hwB:w.heap.size≤B:=by omega
 have HB:=Lib.hid hB;clear hB;refine(l6Mean_any e _ OK.out).mono ?_
 rintro r w0 ⟨rfl,e0⟩
 have q0:=p0.ext e0;have q1:=p1.ext e0;have q2:=p2.ext e0;have E2:=E1.trans e0;clear p0 p1 p2 E1 e0;go_wp2_with fail
 go_loopw [7] (fun y wr=>∃ Y:Nat,Y≤4∧y= .int .i64 Y∧Ext w wr∧EB wr B e∧IB wr (B+1) 29 (List.replicate 16 0)∧IB wr (B+1+1) 29 (mixI (prd 3 e) (List.replicate 16 0) (4*Y))) (fun y _=>4-(intOf y).toNat)
 case atStart=>exact⟨0,by omega,rfl,E2,q0,q1,by rw[mixI_zero];exact q2⟩
 case round =>
  obtain⟨Y,hY,rfl,E4,s0,s1,s2⟩:=hrel;obtain⟨wo,rfl⟩:∃ wo:World,wo=wr:=⟨_,rfl⟩;clear q0 q1 q2 E2
  by_cases hltY:Y<4
  ·have hdY:decide ((Y:Int)<4)=true:=by simp;omega
   go_wp2_with fail
   go_loopw [8] (fun x wr=>∃ X:Nat,X≤4∧x= .int .i64 X∧Ext w wr∧EB wr B e∧IB wr (B+1) 29 (List.replicate 16 0)∧IB wr (B+1+1) 29 (mixI (prd 3 e) (List.replicate 16 0) (4*Y+X))) (fun x _=>4-(intOf x).toNat)
   case atStart=>exact⟨0,by omega,rfl,E4,s0,s1,s2⟩
   case round =>
    obtain⟨X,hX,rfl,E5,r0,r1,r2⟩:=hrel;clear E4 s0 s1 s2
    by_cases hltX:X<4
    ·have hdX:decide ((X:Int)<4)=true:=by simp;omega
     have hs:=Hm.out (4*Y+X) (by omega);rw[show(4*Y+X)%4=X by omega,show(4*Y+X)/4=Y by omega]at hs;have Hset:=Lib.hid hs;clear hs;obtain⟨w1,rfl⟩:∃ w1:World,w1=wr:=⟨_,rfl⟩;have Hv:=Lib.hid (show prd1 3 e X Y=(bord e (3+X-Y)+2*bord e (4+X-Y)+bord e (5+X-Y)+2)/4 from rfl);have q1:=bord_rng OK.out (k:=3+X-Y) (by omega);have q2:=bord_rng OK.out (k:=4+X-Y) (by omega);have q3:=bord_rng OK.out (k:=5+X-Y) (by omega);have K1:=Lib.hid (show(4:Int)+(X:Int)-(Y:Int)-1=((3+X-Y:Nat):Int) by omega);have K2:=Lib.hid (show(4:Int)+(X:Int)-(Y:Int)=((4+X-Y:Nat):Int) by omega);have K3:=Lib.hid (show(4:Int)+(X:Int)-(Y:Int)+1=((5+X-Y:Nat):Int) by omega);obtain⟨k1,hk1⟩:∃ k,k=3+X-Y:=⟨_,rfl⟩;obtain⟨k2,hk2⟩:∃ k,k=4+X-Y:=⟨_,rfl⟩;obtain⟨k3,hk3⟩:∃ k,k=5+X-Y:=⟨_,rfl⟩;have l1:k1≤8:=by omega
     have l2:k2≤8:=by omega
     have l3:k3≤8:=by omega
     rw[←hk1]at K1 q1 Hv;rw[←hk2]at K2 q2 Hv;rw[←hk3]at K3 q3 Hv;obtain⟨v1,hv1⟩:∃ v,v=bord e k1:=⟨_,rfl⟩;obtain⟨v2,hv2⟩:∃ v,v=bord e k2:=⟨_,rfl⟩;obtain⟨v3,hv3⟩:∃ v,v=bord e k3:=⟨_,rfl⟩;rw[←hv1,←hv2,←hv3]at Hv;rw[←hv1]at q1;rw[←hv2]at q2;rw[←hv3]at q3;have Hv1:=Lib.hid hv1;have Hv2:=Lib.hid hv2;have Hv3:=Lib.hid hv3;clear hk1 hk2 hk3 hv1 hv2 hv3;go_wp2_with fail
     refine wp_region_inv2 (by kernel_rfl) [(9,18),(42,0),(43,1),(44,2),(45,3),(46,4),(47,5),(48,6),(49,7),(50,8),(51,9),(52,10),(53,11),(54,12),(55,13),(56,14),(57,15),(58,16),(59,17)] [[],[],[1],[1,2],[0,1,2,3],[],[],[0,1,2,3,4,5,6],[0,1,2,3,4,5,6,7],[0,1,2,3,4,5,6,7,8],[],[],[11],[11,12],[0,1,2,3,4,5,6,7,10,11,12,13],[0,1,2,3,4,5,6,7,8,9,10,11,12,13,14],[0,1,2,3,4,5,6,7,8,9,10,11,12,13,14,15],[0,1,2,3,4,5,6,7,8,9,10,11,12,13,14,15,16],[0,1,2,3,4,5,6,7,8,9,10,11,12,13,14,15,16,17]] (fun i own ys wx=>match i with|0=>own= .agg (edC e)|1=>own= .int .i64 (4+(X:Int)-(Y:Int))|2=>own= .int .i64 (k1:Nat)|3=>own= .int .i64 (k1:Nat)|4=>own= .int .i64 v1|5=>own= .agg (edC e)|6=>own= .int .i64 (k2:Nat)|7=>own= .int .i64 v2|8=>own= .int .i64 (2*v2)|9=>own= .int .i64 (v1+2*v2)|10=>own= .agg (edC e)|11=>own= .int .i64 (4+(X:Int)-(Y:Int))|12=>own= .int .i64 (k3:Nat)|13=>own= .int .i64 (k3:Nat)|14=>own= .int .i64 v3|15=>own= .int .i64 (v1+2*v2+v3)|16=>own= .int .i64 (v1+2*v2+v3+2)|17=>own= .int .i64 ((v1+2*v2+v3+2)/4)|18=>own= .int .i64 ((v1+2*v2+v3+2)/4)|_=>True) (fun kx wx=>Ext w1 wx) (by kernel_rfl) (by kernel_rfl) (by kernel_rfl) ?g0_r1 ?gop_r1 ?gend_r1
     case g0_r1=>exact Ext.drewN _ 1
     case gop_r1 =>
      refine⟨?_,?o1,?o2,?o3,?o4,?_,?o6,?o7,?o8,?o9,?_,?o11,?o12,?o13,?o14,?o15,?o16,?o17,?o18,trivial⟩ <;> (intro kx xs wx hk hG hD hI Qo Kx hK hQo;simp only[patchS,Nat.reduceAdd,Nat.reduceEqDiff,↓reduceIte]at hQo⊢)
      case o1 =>
       clear hD hI;go_wp2;exact hK.out _ _ ⟨rfl,hG,kkp⟩
      case o2 =>
       rw[ddq (hD 1 rfl)]at hQo⊢;clear hD hI;go_wp2;exact hK.out _ _ ⟨by rw[←K1.out],hG,fun _ _ _ _ _ _ h=>h⟩
      case o3 =>
       rw[ddq (hD 2 rfl)]at hQo⊢;clear hD hI;go_wp2
       ·exact hK.out _ _ ⟨rfl,hG,fun _ _ _ _ _ _ h=>h⟩
       ·exact hK.out _ _ ⟨by rw[show k1=0 by omega];rfl,hG,fun _ _ _ _ _ _ h=>h⟩
      case o4 =>
       rw[ddq (hD 0 rfl),ddq (hD 3 rfl)]at hQo⊢;clear hD hI;go_wp2_with fail
       refine(l6Diagonal_any e k1 _ OK.out (by omega)).mono ?_
       rintro r w9 ⟨rfl,e9⟩
       rw[←Hv1.out];go_wp2;exact hK.out _ _ ⟨rfl,hG.trans e9,fun _ _ _ _ _ _ h=>h⟩
      case o6 =>
       clear hD hI;go_wp2;exact hK.out _ _ ⟨by rw[←K2.out],hG,fun _ _ _ _ _ _ h=>h⟩
      case o7 =>
       rw[ddq (hD 5 rfl),ddq (hD 6 rfl)]at hQo⊢;clear hD hI;go_wp2_with fail
       refine(l6Diagonal_any e k2 _ OK.out (by omega)).mono ?_
       rintro r w9 ⟨rfl,e9⟩
       rw[←Hv2.out];go_wp2;exact hK.out _ _ ⟨rfl,hG.trans e9,fun _ _ _ _ _ _ h=>h⟩
      case o8 =>
       rw[ddq (hD 7 rfl)]at hQo⊢;clear hD hI;go_wp2;exact hK.out _ _ ⟨rfl,hG,kkp⟩
      case o9 =>
       rw[ddq (hD 4 rfl),ddq (hD 8 rfl)]at hQo⊢;clear hD hI;go_wp2;exact hK.out _ _ ⟨rfl,hG,kkp⟩
      case o11 =>
       clear hD hI;go_wp2;exact hK.out _ _ ⟨rfl,hG,kkp⟩
      case o12 =>
       rw[ddq (hD 11 rfl)]at hQo⊢;clear hD hI;go_wp2;exact hK.out _ _ ⟨by rw[←K3.out],hG,fun _ _ _ _ _ _ h=>h⟩
      case o13 =>
       rw[ddq (hD 12 rfl)]at hQo⊢;clear hD hI;go_wp2
       ·exact hK.out _ _ ⟨rfl,hG,fun _ _ _ _ _ _ h=>h⟩
       ·exact hK.out _ _ ⟨by rw[show k3=8 by omega];rfl,hG,fun _ _ _ _ _ _ h=>h⟩
      case o14 =>
       rw[ddq (hD 10 rfl),ddq (hD 13 rfl)]at hQo⊢;clear hD hI;go_wp2_with fail
       refine(l6Diagonal_any e k3 _ OK.out (by omega)).mono ?_
       rintro r w9 ⟨rfl,e9⟩
       rw[←Hv3.out];go_wp2;exact hK.out _ _ ⟨rfl,hG.trans e9,fun _ _ _ _ _ _ h=>h⟩
      case o15 =>
       rw[ddq (hD 9 rfl),ddq (hD 14 rfl)]at hQo⊢;clear hD hI;go_wp2;exact hK.out _ _ ⟨rfl,hG,kkp⟩
      case o16 =>
       rw[ddq (hD 15 rfl)]at hQo⊢;clear hD hI;go_wp2;exact hK.out _ _ ⟨rfl,hG,kkp⟩
      case o17 =>
       rw[ddq (hD 16 rfl)]at hQo⊢;clear hD hI;go_wp2;exact hK.out _ _ ⟨rfl,hG,kkp⟩
      case o18 =>
       rw[ddq (hD 17 rfl)]at hQo⊢;clear hD hI;go_wp2;exact hK.out _ _ ⟨rfl,hG,kkp⟩
      all_goals
       clear hD hI;go_wp2_with (refine wpList_cload 106 _ rfl rfl (r0.ext hG) rfl _ Tryz.underlying106 rfl 11 size_Edges (edC_size OK.out.ln) ?_)
       exact hK.out _ _ ⟨rfl,hG,kkp⟩
     intro xs wx hV hG;have d18:_=_:=hV 18 (by decide);clear hV;simp only[patchS,Nat.reduceAdd,Nat.reduceEqDiff,↓reduceIte];generalize xs 0=y0,xs 1=y1,xs 2=y2,xs 3=y3,xs 4=y4,xs 5=y5,xs 6=y6,xs 7=y7,xs 8=y8,xs 9=y9,xs 10=y10,xs 11=y11,xs 12=y12,xs 13=y13,xs 14=y14,xs 15=y15,xs 16=y16,xs 17=y17,xs 18=y18 at *
     replace hG:Ext w1 wx:=hG
     subst d18;rw[Hv.out]at Hset;have E5':=E5.trans hG;have r0':=r0.ext hG;have r1':=r1.ext hG;have r2':=r2.ext hG;clear E5 r0 r1 r2 hG;have cB:=r2'.cell (i:=4*Y+X) (by rw[mixI_len _ _ _ 16 HI.out lenZ];omega);have fB:=r2'.frozen (4*Y+X);go_wp2;go_roundw
     case rel =>
      have t2:=r2'.set (4*Y+X) ((v1+2*v2+v3+2)/4);rw[Hset.out]at t2;exact⟨X+1,by omega,by go_num,sC _ _ _ _ (by omega) E5',r0'.set_other (by omega),r1'.set_other (by omega),t2⟩
     case measure=>simp[intOf];omega
    ·obtain rfl:X=4:=by omega
     go_wp2;go_roundw
     case rel=>exact⟨Y+1,by omega,by go_num,E5,r0,r1,by rw[mul4];exact r2⟩
     case measure=>simp[intOf];omega
  ·obtain rfl:Y=4:=by omega
   rw[show 4*4=16 from rfl,mixI_all _ _ 16 HI.out lenZ]at s2;go_wp2_with (first|(refine wpList_iload 29 _ rfl rfl s2 0 16 rfl _ Tryz.underlying29 rfl size_A16 (by rw[HI.out];omega) _ (by rw[sub_all _ _ (HI.out)]) ?_)|(refine wpList_istore 29 _ _ rfl rfl s1 0 16 rfl _ rfl _ rfl size_A16 (HI.out) (by simp) ?_;intro w6 p6 g6;refine Hid.out ?_))
   rw[spl_all (by rw[HI.out];simp)]at p6;have E6:Ext w w6:=Ext.grown E4 g6 (fun q hq=>by cases hq;omega);refine Lib.hid ?_;go_wp2;exact bodyPost_ret (v := .agg (ic (prd 3 e))) (results_cell_row rfl _ _ (B+1) 29 (ic (prd 3 e)) (0,0) _ rfl p6 Tryz.underlying29 rfl (by rw[ic_size,prd_len];exact size_A16)) rfl ⟨rfl,E6⟩
theorem l6Predict_4 (e:Ed) (w:World) (ok:e.ok) :
 Calls Tryz.prog 139 #[.int .i64 4,.agg (edC e)] w fun r w'=>r= .returned (.agg (ic (prd 4 e)))∧Ext w w':=by
 have OK:=Lib.hid ok;have HI:=Lib.hid (prd_len 4 e);have Hm:=Lib.hid (fun(k:Nat) (hk:k<16)=>prd_mix 4 e hk);have a2:=Ext.alloc (w.alloc (.cells (edC e) 106)) (.cells (ic (List.replicate 16 0)) 29);have a3:=Ext.alloc ((w.alloc (.cells (edC e) 106)).alloc (.cells (ic (List.replicate 16 0)) 29)) (.cells (ic (List.replicate 16 0)) 29);have p0:=((EB.new w e).ext a2).ext a3;have p1:=(IB.new (w.alloc (.cells (edC e) 106)) 29 (List.replicate 16 0)).ext a3;have p2:=IB.new ((w.alloc (.cells (edC e) 106)).alloc (.cells (ic (List.replicate 16 0)) 29)) 29 (List.replicate 16 0);have E1:=((Ext.alloc w (.cells (edC e) 106)).trans a2).trans a3;simp only[World.size_alloc]at p1 p2;clear a2 a3 ok;go_enter Tryz.func139,Tryz.ntmps139
 go_wp2_with (refine wpList_cload 106 _ rfl rfl p0 rfl _ Tryz.underlying106 rfl 11 size_Edges (edC_size OK.out.ln) ?_)
 try simp only[World.size_alloc]
 obtain⟨B,hB⟩:∃ B,B=w.heap.size:=⟨_,rfl⟩;rw[←hB]at p0 p1 p2⊢;have hwB:w.heap.size≤B:=by omega
 have HB:=Lib.hid hB;clear hB;refine(l6Mean_any e _ OK.out).mono ?_
 rintro r w0 ⟨rfl,e0⟩
 have q0:=p0.ext e0;have q1:=p1.ext e0;have q2:=p2.ext e0;have E2:=E1.trans e0;clear p0 p1 p2 E1 e0;go_wp2_with fail
 go_loopw [7] (fun y wr=>∃ Y:Nat,Y≤4∧y= .int .i64 Y∧Ext w wr∧EB wr B e∧IB wr (B+1) 29 (List.replicate 16 0)∧IB wr (B+1+1) 29 (mixI (prd 4 e) (List.replicate 16 0) (4*Y))) (fun y _=>4-(intOf y).toNat)
 case atStart=>exact⟨0,by omega,rfl,E2,q0,q1,by rw[mixI_zero];exact q2⟩
 case round =>
  obtain⟨Y,hY,rfl,E4,s0,s1,s2⟩:=hrel;obtain⟨wo,rfl⟩:∃ wo:World,wo=wr:=⟨_,rfl⟩;clear q0 q1 q2 E2
  by_cases hltY:Y<4
  ·have hdY:decide ((Y:Int)<4)=true:=by simp;omega
   go_wp2_with fail
   go_loopw [8] (fun x wr=>∃ X:Nat,X≤4∧x= .int .i64 X∧Ext w wr∧EB wr B e∧IB wr (B+1) 29 (List.replicate 16 0)∧IB wr (B+1+1) 29 (mixI (prd 4 e) (List.replicate 16 0) (4*Y+X))) (fun x _=>4-(intOf x).toNat)
   case atStart=>exact⟨0,by omega,rfl,E4,s0,s1,s2⟩
   case round =>
    obtain⟨X,hX,rfl,E5,r0,r1,r2⟩:=hrel;clear E4 s0 s1 s2
    by_cases hltX:X<4
    ·have hdX:decide ((X:Int)<4)=true:=by simp;omega
     have hs:=Hm.out (4*Y+X) (by omega);rw[show(4*Y+X)%4=X by omega,show(4*Y+X)/4=Y by omega]at hs;have Hset:=Lib.hid hs;clear hs;obtain⟨w1,rfl⟩:∃ w1:World,w1=wr:=⟨_,rfl⟩;have Hv:=Lib.hid (show prd1 4 e X Y=clipI (nth e.ab X+nth e.lf Y-e.co) 0 255 from rfl);have ha:=smp_nth OK.out.sab (i:=X) (by rw[OK.out.ab];exact hltX);have hf:=smp_nth OK.out.slf (i:=Y) (by rw[OK.out.lf];exact hltY);have hc:=OK.out.sco;have CA:=Lib.hid (r0.ab OK.out.ln hltX);have CL:=Lib.hid (r0.lf OK.out.ln hltY);have CC:=Lib.hid (r0.co OK.out.ln);generalize nth e.ab X=va at *;generalize nth e.lf Y=vl at *;obtain⟨v,hv⟩:∃ v,v=clipI (va+vl-e.co) 0 255:=⟨_,rfl⟩;rw[←hv]at Hv;have HV:=Lib.hid hv;clear hv;go_wp2_with fail
     refine wp_region_inv2 (by kernel_rfl) [(9,13),(62,0),(63,1),(64,2),(65,3),(66,4),(67,5),(68,6),(69,7),(70,8),(71,9),(72,10),(73,11),(74,12)] [[],[],[0,1],[0,1,2],[],[],[4,5],[4,5,6],[0,1,2,3,4,5,6,7],[],[9],[0,1,2,3,4,5,6,7,8,9,10],[0,1,2,3,4,5,6,7,8,9,10,11],[0,1,2,3,4,5,6,7,8,9,10,11,12]] (fun i own ys wx=>match i with|0=>own= .int .i64 (X:Nat)|1=>own= .pointer (some ⟨B,0,none⟩)|2=>own= .pointer (some ⟨B,X,none⟩)|3=>own= .int .i64 va|4=>own= .int .i64 (Y:Nat)|5=>own= .pointer (some ⟨B,4,none⟩)|6=>own= .pointer (some ⟨B,4+Y,none⟩)|7=>own= .int .i64 vl|8=>own= .int .i64 (va+vl)|9=>own= .pointer (some ⟨B,8,none⟩)|10=>own= .int .i64 e.co|11=>own= .int .i64 (va+vl-e.co)|12=>own= .int .i64 v|13=>own= .int .i64 v|_=>True) (fun kx wx=>Ext w1 wx) (by kernel_rfl) (by kernel_rfl) (by kernel_rfl) ?g0_r2 ?gop_r2 ?gend_r2
     case g0_r2=>exact Ext.drewN _ 1
     case gop_r2 =>
      refine⟨?_,?_,?o2,?o3,?_,?_,?o6,?o7,?o8,?_,?o10,?o11,?o12,?o13,trivial⟩ <;> (intro kx xs wx hk hG hD hI Qo Kx hK hQo;simp only[patchS,Nat.reduceAdd,Nat.reduceEqDiff,↓reduceIte]at hQo⊢)
      case o2 =>
       rw[ddq (hD 0 rfl),ddq (hD 1 rfl)]at hQo⊢;clear hD hI;go_wp2;exact hK.out _ _ ⟨rfl,hG,kkp⟩
      case o3 =>
       rw[ddq (hD 2 rfl)]at hQo⊢;clear hD hI;have cx:=cell_ext hG CA.out;go_wp2;exact hK.out _ _ ⟨rfl,hG,kkp⟩
      case o6 =>
       rw[ddq (hD 4 rfl),ddq (hD 5 rfl)]at hQo⊢;clear hD hI;go_wp2;exact hK.out _ _ ⟨rfl,hG,kkp⟩
      case o7 =>
       rw[ddq (hD 6 rfl)]at hQo⊢;clear hD hI;have cx:=cell_ext hG CL.out;go_wp2;exact hK.out _ _ ⟨rfl,hG,kkp⟩
      case o8 =>
       rw[ddq (hD 3 rfl),ddq (hD 7 rfl)]at hQo⊢;clear hD hI;go_wp2;exact hK.out _ _ ⟨rfl,hG,kkp⟩
      case o10 =>
       rw[ddq (hD 9 rfl)]at hQo⊢;clear hD hI;have cx:=cell_ext hG CC.out;go_wp2;exact hK.out _ _ ⟨rfl,hG,kkp⟩
      case o11 =>
       rw[ddq (hD 8 rfl),ddq (hD 10 rfl)]at hQo⊢;clear hD hI;go_wp2;exact hK.out _ _ ⟨rfl,hG,kkp⟩
      case o12 =>
       rw[ddq (hD 11 rfl)]at hQo⊢;clear hD hI;go_wp2_with fail
       refine(l1Clip_any _ _ _ _).mono ?_
       rintro r w9 ⟨rfl,rfl⟩
       rw[←HV.out];go_wp2;exact hK.out _ _ ⟨rfl,hG,kkp⟩
      case o13 =>
       rw[ddq (hD 12 rfl)]at hQo⊢;clear hD hI;go_wp2;exact hK.out _ _ ⟨rfl,hG,kkp⟩
      all_goals
       clear hD hI;go_wp2;exact hK.out _ _ ⟨rfl,hG,kkp⟩
     intro xs wx hV hG;have d13:_=_:=hV 13 (by decide);clear hV;simp only[patchS,Nat.reduceAdd,Nat.reduceEqDiff,↓reduceIte];generalize xs 0=y0,xs 1=y1,xs 2=y2,xs 3=y3,xs 4=y4,xs 5=y5,xs 6=y6,xs 7=y7,xs 8=y8,xs 9=y9,xs 10=y10,xs 11=y11,xs 12=y12,xs 13=y13 at *
     replace hG:Ext w1 wx:=hG
     subst d13;rw[Hv.out]at Hset;have E5':=E5.trans hG;have r0':=r0.ext hG;have r1':=r1.ext hG;have r2':=r2.ext hG;clear E5 r0 r1 r2 hG;have cB:=r2'.cell (i:=4*Y+X) (by rw[mixI_len _ _ _ 16 HI.out lenZ];omega);have fB:=r2'.frozen (4*Y+X);go_wp2;go_roundw
     case rel =>
      have t2:=r2'.set (4*Y+X) v;rw[Hset.out]at t2;exact⟨X+1,by omega,by go_num,sC _ _ _ _ (by omega) E5',r0'.set_other (by omega),r1'.set_other (by omega),t2⟩
     case measure=>simp[intOf];omega
    ·obtain rfl:X=4:=by omega
     go_wp2;go_roundw
     case rel=>exact⟨Y+1,by omega,by go_num,E5,r0,r1,by rw[mul4];exact r2⟩
     case measure=>simp[intOf];omega
  ·obtain rfl:Y=4:=by omega
   rw[show 4*4=16 from rfl,mixI_all _ _ 16 HI.out lenZ]at s2;go_wp2_with (first|(refine wpList_iload 29 _ rfl rfl s2 0 16 rfl _ Tryz.underlying29 rfl size_A16 (by rw[HI.out];omega) _ (by rw[sub_all _ _ (HI.out)]) ?_)|(refine wpList_istore 29 _ _ rfl rfl s1 0 16 rfl _ rfl _ rfl size_A16 (HI.out) (by simp) ?_;intro w6 p6 g6;refine Hid.out ?_))
   rw[spl_all (by rw[HI.out];simp)]at p6;have E6:Ext w w6:=Ext.grown E4 g6 (fun q hq=>by cases hq;omega);refine Lib.hid ?_;go_wp2;exact bodyPost_ret (v := .agg (ic (prd 4 e))) (results_cell_row rfl _ _ (B+1) 29 (ic (prd 4 e)) (0,0) _ rfl p6 Tryz.underlying29 rfl (by rw[ic_size,prd_len];exact size_A16)) rfl ⟨rfl,E6⟩
theorem l6Predict_any (e:Ed) (m:Nat) (w:World) (ok:e.ok) (hm:m≤4) :
 Calls Tryz.prog 139 #[.int .i64 (m:Nat),.agg (edC e)] w fun r w'=>r= .returned (.agg (ic (prd m e)))∧Ext w w':=by
 match m,hm with
 | 0,_=>exact l6Predict_0 e w ok
 | 1,_=>exact l6Predict_1 e w ok
 | 2,_=>exact l6Predict_2 e w ok
 | 3,_=>exact l6Predict_3 e w ok
 | 4,_=>exact l6Predict_4 e w ok
theorem alike_any (p s:Pic) (a b:Option Addr) (c d n m:Nat) (w:World) (hn:n=p.px.length) (hm:m=s.px.length) (nc:n≤9223372036854775807) (mc:m≤9223372036854775807) (r:Sl w a n (p.px.map (Value.int .i64))) (q:Sl w b m (s.px.map (Value.int .i64))) :
 Calls Tryz.prog 38 #[.agg #[.int .i64 p.w,.int .i64 p.h,.slice a n c],.agg #[.int .i64 s.w,.int .i64 s.h,.slice b m d]] w fun e w'=>e= .returned (.bool (decide ((p.valid)∧(s.valid)∧(p.w=s.w)∧(p.h=s.h))))∧Ext w w':=by
 obtain⟨B,hB⟩:∃ B,B=decide ((p.valid)∧(s.valid)∧(p.w=s.w)∧(p.h=s.h)):=⟨_,rfl⟩;rw[←hB];have HB:=Lib.hid hB;clear hB;have HN:=Lib.hid hn;have HM:=Lib.hid hm;clear hn hm;have a0_1:=Ext.alloc (w.alloc (.cells #[.int .i64 p.w,.int .i64 p.h,.slice a n c] 25)) (.cells #[.int .i64 s.w,.int .i64 s.h,.slice b m d] 25);have X0_0:=a0_1.blk (blk_new w (.cells #[.int .i64 p.w,.int .i64 p.h,.slice a n c] 25));have X1_0:=blk_new (w.alloc (.cells #[.int .i64 p.w,.int .i64 p.h,.slice a n c] 25)) (.cells #[.int .i64 s.w,.int .i64 s.h,.slice b m d] 25);have E_0:=(Ext.alloc w (.cells #[.int .i64 p.w,.int .i64 p.h,.slice a n c] 25)).trans (Ext.alloc (w.alloc (.cells #[.int .i64 p.w,.int .i64 p.h,.slice a n c] 25)) (.cells #[.int .i64 s.w,.int .i64 s.h,.slice b m d] 25));simp only[World.size_alloc]at X1_0;clear a0_1;obtain⟨-,k0_0,k0_1,k0_2,-⟩:=bx3 X0_0;obtain⟨-,k1_0,k1_1,k1_2,-⟩:=bx3 X1_0;go_enter Tryz.func38,Tryz.ntmps38
 obtain⟨D0,hD0⟩:∃ D0,D0=decide (p.valid):=⟨_,rfl⟩;have HD0:=Lib.hid hD0.symm;clear hD0;go_wp2_with fail
 refine(impl_PictureValid_any p a c n _ HN.out nc (r.ext E_0)).mono ?_;rw[show decide (p.valid)=D0 from HD0.out]
 rintro e w_1 ⟨rfl,e_1⟩
 have X0_1:=e_1.blk X0_0;have X1_1:=e_1.blk X1_0;have E_1:=E_0.trans e_1;clear k0_0 k0_1 k0_2 X0_0 k1_0 k1_1 k1_2 X1_0 E_0 e_1;obtain⟨-,k0_0,k0_1,k0_2,-⟩:=bx3 X0_1;obtain⟨-,k1_0,k1_1,k1_2,-⟩:=bx3 X1_1
 by_cases h0:p.valid
 rotate_left
 ·have H0:=Lib.hid (show ¬ (p.valid) by first|exact h0|omega);obtain rfl:D0=false:=by rw[←HD0.out];exact decide_eq_false h0
  clear h0;go_wp2;go_ret
  exact⟨by rw[HB.out,(decide_eq_false fun hh=>by have h9:=H0.out;have h8:=hh.1;first|exact h9 h8|omega)];(first|done|rfl),E_1⟩
 obtain rfl:D0=true:=by rw[←HD0.out];exact decide_eq_true h0
 have H0:=Lib.hid h0;clear h0;obtain⟨D1,hD1⟩:∃ D1,D1=decide (s.valid):=⟨_,rfl⟩;have HD1:=Lib.hid hD1.symm;clear hD1;go_wp2_with fail
 refine(impl_PictureValid_any s b d m _ HM.out mc (q.ext E_1)).mono ?_;rw[show decide (s.valid)=D1 from HD1.out]
 rintro e w_2 ⟨rfl,e_2⟩
 have X0_2:=e_2.blk X0_1;have X1_2:=e_2.blk X1_1;have E_2:=E_1.trans e_2;clear k0_0 k0_1 k0_2 X0_1 k1_0 k1_1 k1_2 X1_1 E_1 e_2;obtain⟨-,k0_0,k0_1,k0_2,-⟩:=bx3 X0_2;obtain⟨-,k1_0,k1_1,k1_2,-⟩:=bx3 X1_2
 by_cases h1:s.valid
 rotate_left
 ·have H1:=Lib.hid (show ¬ (s.valid) by first|exact h1|omega);obtain rfl:D1=false:=by rw[←HD1.out];exact decide_eq_false h1
  clear h1;go_wp2;go_ret
  exact⟨by rw[HB.out,(decide_eq_false fun hh=>by have h9:=H1.out;have h8:=hh.2.1;first|exact h9 h8|omega)];(first|done|rfl),E_2⟩
 obtain rfl:D1=true:=by rw[←HD1.out];exact decide_eq_true h1
 have H1:=Lib.hid h1;clear h1
 by_cases h2:p.w=s.w
 rotate_left
 ·have H2:=Lib.hid (show ¬ (p.w=s.w) by first|exact h2|omega);have dw:(p.w == s.w)=false:=by simpa using h2
  clear h2;go_wp2;go_ret
  exact⟨by rw[HB.out,(decide_eq_false fun hh=>by have h9:=H2.out;have h8:=hh.2.2.1;first|exact h9 h8|omega)];(first|done|rfl),E_2⟩
 have H2:=Lib.hid h2;have dw:(p.w == s.w)=true:=by simpa using h2
 clear h2
 by_cases h3:p.h=s.h
 rotate_left
 ·have H3:=Lib.hid (show ¬ (p.h=s.h) by first|exact h3|omega);have dh:(p.h == s.h)=false:=by simpa using h3
  clear h3;go_wp2;go_ret
  exact⟨by rw[HB.out,(decide_eq_false fun hh=>by have h9:=H3.out;have h8:=hh.2.2.2;first|exact h9 h8|omega)];(first|done|rfl),E_2⟩
 have H3:=Lib.hid h3;have dh:(p.h == s.h)=true:=by simpa using h3
 clear h3;go_wp2;go_ret
 exact⟨by rw[HB.out,(decide_eq_true ⟨H0.out,H1.out,H2.out,H3.out⟩)];(first|done|rfl),E_2⟩
theorem l1Same_any (p s:Pic) (a b:Option Addr) (c d n m:Nat) (w:World) (hn:n=p.px.length) (hm:m=s.px.length) (nc:n≤9223372036854775807) (mc:m≤9223372036854775807) (r:Sl w a n (p.px.map (Value.int .i64))) (q:Sl w b m (s.px.map (Value.int .i64))) :
 Calls Tryz.prog 41 #[.agg #[.int .i64 p.w,.int .i64 p.h,.slice a n c],.agg #[.int .i64 s.w,.int .i64 s.h,.slice b m d]] w fun e w'=>e= .returned (.bool (decide ((p.valid)∧(s.valid)∧(p.w=s.w)∧(p.h=s.h))))∧Ext w w':=by
 obtain⟨B,hB⟩:∃ B,B=decide ((p.valid)∧(s.valid)∧(p.w=s.w)∧(p.h=s.h)):=⟨_,rfl⟩;rw[←hB];have HB:=Lib.hid hB;clear hB;have HN:=Lib.hid hn;have HM:=Lib.hid hm;clear hn hm;have a0_1:=Ext.alloc (w.alloc (.cells #[.int .i64 p.w,.int .i64 p.h,.slice a n c] 25)) (.cells #[.int .i64 s.w,.int .i64 s.h,.slice b m d] 25);have X0_0:=a0_1.blk (blk_new w (.cells #[.int .i64 p.w,.int .i64 p.h,.slice a n c] 25));have X1_0:=blk_new (w.alloc (.cells #[.int .i64 p.w,.int .i64 p.h,.slice a n c] 25)) (.cells #[.int .i64 s.w,.int .i64 s.h,.slice b m d] 25);have E_0:=(Ext.alloc w (.cells #[.int .i64 p.w,.int .i64 p.h,.slice a n c] 25)).trans (Ext.alloc (w.alloc (.cells #[.int .i64 p.w,.int .i64 p.h,.slice a n c] 25)) (.cells #[.int .i64 s.w,.int .i64 s.h,.slice b m d] 25));simp only[World.size_alloc]at X1_0;clear a0_1;obtain⟨-,k0_0,k0_1,k0_2,-⟩:=bx3 X0_0;obtain⟨-,k1_0,k1_1,k1_2,-⟩:=bx3 X1_0;go_enter Tryz.func41,Tryz.ntmps41
 obtain⟨D0,hD0⟩:∃ D0,D0=decide (p.valid):=⟨_,rfl⟩;have HD0:=Lib.hid hD0.symm;clear hD0;go_wp2_with fail
 refine(spec_PictureValid_any p a c n _ HN.out nc (r.ext E_0)).mono ?_;rw[show decide (p.valid)=D0 from HD0.out]
 rintro e w_1 ⟨rfl,e_1⟩
 have X0_1:=e_1.blk X0_0;have X1_1:=e_1.blk X1_0;have E_1:=E_0.trans e_1;clear k0_0 k0_1 k0_2 X0_0 k1_0 k1_1 k1_2 X1_0 E_0 e_1;obtain⟨-,k0_0,k0_1,k0_2,-⟩:=bx3 X0_1;obtain⟨-,k1_0,k1_1,k1_2,-⟩:=bx3 X1_1
 by_cases h0:p.valid
 rotate_left
 ·have H0:=Lib.hid (show ¬ (p.valid) by first|exact h0|omega);obtain rfl:D0=false:=by rw[←HD0.out];exact decide_eq_false h0
  clear h0;go_wp2;go_ret
  exact⟨by rw[HB.out,(decide_eq_false fun hh=>by have h9:=H0.out;have h8:=hh.1;first|exact h9 h8|omega)];(first|done|rfl),E_1⟩
 obtain rfl:D0=true:=by rw[←HD0.out];exact decide_eq_true h0
 have H0:=Lib.hid h0;clear h0;obtain⟨D1,hD1⟩:∃ D1,D1=decide (s.valid):=⟨_,rfl⟩;have HD1:=Lib.hid hD1.symm;clear hD1;go_wp2_with fail
 refine(spec_PictureValid_any s b d m _ HM.out mc (q.ext E_1)).mono ?_;rw[show decide (s.valid)=D1 from HD1.out]
 rintro e w_2 ⟨rfl,e_2⟩
 have X0_2:=e_2.blk X0_1;have X1_2:=e_2.blk X1_1;have E_2:=E_1.trans e_2;clear k0_0 k0_1 k0_2 X0_1 k1_0 k1_1 k1_2 X1_1 E_1 e_2;obtain⟨-,k0_0,k0_1,k0_2,-⟩:=bx3 X0_2;obtain⟨-,k1_0,k1_1,k1_2,-⟩:=bx3 X1_2
 by_cases h1:s.valid
 rotate_left
 ·have H1:=Lib.hid (show ¬ (s.valid) by first|exact h1|omega);obtain rfl:D1=false:=by rw[←HD1.out];exact decide_eq_false h1
  clear h1;go_wp2;go_ret
  exact⟨by rw[HB.out,(decide_eq_false fun hh=>by have h9:=H1.out;have h8:=hh.2.1;first|exact h9 h8|omega)];(first|done|rfl),E_2⟩
 obtain rfl:D1=true:=by rw[←HD1.out];exact decide_eq_true h1
 have H1:=Lib.hid h1;clear h1
 by_cases h2:p.w=s.w
 rotate_left
 ·have H2:=Lib.hid (show ¬ (p.w=s.w) by first|exact h2|omega);have dw:(p.w == s.w)=false:=by simpa using h2
  clear h2;go_wp2;go_ret
  exact⟨by rw[HB.out,(decide_eq_false fun hh=>by have h9:=H2.out;have h8:=hh.2.2.1;first|exact h9 h8|omega)];(first|done|rfl),E_2⟩
 have H2:=Lib.hid h2;have dw:(p.w == s.w)=true:=by simpa using h2
 clear h2
 by_cases h3:p.h=s.h
 rotate_left
 ·have H3:=Lib.hid (show ¬ (p.h=s.h) by first|exact h3|omega);have dh:(p.h == s.h)=false:=by simpa using h3
  clear h3;go_wp2;go_ret
  exact⟨by rw[HB.out,(decide_eq_false fun hh=>by have h9:=H3.out;have h8:=hh.2.2.2;first|exact h9 h8|omega)];(first|done|rfl),E_2⟩
 have H3:=Lib.hid h3;have dh:(p.h == s.h)=true:=by simpa using h3
 clear h3;go_wp2;go_ret
 exact⟨by rw[HB.out,(decide_eq_true ⟨H0.out,H1.out,H2.out,H3.out⟩)];(first|done|rfl),E_2⟩
theorem begins_any (p:Pic) (x y:Int) (a:Option Addr) (c n:Nat) (w:World) :
 Calls Tryz.prog 49 #[.agg #[.int .i64 p.w,.int .i64 p.h,.slice a n c],.int .i64 x,.int .i64 y] w fun e w'=>e= .returned (.bool (decide ((0≤x)∧(x<p.w)∧(x%8=0)∧(0≤y)∧(y<p.h)∧(y%8=0))))∧Ext w w':=by
 obtain⟨B,hB⟩:∃ B,B=decide ((0≤x)∧(x<p.w)∧(x%8=0)∧(0≤y)∧(y<p.h)∧(y%8=0)):=⟨_,rfl⟩;rw[←hB];have HB:=Lib.hid hB;clear hB;have X0_0:=blk_new w (.cells #[.int .i64 p.w,.int .i64 p.h,.slice a n c] 25);have E_0:=Ext.alloc w (.cells #[.int .i64 p.w,.int .i64 p.h,.slice a n c] 25);obtain⟨-,k0_0,k0_1,k0_2,-⟩:=bx3 X0_0;go_enter Tryz.func49,Tryz.ntmps49
 by_cases h0:0≤x
 rotate_left
 ·have H0:=Lib.hid (show ¬ (0≤x) by first|exact h0|omega);have f0:decide (0≤x)=false:=by simpa using h0
  go_wp2;go_ret
  exact⟨by rw[HB.out,(decide_eq_false fun hh=>by have h9:=H0.out;have h8:=hh.1;first|exact h9 h8|omega)];(first|done|rfl),E_0⟩
 have H0:=Lib.hid h0;have f0:decide (0≤x)=true:=by simpa using h0
 by_cases h1:x<p.w
 rotate_left
 ·have H1:=Lib.hid (show ¬ (x<p.w) by first|exact h1|omega);have f1:decide (x<p.w)=false:=by simpa using h1
  clear h1;go_wp2;go_ret
  exact⟨by rw[HB.out,(decide_eq_false fun hh=>by have h9:=H1.out;have h8:=hh.2.1;first|exact h9 h8|omega)];(first|done|rfl),E_0⟩
 have H1:=Lib.hid h1;have f1:decide (x<p.w)=true:=by simpa using h1
 clear h1
 by_cases h2:x%8=0
 rotate_left
 ·have H2:=Lib.hid (show ¬ (x%8=0) by first|exact h2|omega);have f2:(x%8 == 0)=false:=by simpa using h2
  clear h2;go_wp2;go_ret
  exact⟨by rw[HB.out,(decide_eq_false fun hh=>by have h9:=H2.out;have h8:=hh.2.2.1;first|exact h9 h8|omega)];(first|done|rfl),E_0⟩
 have H2:=Lib.hid h2;have f2:(x%8 == 0)=true:=by simpa using h2
 clear h2
 by_cases h3:0≤y
 rotate_left
 ·have H3:=Lib.hid (show ¬ (0≤y) by first|exact h3|omega);have f3:decide (0≤y)=false:=by simpa using h3
  go_wp2;go_ret
  exact⟨by rw[HB.out,(decide_eq_false fun hh=>by have h9:=H3.out;have h8:=hh.2.2.2.1;first|exact h9 h8|omega)];(first|done|rfl),E_0⟩
 have H3:=Lib.hid h3;have f3:decide (0≤y)=true:=by simpa using h3
 by_cases h4:y<p.h
 rotate_left
 ·have H4:=Lib.hid (show ¬ (y<p.h) by first|exact h4|omega);have f4:decide (y<p.h)=false:=by simpa using h4
  clear h4;go_wp2;go_ret
  exact⟨by rw[HB.out,(decide_eq_false fun hh=>by have h9:=H4.out;have h8:=hh.2.2.2.2.1;first|exact h9 h8|omega)];(first|done|rfl),E_0⟩
 have H4:=Lib.hid h4;have f4:decide (y<p.h)=true:=by simpa using h4
 clear h4
 by_cases h5:y%8=0
 rotate_left
 ·have H5:=Lib.hid (show ¬ (y%8=0) by first|exact h5|omega);have f5:(y%8 == 0)=false:=by simpa using h5
  clear h5;go_wp2;go_ret
  exact⟨by rw[HB.out,(decide_eq_false fun hh=>by have h9:=H5.out;have h8:=hh.2.2.2.2.2;first|exact h9 h8|omega)];(first|done|rfl),E_0⟩
 have H5:=Lib.hid h5;have f5:(y%8 == 0)=true:=by simpa using h5
 clear h5;go_wp2;go_ret
 exact⟨by rw[HB.out,(decide_eq_true ⟨H0.out,H1.out,H2.out,H3.out,H4.out,H5.out⟩)];(first|done|rfl),E_0⟩
theorem l7Place_any (p:Pic) (x y:Int) (a:Option Addr) (c n:Nat) (w:World) (hn:n=p.px.length) (nc:n≤9223372036854775807) (r:Sl w a n (p.px.map (Value.int .i64))) :
 Calls Tryz.prog 55 #[.agg #[.int .i64 p.w,.int .i64 p.h,.slice a n c],.int .i64 x,.int .i64 y] w fun e w'=>e= .returned (.bool (decide ((p.valid)∧(0≤x∧x≤p.w-1)∧(0≤y∧y≤p.h-1)∧(x%8=0)∧(y%8=0))))∧Ext w w':=by
 obtain⟨B,hB⟩:∃ B,B=decide ((p.valid)∧(0≤x∧x≤p.w-1)∧(0≤y∧y≤p.h-1)∧(x%8=0)∧(y%8=0)):=⟨_,rfl⟩;rw[←hB];have HB:=Lib.hid hB;clear hB;have HN:=Lib.hid hn;clear hn;have X0_0:=blk_new w (.cells #[.int .i64 p.w,.int .i64 p.h,.slice a n c] 25);have E_0:=Ext.alloc w (.cells #[.int .i64 p.w,.int .i64 p.h,.slice a n c] 25);obtain⟨-,k0_0,k0_1,k0_2,-⟩:=bx3 X0_0;go_enter Tryz.func55,Tryz.ntmps55
 obtain⟨D0,hD0⟩:∃ D0,D0=decide (p.valid):=⟨_,rfl⟩;have HD0:=Lib.hid hD0.symm;clear hD0;go_wp2_with fail
 refine(spec_PictureValid_any p a c n _ HN.out nc (r.ext E_0)).mono ?_;rw[show decide (p.valid)=D0 from HD0.out]
 rintro e w_1 ⟨rfl,e_1⟩
 have X0_1:=e_1.blk X0_0;have E_1:=E_0.trans e_1;clear k0_0 k0_1 k0_2 X0_0 E_0 e_1;obtain⟨-,k0_0,k0_1,k0_2,-⟩:=bx3 X0_1
 by_cases h0:p.valid
 rotate_left
 ·have H0:=Lib.hid (show ¬ (p.valid) by first|exact h0|omega);obtain rfl:D0=false:=by rw[←HD0.out];exact decide_eq_false h0
  clear h0;go_wp2;go_ret
  exact⟨by rw[HB.out,(decide_eq_false fun hh=>by have h9:=H0.out;have h8:=hh.1;first|exact h9 h8|omega)];(first|done|rfl),E_1⟩
 obtain rfl:D0=true:=by rw[←HD0.out];exact decide_eq_true h0
 have H0:=Lib.hid h0;have hs1:=h0.1.1;have hs2:=h0.2.1.1;have hs3:=h0.1.2.1;have hs4:=h0.2.1.2.1;clear h0
 by_cases h1:0≤x∧x≤p.w-1
 rotate_left
 ·have H1:=Lib.hid (show ¬ (0≤x∧x≤p.w-1) by first|exact h1|omega);go_wp2_with fail
  refine(l1In_no _ _ _ _ (by omega)).mono ?_
  rintro e w_s1 ⟨rfl,rfl⟩
  go_wp2;go_ret
  exact⟨by rw[HB.out,(decide_eq_false fun hh=>by have h9:=H1.out;have h8:=hh.2.1;first|exact h9 h8|omega)];(first|done|rfl),E_1⟩
 have H1:=Lib.hid h1;go_wp2_with fail
 refine(l1In_yes _ _ _ _ h1.1 h1.2).mono ?_
 rintro e w_s1 ⟨rfl,rfl⟩
 by_cases h2:0≤y∧y≤p.h-1
 rotate_left
 ·have H2:=Lib.hid (show ¬ (0≤y∧y≤p.h-1) by first|exact h2|omega);go_wp2_with fail
  refine(l1In_no _ _ _ _ (by omega)).mono ?_
  rintro e w_s2 ⟨rfl,rfl⟩
  go_wp2;go_ret
  exact⟨by rw[HB.out,(decide_eq_false fun hh=>by have h9:=H2.out;have h8:=hh.2.2.1;first|exact h9 h8|omega)];(first|done|rfl),E_1⟩
 have H2:=Lib.hid h2;go_wp2_with fail
 refine(l1In_yes _ _ _ _ h2.1 h2.2).mono ?_
 rintro e w_s2 ⟨rfl,rfl⟩
 by_cases h3:x%8=0
 rotate_left
 ·have H3:=Lib.hid (show ¬ (x%8=0) by first|exact h3|omega);have f2:(x%8 == 0)=false:=by simpa using h3
  clear h3;go_wp2;go_ret
  exact⟨by rw[HB.out,(decide_eq_false fun hh=>by have h9:=H3.out;have h8:=hh.2.2.2.1;first|exact h9 h8|omega)];(first|done|rfl),E_1⟩
 have H3:=Lib.hid h3;have f2:(x%8 == 0)=true:=by simpa using h3
 clear h3
 by_cases h4:y%8=0
 rotate_left
 ·have H4:=Lib.hid (show ¬ (y%8=0) by first|exact h4|omega);have f5:(y%8 == 0)=false:=by simpa using h4
  clear h4;go_wp2;go_ret
  exact⟨by rw[HB.out,(decide_eq_false fun hh=>by have h9:=H4.out;have h8:=hh.2.2.2.2;first|exact h9 h8|omega)];(first|done|rfl),E_1⟩
 have H4:=Lib.hid h4;have f5:(y%8 == 0)=true:=by simpa using h4
 clear h4;go_wp2;go_ret
 exact⟨by rw[HB.out,(decide_eq_true ⟨H0.out,H1.out,H2.out,H3.out,H4.out⟩)];(first|done|rfl),E_1⟩
theorem partAt_any (k:Nat) (w:World) (hk:k<4) :
 Calls Tryz.prog 68 #[.int .i64 (k:Nat)] w fun e w'=>e= .returned (.tuple #[.int .i64 ((k%2*4:Nat):Int),.int .i64 ((k/2*4:Nat):Int)])∧w=w':=by
 go_enter Tryz.func68,Tryz.ntmps68
 go_wp2;go_ret2
 exact⟨by congr 1,rfl⟩
end Go.Proofs.YtbnhaegidfbgbaaGreatDoor
