/- The samples around a block of a picture: both sides. -/
import Derived.Test.YtbnhaegidfbgbaaGreatDoorQr6
set_option linter.unusedVariables false
set_option linter.unusedSimpArgs false
set_option maxRecDepth 100000
set_option maxHeartbeats 4000000
namespace Go.Proofs.YtbnhaegidfbgbaaGreatDoor
open Go.RowKit
def z4 : List Int:=List.replicate 4 0
def ed0 : Ed:=⟨z4,z4,0,false,false⟩
theorem ed0_ln : ed0.ln:=⟨rfl,rfl⟩
/-- The samples around a block, the first k of either side laid. -/
def edK (E:Ed) (k:Nat):Ed:=⟨mixI E.ab z4 k,mixI E.lf z4 k,128,E.up,E.le⟩
theorem edK_ln {E:Ed} (h:E.ln) (k:Nat):(edK E k).ln:=⟨mixI_len _ _ _ 4 h.ab rfl,mixI_len _ _ _ 4 h.lf rfl⟩
theorem edK_zero (E:Ed):edK E 0=⟨z4,z4,128,E.up,E.le⟩:=by unfold edK;rw[mixI_zero,mixI_zero]
theorem edK_four {E:Ed} (h:E.ln):edK E 4 = { E with co:=128 } := by unfold edK;rw[mixI_all _ _ 4 h.ab rfl,mixI_all _ _ 4 h.lf rfl]
/-- Sample k of either side laid. -/
def edS (E:Ed) (k:Nat) (u v:Int):Ed:=⟨(mixI E.ab z4 k).set k u,(mixI E.lf z4 k).set k v,128,E.up,E.le⟩
theorem edS_ln {E:Ed} (h:E.ln) (k:Nat) (u v:Int):(edS E k u v).ln:=⟨by show(List.set _ _ _).length=4;rw[List.length_set];exact mixI_len _ _ _ 4 h.ab rfl,by show(List.set _ _ _).length=4;rw[List.length_set];exact mixI_len _ _ _ 4 h.lf rfl⟩
theorem edS_up (E:Ed) (k:Nat) (u v u':Int) : { edS E k u v with ab:=(edS E k u v).ab.set k u' } = edS E k u' v:=by unfold edS;simp
theorem edS_lf (E:Ed) (k:Nat) (u v v':Int) : { edS E k u v with lf:=(edS E k u v).lf.set k v' } = edS E k u v':=by unfold edS;simp
theorem edS_next {E:Ed} (h:E.ln) {k:Nat} (hk:k<4) {u v:Int} (hu:nth E.ab k=u) (hv:nth E.lf k=v):edS E k u v=edK E (k+1):=by
 subst hu hv;unfold edS edK;rw[mixI_set _ _ _ 4 h.ab rfl hk,mixI_set _ _ _ 4 h.lf rfl hk]
theorem EB.first {w:World} {b:Nat} {E:Ed} {k:Nat} (h:EB w b (edK E k)) (l:E.ln) (hk:k<4) (u:Int):EB (w.setCell ⟨b,k,none⟩ (.int .i64 u)) b ⟨(mixI E.ab z4 k).set k u,mixI E.lf z4 k,128,E.up,E.le⟩:=h.set_ab (edK_ln l k) hk u
theorem EB.second {w:World} {b:Nat} {E:Ed} {k:Nat} {u:Int} (h:EB w b ⟨(mixI E.ab z4 k).set k u,mixI E.lf z4 k,128,E.up,E.le⟩) (l:E.ln) (hk:k<4) (v:Int):EB (w.setCell ⟨b,4+k,none⟩ (.int .i64 v)) b (edS E k u v) :=
 h.set_lf ⟨by show(List.set _ _ _).length=4;rw[List.length_set];exact mixI_len _ _ _ 4 l.ab rfl,mixI_len _ _ _ 4 l.lf rfl⟩ hk v
theorem EB.s_up {w:World} {b:Nat} {E:Ed} {k:Nat} {u v:Int} (h:EB w b (edS E k u v)) (l:E.ln) (hk:k<4) (u':Int):EB (w.setCell ⟨b,k,none⟩ (.int .i64 u')) b (edS E k u' v):=by
 have h2:=h.set_ab (edS_ln l k u v) hk u';rw[edS_up]at h2;exact h2
theorem EB.s_lf {w:World} {b:Nat} {E:Ed} {k:Nat} {u v:Int} (h:EB w b (edS E k u v)) (l:E.ln) (hk:k<4) (v':Int):EB (w.setCell ⟨b,4+k,none⟩ (.int .i64 v')) b (edS E k u v'):=by
 have h2:=h.set_lf (edS_ln l k u v) hk v';rw[edS_lf]at h2;exact h2
theorem sC (w:World) (b i:Nat) (v:Value) {W:World} (hb:W.heap.size≤b) (E:Ext W w):Ext W (w.setCell ⟨b,i,none⟩ v):=Ext.grown E (gr_set _ _ _ _) (fun q hq=>by cases hq;omega)
theorem edg_ln (p:Pic) (x y top:Int):(edg p x y top).ln:=⟨by simp[edg],by simp[edg]⟩
theorem edges_ul (p:Pic) (x y top:Int) (a:Option Addr) (c n:Nat) (w:World) (hv:p.valid) (hn:n=p.px.length) (r:Sl w a n (p.px.map (Value.int .i64))) (x1:0≤x) (x2:x≤1000) (y1:0≤y) (y2:y≤1000) (hu:top<y) (hl:0<x) :
 Calls Tryz.prog 75 #[.agg #[.int .i64 p.w,.int .i64 p.h,.slice a n c],.int .i64 x,.int .i64 y,.int .i64 top] w fun e w'=>e= .returned (.agg (edC (edg p x y top)))∧Ext w w':=by
 have d1:decide (top<y)=true:=by simpa using hu
 have d2:decide (0<x)=true:=by simpa using hl
 have L:=Lib.hid (edg_ln p x y top);have fu:(edg p x y top).up=true:=d1;have fl:(edg p x y top).le=true:=d2;have ra:=Lib.hid (fun(k:Nat) (hk:k<4)=>show nth (edg p x y top).ab k=pat p (x+(k:Int)) (y-1) by rw[edg_ab _ _ _ _ hk,if_pos hu]);have rl:=Lib.hid (fun(k:Nat) (hk:k<4)=>show nth (edg p x y top).lf k=pat p (x-1) (y+(k:Int)) by rw[edg_lf _ _ _ _ hk,if_pos hl]);have rc:=Lib.hid (show(edg p x y top).co=pat p (x-1) (y-1) by unfold edg;simp only;rw[if_pos ⟨hu,hl⟩]);have HN:=Lib.hid hn;have HV:=Lib.hid hv;obtain⟨E,hE⟩:∃ E,E=edg p x y top:=⟨_,rfl⟩;rw[←hE]at L fu fl ra rl rc⊢;have HE:=Lib.hid hE;clear hn hv hE;have a2:=Ext.alloc (w.alloc (.cells #[.int .i64 p.w,.int .i64 p.h,.slice a n c] 25)) (.cells (edC ed0) 106);have a3:=Ext.alloc ((w.alloc (.cells #[.int .i64 p.w,.int .i64 p.h,.slice a n c] 25)).alloc (.cells (edC ed0) 106)) (.cells (edC ⟨z4,z4,128,true,true⟩) 106);have b0:=a3.blk (a2.blk (blk_new w (.cells #[.int .i64 p.w,.int .i64 p.h,.slice a n c] 25)));have b1:=(EB.new (w.alloc (.cells #[.int .i64 p.w,.int .i64 p.h,.slice a n c] 25)) ed0).ext a3;have b2:=EB.new ((w.alloc (.cells #[.int .i64 p.w,.int .i64 p.h,.slice a n c] 25)).alloc (.cells (edC ed0) 106)) ⟨z4,z4,128,true,true⟩;have E1:=((Ext.alloc w (.cells #[.int .i64 p.w,.int .i64 p.h,.slice a n c] 25)).trans a2).trans a3;simp only[World.size_alloc]at b1 b2;have eK:=Lib.hid (edK_zero E);rw[fu,fl]at eK;have FU:=Lib.hid fu;have FL:=Lib.hid fl;clear a2 a3 fu fl;go_enter Tryz.func75,Tryz.ntmps75
 go_wp2_with fail
 try simp only[World.size_alloc]
 obtain⟨B,hB⟩:∃ B,B=w.heap.size:=⟨_,rfl⟩;rw[←hB]at b0 b1 b2⊢;have hwB:w.heap.size≤B:=by omega
 have HB:=Lib.hid hB;clear hB;go_loopw [17] (fun i wr=>∃ k:Nat,k≤4∧i= .int .i64 k∧Ext w wr∧Hid (wr.heap[B]?=some (.cells #[.int .i64 p.w,.int .i64 p.h,.slice a n c] 25 (0,0)))∧EB wr (B+1) ed0∧EB wr (B+1+1) (edK E k)) (fun i _=>4-(intOf i).toNat)
 case atStart=>exact⟨0,by omega,rfl,E1,Lib.hid b0,b1,by rw[eK.out];exact b2⟩
 case round =>
  obtain⟨k,hk,rfl,E4,X4,r1,r2⟩:=hrel;clear b0 b1 b2 E1
  by_cases hlt:k<4
  ·have hd:decide ((k:Int)<4)=true:=by simp;omega
   have c0:=r2.ab (edK_ln L.out k) hlt;have c1:=r2.lf (edK_ln L.out k) hlt;have f0:=r2.frozen k;have f1:=r2.frozen (4+k);go_upto_region 6 with fail
   have s2:=(r2.first L.out hlt 128).second L.out hlt 128;have E5:=sC _ _ (4+k) (.int .i64 128) (by omega:w.heap.size≤B+1+1) (sC _ _ k (.int .i64 128) (by omega:w.heap.size≤B+1+1) E4);have X5:=blk_set_other (c:=B+1+1) (i:=4+k) (v := .int .i64 128) (blk_set_other (c:=B+1+1) (i:=k) (v := .int .i64 128) X4.out (by omega)) (by omega);have t1:=(r1.set_other (c:=B+1+1) (i:=k) (v := .int .i64 128) (by omega)).set_other (c:=B+1+1) (i:=4+k) (v := .int .i64 128) (by omega);clear r2 E4 X4 r1 c0 f0 c1 f1;generalize (wr.setCell ⟨B+1+1,k,none⟩ (.int .i64 128)).setCell ⟨B+1+1,4+k,none⟩ (.int .i64 128)=w5 at *;have cu:=s2.up (edS_ln L.out k _ _);have cl:=s2.le (edS_ln L.out k _ _);rw[show(edS E k 128 128).up=true from FU.out]at cu;rw[show(edS E k 128 128).le=true from FL.out]at cl;obtain⟨-,k0,k1,k2,-⟩:=bx3 X5;go_wp2_with fail
   refine(at_any p (x+(k:Int)) (y-1) a c n _ HV.out HN.out (r.ext E5)).mono ?_
   rintro e w6 ⟨rfl,e6⟩
   obtain⟨va,hva⟩:∃ va,va=pat p (x+(k:Int)) (y-1):=⟨_,rfl⟩;rw[←hva];have Hva:=Lib.hid hva;have s3:=s2.ext e6;have E6:=E5.trans e6;have X6:=e6.blk X5;have t2:=t1.ext e6;clear hva s2 E5 X5 t1 e6 cu cl k0 k1 k2;have c0:=s3.ab (edS_ln L.out k _ _) hlt;have f0:=s3.frozen k;go_upto_region 8 with fail
   have s2:=s3.s_up L.out hlt va;have E5:=sC _ _ k (.int .i64 va) (by omega:w.heap.size≤B+1+1) E6;have X5:=blk_set_other (c:=B+1+1) (i:=k) (v := .int .i64 va) X6 (by omega);have t1:=t2.set_other (c:=B+1+1) (i:=k) (v := .int .i64 va) (by omega);clear s3 E6 X6 t2 c0 f0;generalize w6.setCell ⟨B+1+1,k,none⟩ (.int .i64 va)=w7 at *;have cl:=s2.le (edS_ln L.out k _ _);rw[show(edS E k va 128).le=true from FL.out]at cl;obtain⟨-,k0,k1,k2,-⟩:=bx3 X5;go_wp2_with fail
   refine(at_any p (x-1) (y+(k:Int)) a c n _ HV.out HN.out (r.ext E5)).mono ?_
   rintro e w8 ⟨rfl,e6⟩
   obtain⟨vl,hvl⟩:∃ vl,vl=pat p (x-1) (y+(k:Int)):=⟨_,rfl⟩;rw[←hvl];have Hvl:=Lib.hid hvl;have s3:=s2.ext e6;have E6:=E5.trans e6;have X6:=e6.blk X5;have t2:=t1.ext e6;clear hvl s2 E5 X5 t1 e6 cl k0 k1 k2;have c0:=s3.lf (edS_ln L.out k _ _) hlt;have f0:=s3.frozen (4+k);go_upto_region 10 with fail
   have s2:=s3.s_lf L.out hlt vl;have E5:=sC _ _ (4+k) (.int .i64 vl) (by omega:w.heap.size≤B+1+1) E6;have X5:=blk_set_other (c:=B+1+1) (i:=4+k) (v := .int .i64 vl) X6 (by omega);have t1:=t2.set_other (c:=B+1+1) (i:=4+k) (v := .int .i64 vl) (by omega);clear s3 E6 X6 t2 c0 f0;generalize w8.setCell ⟨B+1+1,4+k,none⟩ (.int .i64 vl)=w9 at *;have hnx:=edS_next L.out hlt (u:=va) (v:=vl) (by rw[ra.out k hlt];exact Hva.out.symm) (by rw[rl.out k hlt];exact Hvl.out.symm);rw[hnx]at s2;clear hnx;go_wp2;go_roundw
   case rel=>exact⟨k+1,by omega,by go_num,E5,Lib.hid X5,t1,s2⟩
   case measure=>simp[intOf];omega
  ·obtain rfl:k=4:=by omega
   have cu:=r2.up (edK_ln L.out 4);have cl:=r2.le (edK_ln L.out 4);rw[show(edK E 4).up=true from FU.out]at cu;rw[show(edK E 4).le=true from FL.out]at cl;obtain⟨-,k0,k1,k2,-⟩:=bx3 X4.out;go_wp2_with fail
   refine(at_any p (x-1) (y-1) a c n _ HV.out HN.out (r.ext E4)).mono ?_
   rintro e w6 ⟨rfl,e6⟩
   obtain⟨vc,hvc⟩:∃ vc,vc=pat p (x-1) (y-1):=⟨_,rfl⟩;rw[←hvc];have Hvc:=Lib.hid hvc;have s2:=r2.ext e6;have E5:=E4.trans e6;have t1:=r1.ext e6;clear hvc r2 E4 X4 r1 e6 cu cl k0 k1 k2;have c0:=s2.co (edK_ln L.out 4);have f0:=s2.frozen 8;go_upto_region 13 with fail
   have s3:=s2.set_co (edK_ln L.out 4) vc;have E6:=sC _ _ 8 (.int .i64 vc) (by omega:w.heap.size≤B+1+1) E5;have t2:=t1.set_other (c:=B+1+1) (i:=8) (v := .int .i64 vc) (by omega);clear s2 E5 t1 c0 f0;generalize w6.setCell ⟨B+1+1,8,none⟩ (.int .i64 vc)=w7 at *;rw[edK_four L.out]at s3;have hfin:({ ({ E with co:=128 } : Ed)with co:=vc } : Ed)=E:=by rw[Hvc.out,←rc.out]
   rw[hfin]at s3;clear hfin;go_wp2_with (first|(refine wpList_cload 106 _ rfl rfl s3 rfl _ Tryz.underlying106 rfl 11 size_Edges (edC_size L.out) ?_)|(refine wpList_cstore 106 _ _ rfl rfl t2 rfl _ rfl (edC_one E) 11 size_Edges (edC_size L.out) (edC_size ed0_ln) ?_;intro w8 p8 g8;refine Hid.out ?_))
   have E8:Ext w w8:=Ext.grown E6 g8 (fun q hq=>by cases hq;omega);refine Lib.hid ?_;go_wp2;exact bodyPost_ret (v := .agg (edC E)) (results_cell_row rfl _ _ (B+1) 106 (edC E) (0,0) _ rfl p8 Tryz.underlying106 rfl (by rw[edC_size L.out];exact size_Edges)) rfl ⟨rfl,E8⟩
theorem edges_un (p:Pic) (x y top:Int) (a:Option Addr) (c n:Nat) (w:World) (hv:p.valid) (hn:n=p.px.length) (r:Sl w a n (p.px.map (Value.int .i64))) (x1:0≤x) (x2:x≤1000) (y1:0≤y) (y2:y≤1000) (hu:top<y) (hl : ¬ 0<x) :
 Calls Tryz.prog 75 #[.agg #[.int .i64 p.w,.int .i64 p.h,.slice a n c],.int .i64 x,.int .i64 y,.int .i64 top] w fun e w'=>e= .returned (.agg (edC (edg p x y top)))∧Ext w w':=by
 have d1:decide (top<y)=true:=by simpa using hu
 have d2:decide (0<x)=false:=by simpa using hl
 have L:=Lib.hid (edg_ln p x y top);have fu:(edg p x y top).up=true:=d1;have fl:(edg p x y top).le=false:=d2;have ra:=Lib.hid (fun(k:Nat) (hk:k<4)=>show nth (edg p x y top).ab k=pat p (x+(k:Int)) (y-1) by rw[edg_ab _ _ _ _ hk,if_pos hu]);have rl:=Lib.hid (fun(k:Nat) (hk:k<4)=>show nth (edg p x y top).lf k=128 by rw[edg_lf _ _ _ _ hk,if_neg hl]);have rc:=Lib.hid (show(edg p x y top).co=128 by unfold edg;simp only;rw[if_neg (fun h=>hl h.2)]);have HN:=Lib.hid hn;have HV:=Lib.hid hv;obtain⟨E,hE⟩:∃ E,E=edg p x y top:=⟨_,rfl⟩;rw[←hE]at L fu fl ra rl rc⊢;have HE:=Lib.hid hE;clear hn hv hE;have a2:=Ext.alloc (w.alloc (.cells #[.int .i64 p.w,.int .i64 p.h,.slice a n c] 25)) (.cells (edC ed0) 106);have a3:=Ext.alloc ((w.alloc (.cells #[.int .i64 p.w,.int .i64 p.h,.slice a n c] 25)).alloc (.cells (edC ed0) 106)) (.cells (edC ⟨z4,z4,128,true,false⟩) 106);have b0:=a3.blk (a2.blk (blk_new w (.cells #[.int .i64 p.w,.int .i64 p.h,.slice a n c] 25)));have b1:=(EB.new (w.alloc (.cells #[.int .i64 p.w,.int .i64 p.h,.slice a n c] 25)) ed0).ext a3;have b2:=EB.new ((w.alloc (.cells #[.int .i64 p.w,.int .i64 p.h,.slice a n c] 25)).alloc (.cells (edC ed0) 106)) ⟨z4,z4,128,true,false⟩;have E1:=((Ext.alloc w (.cells #[.int .i64 p.w,.int .i64 p.h,.slice a n c] 25)).trans a2).trans a3;simp only[World.size_alloc]at b1 b2;have eK:=Lib.hid (edK_zero E);rw[fu,fl]at eK;have FU:=Lib.hid fu;have FL:=Lib.hid fl;clear a2 a3 fu fl;go_enter Tryz.func75,Tryz.ntmps75
 go_wp2_with fail
 try simp only[World.size_alloc]
 obtain⟨B,hB⟩:∃ B,B=w.heap.size:=⟨_,rfl⟩;rw[←hB]at b0 b1 b2⊢;have hwB:w.heap.size≤B:=by omega
 have HB:=Lib.hid hB;clear hB;go_loopw [17] (fun i wr=>∃ k:Nat,k≤4∧i= .int .i64 k∧Ext w wr∧Hid (wr.heap[B]?=some (.cells #[.int .i64 p.w,.int .i64 p.h,.slice a n c] 25 (0,0)))∧EB wr (B+1) ed0∧EB wr (B+1+1) (edK E k)) (fun i _=>4-(intOf i).toNat)
 case atStart=>exact⟨0,by omega,rfl,E1,Lib.hid b0,b1,by rw[eK.out];exact b2⟩
 case round =>
  obtain⟨k,hk,rfl,E4,X4,r1,r2⟩:=hrel;clear b0 b1 b2 E1
  by_cases hlt:k<4
  ·have hd:decide ((k:Int)<4)=true:=by simp;omega
   have c0:=r2.ab (edK_ln L.out k) hlt;have c1:=r2.lf (edK_ln L.out k) hlt;have f0:=r2.frozen k;have f1:=r2.frozen (4+k);go_upto_region 6 with fail
   have s2:=(r2.first L.out hlt 128).second L.out hlt 128;have E5:=sC _ _ (4+k) (.int .i64 128) (by omega:w.heap.size≤B+1+1) (sC _ _ k (.int .i64 128) (by omega:w.heap.size≤B+1+1) E4);have X5:=blk_set_other (c:=B+1+1) (i:=4+k) (v := .int .i64 128) (blk_set_other (c:=B+1+1) (i:=k) (v := .int .i64 128) X4.out (by omega)) (by omega);have t1:=(r1.set_other (c:=B+1+1) (i:=k) (v := .int .i64 128) (by omega)).set_other (c:=B+1+1) (i:=4+k) (v := .int .i64 128) (by omega);clear r2 E4 X4 r1 c0 f0 c1 f1;generalize (wr.setCell ⟨B+1+1,k,none⟩ (.int .i64 128)).setCell ⟨B+1+1,4+k,none⟩ (.int .i64 128)=w5 at *;have cu:=s2.up (edS_ln L.out k _ _);have cl:=s2.le (edS_ln L.out k _ _);rw[show(edS E k 128 128).up=true from FU.out]at cu;rw[show(edS E k 128 128).le=false from FL.out]at cl;obtain⟨-,k0,k1,k2,-⟩:=bx3 X5;go_wp2_with fail
   refine(at_any p (x+(k:Int)) (y-1) a c n _ HV.out HN.out (r.ext E5)).mono ?_
   rintro e w6 ⟨rfl,e6⟩
   obtain⟨va,hva⟩:∃ va,va=pat p (x+(k:Int)) (y-1):=⟨_,rfl⟩;rw[←hva];have Hva:=Lib.hid hva;have s3:=s2.ext e6;have E6:=E5.trans e6;have X6:=e6.blk X5;have t2:=t1.ext e6;clear hva s2 E5 X5 t1 e6 cu cl k0 k1 k2;have c0:=s3.ab (edS_ln L.out k _ _) hlt;have f0:=s3.frozen k;go_upto_region 8 with fail
   have s2:=s3.s_up L.out hlt va;have E5:=sC _ _ k (.int .i64 va) (by omega:w.heap.size≤B+1+1) E6;have X5:=blk_set_other (c:=B+1+1) (i:=k) (v := .int .i64 va) X6 (by omega);have t1:=t2.set_other (c:=B+1+1) (i:=k) (v := .int .i64 va) (by omega);clear s3 E6 X6 t2 c0 f0;generalize w6.setCell ⟨B+1+1,k,none⟩ (.int .i64 va)=w7 at *;have cl:=s2.le (edS_ln L.out k _ _);rw[show(edS E k va 128).le=false from FL.out]at cl;obtain⟨-,k0,k1,k2,-⟩:=bx3 X5;have hnx:=edS_next L.out hlt (u:=va) (v:=128) (by rw[ra.out k hlt];exact Hva.out.symm) (by rw[rl.out k hlt]);rw[hnx]at s2;clear hnx;go_wp2;go_roundw
   case rel=>exact⟨k+1,by omega,by go_num,E5,Lib.hid X5,t1,s2⟩
   case measure=>simp[intOf];omega
  ·obtain rfl:k=4:=by omega
   have cu:=r2.up (edK_ln L.out 4);have cl:=r2.le (edK_ln L.out 4);rw[show(edK E 4).up=true from FU.out]at cu;rw[show(edK E 4).le=false from FL.out]at cl;obtain⟨-,k0,k1,k2,-⟩:=bx3 X4.out;go_upto_region 13 with fail
   rw[edK_four L.out]at r2;have hfin:({ E with co:=128 } : Ed)=E:=by rw[←rc.out]
   rw[hfin]at r2;clear hfin;go_wp2_with (first|(refine wpList_cload 106 _ rfl rfl r2 rfl _ Tryz.underlying106 rfl 11 size_Edges (edC_size L.out) ?_)|(refine wpList_cstore 106 _ _ rfl rfl r1 rfl _ rfl (edC_one E) 11 size_Edges (edC_size L.out) (edC_size ed0_ln) ?_;intro w8 p8 g8;refine Hid.out ?_))
   have E8:Ext w w8:=Ext.grown E4 g8 (fun q hq=>by cases hq;omega);refine Lib.hid ?_;go_wp2;exact bodyPost_ret (v := .agg (edC E)) (results_cell_row rfl _ _ (B+1) 106 (edC E) (0,0) _ rfl p8 Tryz.underlying106 rfl (by rw[edC_size L.out];exact size_Edges)) rfl ⟨rfl,E8⟩
theorem edges_nl (p:Pic) (x y top:Int) (a:Option Addr) (c n:Nat) (w:World) (hv:p.valid) (hn:n=p.px.length) (r:Sl w a n (p.px.map (Value.int .i64))) (x1:0≤x) (x2:x≤1000) (y1:0≤y) (y2:y≤1000) (hu : ¬ top<y) (hl:0<x) :
 Calls Tryz.prog 75 #[.agg #[.int .i64 p.w,.int .i64 p.h,.slice a n c],.int .i64 x,.int .i64 y,.int .i64 top] w fun e w'=>e= .returned (.agg (edC (edg p x y top)))∧Ext w w':=by
 have d1:decide (top<y)=false:=by simpa using hu
 have d2:decide (0<x)=true:=by simpa using hl
 have L:=Lib.hid (edg_ln p x y top);have fu:(edg p x y top).up=false:=d1;have fl:(edg p x y top).le=true:=d2;have ra:=Lib.hid (fun(k:Nat) (hk:k<4)=>show nth (edg p x y top).ab k=128 by rw[edg_ab _ _ _ _ hk,if_neg hu]);have rl:=Lib.hid (fun(k:Nat) (hk:k<4)=>show nth (edg p x y top).lf k=pat p (x-1) (y+(k:Int)) by rw[edg_lf _ _ _ _ hk,if_pos hl]);have rc:=Lib.hid (show(edg p x y top).co=128 by unfold edg;simp only;rw[if_neg (fun h=>hu h.1)]);have HN:=Lib.hid hn;have HV:=Lib.hid hv;obtain⟨E,hE⟩:∃ E,E=edg p x y top:=⟨_,rfl⟩;rw[←hE]at L fu fl ra rl rc⊢;have HE:=Lib.hid hE;clear hn hv hE;have a2:=Ext.alloc (w.alloc (.cells #[.int .i64 p.w,.int .i64 p.h,.slice a n c] 25)) (.cells (edC ed0) 106);have a3:=Ext.alloc ((w.alloc (.cells #[.int .i64 p.w,.int .i64 p.h,.slice a n c] 25)).alloc (.cells (edC ed0) 106)) (.cells (edC ⟨z4,z4,128,false,true⟩) 106);have b0:=a3.blk (a2.blk (blk_new w (.cells #[.int .i64 p.w,.int .i64 p.h,.slice a n c] 25)));have b1:=(EB.new (w.alloc (.cells #[.int .i64 p.w,.int .i64 p.h,.slice a n c] 25)) ed0).ext a3;have b2:=EB.new ((w.alloc (.cells #[.int .i64 p.w,.int .i64 p.h,.slice a n c] 25)).alloc (.cells (edC ed0) 106)) ⟨z4,z4,128,false,true⟩;have E1:=((Ext.alloc w (.cells #[.int .i64 p.w,.int .i64 p.h,.slice a n c] 25)).trans a2).trans a3;simp only[World.size_alloc]at b1 b2;have eK:=Lib.hid (edK_zero E);rw[fu,fl]at eK;have FU:=Lib.hid fu;have FL:=Lib.hid fl;clear a2 a3 fu fl;go_enter Tryz.func75,Tryz.ntmps75
 go_wp2_with fail
 try simp only[World.size_alloc]
 obtain⟨B,hB⟩:∃ B,B=w.heap.size:=⟨_,rfl⟩;rw[←hB]at b0 b1 b2⊢;have hwB:w.heap.size≤B:=by omega
 have HB:=Lib.hid hB;clear hB;go_loopw [17] (fun i wr=>∃ k:Nat,k≤4∧i= .int .i64 k∧Ext w wr∧Hid (wr.heap[B]?=some (.cells #[.int .i64 p.w,.int .i64 p.h,.slice a n c] 25 (0,0)))∧EB wr (B+1) ed0∧EB wr (B+1+1) (edK E k)) (fun i _=>4-(intOf i).toNat)
 case atStart=>exact⟨0,by omega,rfl,E1,Lib.hid b0,b1,by rw[eK.out];exact b2⟩
 case round =>
  obtain⟨k,hk,rfl,E4,X4,r1,r2⟩:=hrel;clear b0 b1 b2 E1
  by_cases hlt:k<4
  ·have hd:decide ((k:Int)<4)=true:=by simp;omega
   have c0:=r2.ab (edK_ln L.out k) hlt;have c1:=r2.lf (edK_ln L.out k) hlt;have f0:=r2.frozen k;have f1:=r2.frozen (4+k);go_upto_region 6 with fail
   have s2:=(r2.first L.out hlt 128).second L.out hlt 128;have E5:=sC _ _ (4+k) (.int .i64 128) (by omega:w.heap.size≤B+1+1) (sC _ _ k (.int .i64 128) (by omega:w.heap.size≤B+1+1) E4);have X5:=blk_set_other (c:=B+1+1) (i:=4+k) (v := .int .i64 128) (blk_set_other (c:=B+1+1) (i:=k) (v := .int .i64 128) X4.out (by omega)) (by omega);have t1:=(r1.set_other (c:=B+1+1) (i:=k) (v := .int .i64 128) (by omega)).set_other (c:=B+1+1) (i:=4+k) (v := .int .i64 128) (by omega);clear r2 E4 X4 r1 c0 f0 c1 f1;generalize (wr.setCell ⟨B+1+1,k,none⟩ (.int .i64 128)).setCell ⟨B+1+1,4+k,none⟩ (.int .i64 128)=w5 at *;have cu:=s2.up (edS_ln L.out k _ _);have cl:=s2.le (edS_ln L.out k _ _);rw[show(edS E k 128 128).up=false from FU.out]at cu;rw[show(edS E k 128 128).le=true from FL.out]at cl;obtain⟨-,k0,k1,k2,-⟩:=bx3 X5;go_wp2_with fail
   refine(at_any p (x-1) (y+(k:Int)) a c n _ HV.out HN.out (r.ext E5)).mono ?_
   rintro e w8 ⟨rfl,e6⟩
   obtain⟨vl,hvl⟩:∃ vl,vl=pat p (x-1) (y+(k:Int)):=⟨_,rfl⟩;rw[←hvl];have Hvl:=Lib.hid hvl;have s3:=s2.ext e6;have E6:=E5.trans e6;have X6:=e6.blk X5;have t2:=t1.ext e6;clear hvl s2 E5 X5 t1 e6 cl k0 k1 k2 cu;have c0:=s3.lf (edS_ln L.out k _ _) hlt;have f0:=s3.frozen (4+k);go_upto_region 10 with fail
   have s2:=s3.s_lf L.out hlt vl;have E5:=sC _ _ (4+k) (.int .i64 vl) (by omega:w.heap.size≤B+1+1) E6;have X5:=blk_set_other (c:=B+1+1) (i:=4+k) (v := .int .i64 vl) X6 (by omega);have t1:=t2.set_other (c:=B+1+1) (i:=4+k) (v := .int .i64 vl) (by omega);clear s3 E6 X6 t2 c0 f0;generalize w8.setCell ⟨B+1+1,4+k,none⟩ (.int .i64 vl)=w9 at *;have hnx:=edS_next L.out hlt (u:=128) (v:=vl) (by rw[ra.out k hlt]) (by rw[rl.out k hlt];exact Hvl.out.symm);rw[hnx]at s2;clear hnx;go_wp2;go_roundw
   case rel=>exact⟨k+1,by omega,by go_num,E5,Lib.hid X5,t1,s2⟩
   case measure=>simp[intOf];omega
  ·obtain rfl:k=4:=by omega
   have cu:=r2.up (edK_ln L.out 4);have cl:=r2.le (edK_ln L.out 4);rw[show(edK E 4).up=false from FU.out]at cu;rw[show(edK E 4).le=true from FL.out]at cl;obtain⟨-,k0,k1,k2,-⟩:=bx3 X4.out;go_upto_region 13 with fail
   rw[edK_four L.out]at r2;have hfin:({ E with co:=128 } : Ed)=E:=by rw[←rc.out]
   rw[hfin]at r2;clear hfin;go_wp2_with (first|(refine wpList_cload 106 _ rfl rfl r2 rfl _ Tryz.underlying106 rfl 11 size_Edges (edC_size L.out) ?_)|(refine wpList_cstore 106 _ _ rfl rfl r1 rfl _ rfl (edC_one E) 11 size_Edges (edC_size L.out) (edC_size ed0_ln) ?_;intro w8 p8 g8;refine Hid.out ?_))
   have E8:Ext w w8:=Ext.grown E4 g8 (fun q hq=>by cases hq;omega);refine Lib.hid ?_;go_wp2;exact bodyPost_ret (v := .agg (edC E)) (results_cell_row rfl _ _ (B+1) 106 (edC E) (0,0) _ rfl p8 Tryz.underlying106 rfl (by rw[edC_size L.out];exact size_Edges)) rfl ⟨rfl,E8⟩
theorem edges_nn (p:Pic) (x y top:Int) (a:Option Addr) (c n:Nat) (w:World) (hv:p.valid) (hn:n=p.px.length) (r:Sl w a n (p.px.map (Value.int .i64))) (x1:0≤x) (x2:x≤1000) (y1:0≤y) (y2:y≤1000) (hu : ¬ top<y) (hl : ¬ 0<x) :
 Calls Tryz.prog 75 #[.agg #[.int .i64 p.w,.int .i64 p.h,.slice a n c],.int .i64 x,.int .i64 y,.int .i64 top] w fun e w'=>e= .returned (.agg (edC (edg p x y top)))∧Ext w w':=by
 have d1:decide (top<y)=false:=by simpa using hu
 have d2:decide (0<x)=false:=by simpa using hl
 have L:=Lib.hid (edg_ln p x y top);have fu:(edg p x y top).up=false:=d1;have fl:(edg p x y top).le=false:=d2;have ra:=Lib.hid (fun(k:Nat) (hk:k<4)=>show nth (edg p x y top).ab k=128 by rw[edg_ab _ _ _ _ hk,if_neg hu]);have rl:=Lib.hid (fun(k:Nat) (hk:k<4)=>show nth (edg p x y top).lf k=128 by rw[edg_lf _ _ _ _ hk,if_neg hl]);have rc:=Lib.hid (show(edg p x y top).co=128 by unfold edg;simp only;rw[if_neg (fun h=>hu h.1)]);have HN:=Lib.hid hn;have HV:=Lib.hid hv;obtain⟨E,hE⟩:∃ E,E=edg p x y top:=⟨_,rfl⟩;rw[←hE]at L fu fl ra rl rc⊢;have HE:=Lib.hid hE;clear hn hv hE;have a2:=Ext.alloc (w.alloc (.cells #[.int .i64 p.w,.int .i64 p.h,.slice a n c] 25)) (.cells (edC ed0) 106);have a3:=Ext.alloc ((w.alloc (.cells #[.int .i64 p.w,.int .i64 p.h,.slice a n c] 25)).alloc (.cells (edC ed0) 106)) (.cells (edC ⟨z4,z4,128,false,false⟩) 106);have b0:=a3.blk (a2.blk (blk_new w (.cells #[.int .i64 p.w,.int .i64 p.h,.slice a n c] 25)));have b1:=(EB.new (w.alloc (.cells #[.int .i64 p.w,.int .i64 p.h,.slice a n c] 25)) ed0).ext a3;have b2:=EB.new ((w.alloc (.cells #[.int .i64 p.w,.int .i64 p.h,.slice a n c] 25)).alloc (.cells (edC ed0) 106)) ⟨z4,z4,128,false,false⟩;have E1:=((Ext.alloc w (.cells #[.int .i64 p.w,.int .i64 p.h,.slice a n c] 25)).trans a2).trans a3;simp only[World.size_alloc]at b1 b2;have eK:=Lib.hid (edK_zero E);rw[fu,fl]at eK;have FU:=Lib.hid fu;have FL:=Lib.hid fl;clear a2 a3 fu fl;go_enter Tryz.func75,Tryz.ntmps75
 go_wp2_with fail
 try simp only[World.size_alloc]
 obtain⟨B,hB⟩:∃ B,B=w.heap.size:=⟨_,rfl⟩;rw[←hB]at b0 b1 b2⊢;have hwB:w.heap.size≤B:=by omega
 have HB:=Lib.hid hB;clear hB;go_loopw [17] (fun i wr=>∃ k:Nat,k≤4∧i= .int .i64 k∧Ext w wr∧Hid (wr.heap[B]?=some (.cells #[.int .i64 p.w,.int .i64 p.h,.slice a n c] 25 (0,0)))∧EB wr (B+1) ed0∧EB wr (B+1+1) (edK E k)) (fun i _=>4-(intOf i).toNat)
 case atStart=>exact⟨0,by omega,rfl,E1,Lib.hid b0,b1,by rw[eK.out];exact b2⟩
 case round =>
  obtain⟨k,hk,rfl,E4,X4,r1,r2⟩:=hrel;clear b0 b1 b2 E1
  by_cases hlt:k<4
  ·have hd:decide ((k:Int)<4)=true:=by simp;omega
   have c0:=r2.ab (edK_ln L.out k) hlt;have c1:=r2.lf (edK_ln L.out k) hlt;have f0:=r2.frozen k;have f1:=r2.frozen (4+k);go_upto_region 6 with fail
   have s2:=(r2.first L.out hlt 128).second L.out hlt 128;have E5:=sC _ _ (4+k) (.int .i64 128) (by omega:w.heap.size≤B+1+1) (sC _ _ k (.int .i64 128) (by omega:w.heap.size≤B+1+1) E4);have X5:=blk_set_other (c:=B+1+1) (i:=4+k) (v := .int .i64 128) (blk_set_other (c:=B+1+1) (i:=k) (v := .int .i64 128) X4.out (by omega)) (by omega);have t1:=(r1.set_other (c:=B+1+1) (i:=k) (v := .int .i64 128) (by omega)).set_other (c:=B+1+1) (i:=4+k) (v := .int .i64 128) (by omega);clear r2 E4 X4 r1 c0 f0 c1 f1;generalize (wr.setCell ⟨B+1+1,k,none⟩ (.int .i64 128)).setCell ⟨B+1+1,4+k,none⟩ (.int .i64 128)=w5 at *;have cu:=s2.up (edS_ln L.out k _ _);have cl:=s2.le (edS_ln L.out k _ _);rw[show(edS E k 128 128).up=false from FU.out]at cu;rw[show(edS E k 128 128).le=false from FL.out]at cl;obtain⟨-,k0,k1,k2,-⟩:=bx3 X5;have hnx:=edS_next L.out hlt (u:=128) (v:=128) (by rw[ra.out k hlt]) (by rw[rl.out k hlt]);rw[hnx]at s2;clear hnx;go_wp2;go_roundw
   case rel=>exact⟨k+1,by omega,by go_num,E5,Lib.hid X5,t1,s2⟩
   case measure=>simp[intOf];omega
  ·obtain rfl:k=4:=by omega
   have cu:=r2.up (edK_ln L.out 4);have cl:=r2.le (edK_ln L.out 4);rw[show(edK E 4).up=false from FU.out]at cu;rw[show(edK E 4).le=false from FL.out]at cl;obtain⟨-,k0,k1,k2,-⟩:=bx3 X4.out;go_upto_region 13 with fail
   rw[edK_four L.out]at r2;have hfin:({ E with co:=128 } : Ed)=E:=by rw[←rc.out]
   rw[hfin]at r2;clear hfin;go_wp2_with (first|(refine wpList_cload 106 _ rfl rfl r2 rfl _ Tryz.underlying106 rfl 11 size_Edges (edC_size L.out) ?_)|(refine wpList_cstore 106 _ _ rfl rfl r1 rfl _ rfl (edC_one E) 11 size_Edges (edC_size L.out) (edC_size ed0_ln) ?_;intro w8 p8 g8;refine Hid.out ?_))
   have E8:Ext w w8:=Ext.grown E4 g8 (fun q hq=>by cases hq;omega);refine Lib.hid ?_;go_wp2;exact bodyPost_ret (v := .agg (edC E)) (results_cell_row rfl _ _ (B+1) 106 (edC E) (0,0) _ rfl p8 Tryz.underlying106 rfl (by rw[edC_size L.out];exact size_Edges)) rfl ⟨rfl,E8⟩
theorem edges_any (p:Pic) (x y top:Int) (a:Option Addr) (c n:Nat) (w:World) (hv:p.valid) (hn:n=p.px.length) (r:Sl w a n (p.px.map (Value.int .i64))) (x1:0≤x) (x2:x≤1000) (y1:0≤y) (y2:y≤1000) :
 Calls Tryz.prog 75 #[.agg #[.int .i64 p.w,.int .i64 p.h,.slice a n c],.int .i64 x,.int .i64 y,.int .i64 top] w fun e w'=>e= .returned (.agg (edC (edg p x y top)))∧Ext w w':=by
 by_cases hu:top<y
 ·by_cases hl:0<x
  ·exact edges_ul p x y top a c n w hv hn r x1 x2 y1 y2 hu hl
  ·exact edges_un p x y top a c n w hv hn r x1 x2 y1 y2 hu hl
 ·by_cases hl:0<x
  ·exact edges_nl p x y top a c n w hv hn r x1 x2 y1 y2 hu hl
  ·exact edges_nn p x y top a c n w hv hn r x1 x2 y1 y2 hu hl
theorem l6Edges_ul (p:Pic) (x y W H:Nat) (top:Int) (a:Option Addr) (c n:Nat) (w:World) (hv:p.valid) (hn:n=p.px.length) (r:Sl w a n (p.px.map (Value.int .i64))) (hW:p.w=W) (hH:p.h=H) (x2:x+3<W) (y2:y+3<H) (t0:0≤top) (hu:top<(y:Int)) (hl:0<(x:Int)) :
 Calls Tryz.prog 140 #[.agg #[.int .i64 p.w,.int .i64 p.h,.slice a n c],.int .i64 (x:Nat),.int .i64 (y:Nat),.int .i64 top] w fun e w'=>e= .returned (.agg (edC (edg p (x:Int) (y:Int) top)))∧Ext w w':=by
 have d1:decide (top<(y:Int))=true:=by simpa using hu
 have d2:decide (0<x)=true:=by simp;omega
 have L:=Lib.hid (edg_ln p (x:Int) (y:Int) top);have fu:(edg p (x:Int) (y:Int) top).up=true:=d1;have fl:(edg p (x:Int) (y:Int) top).le=true:=(show decide (0<(x:Int))=true by simpa using hl);have ra:=Lib.hid (fun(k:Nat) (hk:k<4)=>show nth (edg p (x:Int) (y:Int) top).ab k=pat p ((x:Int)+(k:Int)) ((y:Int)-1) by rw[edg_ab _ _ _ _ hk,if_pos hu]);have rl:=Lib.hid (fun(k:Nat) (hk:k<4)=>show nth (edg p (x:Int) (y:Int) top).lf k=pat p ((x:Int)-1) ((y:Int)+(k:Int)) by rw[edg_lf _ _ _ _ hk,if_pos hl]);have rc:=Lib.hid (show(edg p (x:Int) (y:Int) top).co=pat p ((x:Int)-1) ((y:Int)-1) by unfold edg;simp only;rw[if_pos ⟨hu,hl⟩]);have hlen:=hv.2.2.1;rw[hW,hH,←Int.natCast_mul]at hlen;have hnW:n=W*H:=by rw[hn];exact Int.ofNat.inj hlen
 have hside:=hv.1;rw[hW]at hside;have hside2:=hv.2.1;rw[hH]at hside2;have hW32:W≤32:=by have:=hside.2.1;omega
 have hH32:H≤32:=by have:=hside2.2.1;omega
 have inn:∀ u v:Nat,u<H→v<W→u*W+v<n:=fun u v h1 h2=>by
  have h3:=Nat.mul_le_mul_right W (show u+1≤H by omega);rw[Nat.add_mul,Nat.one_mul,Nat.mul_comm H W,←hnW]at h3;omega
 have Inn:=Lib.hid inn;have hn1k:n≤1024:=by rw[hnW];exact Nat.mul_le_mul hW32 hH32
 have Pin:=Lib.hid (fun(u v:Nat) (h1:u<H) (h2:v<W)=>pat_in (p:=p) (x:=v) (y:=u) (by rw[hW];omega) (by rw[hH];omega) hW);have HW:=Lib.hid hW;clear hlen hnW hside hside2 hW hH inn;have HN:=Lib.hid hn;have HV:=Lib.hid hv;obtain⟨E,hE⟩:∃ E,E=edg p (x:Int) (y:Int) top:=⟨_,rfl⟩;rw[←hE]at L fu fl ra rl rc⊢;have HE:=Lib.hid hE;clear hn hv hE;have a2:=Ext.alloc (w.alloc (.cells #[.int .i64 p.w,.int .i64 p.h,.slice a n c] 25)) (.cells (edC ed0) 106);have a3:=Ext.alloc ((w.alloc (.cells #[.int .i64 p.w,.int .i64 p.h,.slice a n c] 25)).alloc (.cells (edC ed0) 106)) (.cells (edC ⟨z4,z4,128,true,true⟩) 106);have b0:=a3.blk (a2.blk (blk_new w (.cells #[.int .i64 p.w,.int .i64 p.h,.slice a n c] 25)));have b1:=(EB.new (w.alloc (.cells #[.int .i64 p.w,.int .i64 p.h,.slice a n c] 25)) ed0).ext a3;have b2:=EB.new ((w.alloc (.cells #[.int .i64 p.w,.int .i64 p.h,.slice a n c] 25)).alloc (.cells (edC ed0) 106)) ⟨z4,z4,128,true,true⟩;have E1:=((Ext.alloc w (.cells #[.int .i64 p.w,.int .i64 p.h,.slice a n c] 25)).trans a2).trans a3;simp only[World.size_alloc]at b1 b2;have eK:=Lib.hid (edK_zero E);rw[fu,fl]at eK;have FU:=Lib.hid fu;have FL:=Lib.hid fl;clear a2 a3 fu fl;go_enter Tryz.func140,Tryz.ntmps140
 go_wp2_with fail
 try simp only[World.size_alloc]
 obtain⟨B,hB⟩:∃ B,B=w.heap.size:=⟨_,rfl⟩;rw[←hB]at b0 b1 b2⊢;have hwB:w.heap.size≤B:=by omega
 have HB:=Lib.hid hB;clear hB;go_loopw [10] (fun i wr=>∃ k:Nat,k≤4∧i= .int .i64 k∧Ext w wr∧Hid (wr.heap[B]?=some (.cells #[.int .i64 p.w,.int .i64 p.h,.slice a n c] 25 (0,0)))∧EB wr (B+1) ed0∧EB wr (B+1+1) (edK E k)) (fun i _=>4-(intOf i).toNat)
 case atStart=>exact⟨0,by omega,rfl,E1,Lib.hid b0,b1,by rw[eK.out];exact b2⟩
 case round =>
  obtain⟨k,hk,rfl,E4,X4,r1,r2⟩:=hrel;clear b0 b1 b2 E1
  by_cases hlt:k<4
  ·have hd:decide ((k:Int)<4)=true:=by simp;omega
   have c0:=r2.ab (edK_ln L.out k) hlt;have f0:=r2.frozen k;go_upto_region 6 with fail
   have s1:=r2.first L.out hlt 128
   have E5:=sC _ _ k (.int .i64 128) (by omega:w.heap.size≤B+1+1) E4;have X5:=blk_set_other (c:=B+1+1) (i:=k) (v := .int .i64 128) X4.out (by omega);have t1:=r1.set_other (c:=B+1+1) (i:=k) (v := .int .i64 128) (by omega);clear r2 E4 X4 r1 c0 f0;generalize wr.setCell ⟨B+1+1,k,none⟩ (.int .i64 128)=wq at *;have c1:=s1.lf ⟨by show(List.set _ _ _).length=4;rw[List.length_set];exact mixI_len _ _ _ 4 L.out.ab rfl,mixI_len _ _ _ 4 L.out.lf rfl⟩ hlt;have f1:=s1.frozen (4+k);go_upto_region 7 with fail
   have s2:=s1.second L.out hlt 128;have E5':=sC _ _ (4+k) (.int .i64 128) (by omega:w.heap.size≤B+1+1) E5;have X5':=blk_set_other (c:=B+1+1) (i:=4+k) (v := .int .i64 128) X5 (by omega);have t1':=t1.set_other (c:=B+1+1) (i:=4+k) (v := .int .i64 128) (by omega);clear s1 E5 X5 t1 c1 f1;have E5:=E5';have X5:=X5';have t1:=t1';clear E5' X5' t1';generalize wq.setCell ⟨B+1+1,4+k,none⟩ (.int .i64 128)=w5 at *;have cu:=s2.up (edS_ln L.out k _ _);have cl:=s2.le (edS_ln L.out k _ _);rw[show(edS E k 128 128).up=true from FU.out]at cu;rw[show(edS E k 128 128).le=true from FL.out]at cl;obtain⟨-,k0,k1,k2,-⟩:=bx3 X5;have hy1:1≤y:=by omega
   obtain⟨Y1,hY1⟩:∃ Y1:Nat,y=Y1+1:=⟨y-1,by omega⟩;obtain⟨q,hq⟩:∃ q:Nat,q=Y1*W+(x+k):=⟨_,rfl⟩;have hqn:q<n:=by rw[hq];exact Inn.out Y1 (x+k) (by omega) (by omega)
   have hpv:=Pin.out Y1 (x+k) (by omega) (by omega);rw[←hq]at hpv;obtain⟨va,hva⟩:∃ va,va=pat p ((x:Int)+(k:Int)) ((y:Int)-1):=⟨_,rfl⟩;have hcell:∃ b off,a=some ⟨b,off,none⟩∧w5.cell? ⟨b,off+q,none⟩=some (.int .i64 va):=by
    obtain⟨b,off,h1,h2⟩:=(r.ext E5).int hqn;refine⟨b,off,h1,?_⟩;rw[h2,hva,show(x:Int)+(k:Int)=((x+k:Nat):Int) by omega,show(y:Int)-1=(Y1:Int) by omega,hpv]
   have hm1:((y:Int)-1)*(W:Int)=((Y1*W:Nat):Int):=by rw[Int.natCast_mul,show(y:Int)-1=(Y1:Int) by omega]
   have hmq:Y1*W≤q:=by rw[hq];omega
   have hq2:((y:Int)-1)*(W:Int)+(x:Int)+(k:Int)=(q:Int):=by rw[hm1,hq];omega
   have hmb:0≤((y:Int)-1)*(W:Int)∧((y:Int)-1)*(W:Int)≤1024:=by rw[hm1];omega
   have Hva:=Lib.hid hva;have c0:=s2.ab (edS_ln L.out k _ _) hlt;have f0:=s2.frozen k;obtain⟨b,off,rfl,hcell⟩:=hcell;rw[HW.out]at k0;clear hq hpv hva hm1 hmq hY1;go_upto_region 9 with fail
   have s3:=s2.s_up L.out hlt va;have E6:=sC _ _ k (.int .i64 va) (by omega:w.heap.size≤B+1+1) E5;have X6:=blk_set_other (c:=B+1+1) (i:=k) (v := .int .i64 va) X5 (by omega);have t2:=t1.set_other (c:=B+1+1) (i:=k) (v := .int .i64 va) (by omega);clear s2 E5 X5 t1 c0 f0 cu cl k0 k1 k2 hcell hq2 hmb;have s2:=s3;have E5:=E6;have X5:=X6;have t1:=t2;clear s3 E6 X6 t2;generalize w5.setCell ⟨B+1+1,k,none⟩ (.int .i64 va)=w7 at *;have cl:=s2.le (edS_ln L.out k _ _);rw[show(edS E k va 128).le=true from FL.out]at cl;obtain⟨-,k0,k1,k2,-⟩:=bx3 X5;obtain⟨X1,hX1⟩:∃ X1:Nat,x=X1+1:=⟨x-1,by omega⟩;obtain⟨q,hq⟩:∃ q:Nat,q=(y+k)*W+X1:=⟨_,rfl⟩;have hqn:q<n:=by rw[hq];exact Inn.out (y+k) X1 (by omega) (by omega)
   have hpv:=Pin.out (y+k) X1 (by omega) (by omega);rw[←hq]at hpv;obtain⟨vl,hvl⟩:∃ vl,vl=pat p ((x:Int)-1) ((y:Int)+(k:Int)):=⟨_,rfl⟩;have hcell:∃ bb oo,(some ⟨b,off,none⟩:Option Addr)=some ⟨bb,oo,none⟩∧w7.cell? ⟨bb,oo+q,none⟩=some (.int .i64 vl):=by
    obtain⟨bb,oo,h1,h2⟩:=(r.ext E5).int hqn;refine⟨bb,oo,h1,?_⟩;rw[h2,hvl,show(x:Int)-1=(X1:Int) by omega,show(y:Int)+(k:Int)=((y+k:Nat):Int) by omega,hpv]
   have hm1:((y:Int)+(k:Int))*(W:Int)=(((y+k)*W:Nat):Int):=by rw[Int.natCast_mul,show(y:Int)+(k:Int)=((y+k:Nat):Int) by omega]
   have hmq:(y+k)*W≤q:=by rw[hq];omega
   have hq2:((y:Int)+(k:Int))*(W:Int)+(x:Int)-1=(q:Int):=by rw[hm1,hq];omega
   have hmb:0≤((y:Int)+(k:Int))*(W:Int)∧((y:Int)+(k:Int))*(W:Int)≤1024:=by rw[hm1];omega
   have Hvl:=Lib.hid hvl;have c0:=s2.lf (edS_ln L.out k _ _) hlt;have f0:=s2.frozen (4+k);obtain⟨b',off',hadr,hcell⟩:=hcell;simp only[Option.some.injEq,Addr.mk.injEq,and_true]at hadr;obtain⟨rfl,rfl⟩:=hadr;rw[HW.out]at k0;clear hq hpv hvl hm1 hmq hX1;go_wp2;have s3:=s2.s_lf L.out hlt vl;have E6:=sC _ _ (4+k) (.int .i64 vl) (by omega:w.heap.size≤B+1+1) E5;have X6:=blk_set_other (c:=B+1+1) (i:=4+k) (v := .int .i64 vl) X5 (by omega);have t2:=t1.set_other (c:=B+1+1) (i:=4+k) (v := .int .i64 vl) (by omega);clear s2 E5 X5 t1 c0 f0 cl k0 k1 k2 hcell hq2 hmb;have s2:=s3;have E5:=E6;have X5:=X6;have t1:=t2;clear s3 E6 X6 t2;have hnx:=edS_next L.out hlt (u:=va) (v:=vl) (by rw[ra.out k hlt];exact Hva.out.symm) (by rw[rl.out k hlt];exact Hvl.out.symm);rw[hnx]at s2;clear hnx;go_roundw
   case rel=>exact⟨k+1,by omega,by go_num,E5,Lib.hid X5,t1,s2⟩
   case measure=>simp[intOf];omega
  ·obtain rfl:k=4:=by omega
   have cu:=r2.up (edK_ln L.out 4);have cl:=r2.le (edK_ln L.out 4);rw[show(edK E 4).up=true from FU.out]at cu;rw[show(edK E 4).le=true from FL.out]at cl;obtain⟨-,k0,k1,k2,-⟩:=bx3 X4.out;have hy1:1≤y:=by omega
   obtain⟨Y1,hY1⟩:∃ Y1:Nat,y=Y1+1:=⟨y-1,by omega⟩;obtain⟨X1,hX1⟩:∃ X1:Nat,x=X1+1:=⟨x-1,by omega⟩;obtain⟨q,hq⟩:∃ q:Nat,q=Y1*W+X1:=⟨_,rfl⟩;have hqn:q<n:=by rw[hq];exact Inn.out Y1 X1 (by omega) (by omega)
   have hpv:=Pin.out Y1 X1 (by omega) (by omega);rw[←hq]at hpv;obtain⟨vc,hvc⟩:∃ vc,vc=pat p ((x:Int)-1) ((y:Int)-1):=⟨_,rfl⟩;have hcell:∃ b off,a=some ⟨b,off,none⟩∧wr.cell? ⟨b,off+q,none⟩=some (.int .i64 vc):=by
    obtain⟨b,off,h1,h2⟩:=(r.ext E4).int hqn;refine⟨b,off,h1,?_⟩;rw[h2,hvc,show(x:Int)-1=(X1:Int) by omega,show(y:Int)-1=(Y1:Int) by omega,hpv]
   have hm1:((y:Int)-1)*(W:Int)=((Y1*W:Nat):Int):=by rw[Int.natCast_mul,show(y:Int)-1=(Y1:Int) by omega]
   have hmq:Y1*W≤q:=by rw[hq];omega
   have hq2:((y:Int)-1)*(W:Int)+(x:Int)-1=(q:Int):=by rw[hm1,hq];omega
   have hmb:0≤((y:Int)-1)*(W:Int)∧((y:Int)-1)*(W:Int)≤1024:=by rw[hm1];omega
   have Hvc:=Lib.hid hvc;have c0:=r2.co (edK_ln L.out 4);have f0:=r2.frozen 8;obtain⟨b,off,rfl,hcell⟩:=hcell;rw[HW.out]at k0;clear hq hpv hvc hm1 hmq hY1 hX1;go_upto_region 13 with fail
   have s3:=r2.set_co (edK_ln L.out 4) vc;have E6:=sC _ _ 8 (.int .i64 vc) (by omega:w.heap.size≤B+1+1) E4;have t2:=r1.set_other (c:=B+1+1) (i:=8) (v := .int .i64 vc) (by omega);clear r2 E4 r1 c0 f0 cu cl k0 k1 k2 hcell hq2 hmb X4;generalize wr.setCell ⟨B+1+1,8,none⟩ (.int .i64 vc)=w7 at *;rw[edK_four L.out]at s3;have hfin:({ ({ E with co:=128 } : Ed)with co:=vc } : Ed)=E:=by rw[Hvc.out,←rc.out]
   rw[hfin]at s3;clear hfin;go_wp2_with (first|(refine wpList_cload 106 _ rfl rfl s3 rfl _ Tryz.underlying106 rfl 11 size_Edges (edC_size L.out) ?_)|(refine wpList_cstore 106 _ _ rfl rfl t2 rfl _ rfl (edC_one E) 11 size_Edges (edC_size L.out) (edC_size ed0_ln) ?_;intro w8 p8 g8;refine Hid.out ?_))
   have E8:Ext w w8:=Ext.grown E6 g8 (fun q hq=>by cases hq;omega);refine Lib.hid ?_;go_wp2;exact bodyPost_ret (v := .agg (edC E)) (results_cell_row rfl _ _ (B+1) 106 (edC E) (0,0) _ rfl p8 Tryz.underlying106 rfl (by rw[edC_size L.out];exact size_Edges)) rfl ⟨rfl,E8⟩
theorem l6Edges_un (p:Pic) (x y W H:Nat) (top:Int) (a:Option Addr) (c n:Nat) (w:World) (hv:p.valid) (hn:n=p.px.length) (r:Sl w a n (p.px.map (Value.int .i64))) (hW:p.w=W) (hH:p.h=H) (x2:x+3<W) (y2:y+3<H) (t0:0≤top) (hu:top<(y:Int)) (hl : ¬ 0<(x:Int)) :
 Calls Tryz.prog 140 #[.agg #[.int .i64 p.w,.int .i64 p.h,.slice a n c],.int .i64 (x:Nat),.int .i64 (y:Nat),.int .i64 top] w fun e w'=>e= .returned (.agg (edC (edg p (x:Int) (y:Int) top)))∧Ext w w':=by
 have d1:decide (top<(y:Int))=true:=by simpa using hu
 have d2:decide (0<x)=false:=by simp;omega
 have L:=Lib.hid (edg_ln p (x:Int) (y:Int) top);have fu:(edg p (x:Int) (y:Int) top).up=true:=d1;have fl:(edg p (x:Int) (y:Int) top).le=false:=(show decide (0<(x:Int))=false by simpa using hl);have ra:=Lib.hid (fun(k:Nat) (hk:k<4)=>show nth (edg p (x:Int) (y:Int) top).ab k=pat p ((x:Int)+(k:Int)) ((y:Int)-1) by rw[edg_ab _ _ _ _ hk,if_pos hu]);have rl:=Lib.hid (fun(k:Nat) (hk:k<4)=>show nth (edg p (x:Int) (y:Int) top).lf k=128 by rw[edg_lf _ _ _ _ hk,if_neg hl]);have rc:=Lib.hid (show(edg p (x:Int) (y:Int) top).co=128 by unfold edg;simp only;rw[if_neg (fun h=>hl h.2)]);have hlen:=hv.2.2.1;rw[hW,hH,←Int.natCast_mul]at hlen;have hnW:n=W*H:=by rw[hn];exact Int.ofNat.inj hlen
 have hside:=hv.1;rw[hW]at hside;have hside2:=hv.2.1;rw[hH]at hside2;have hW32:W≤32:=by have:=hside.2.1;omega
 have hH32:H≤32:=by have:=hside2.2.1;omega
 have inn:∀ u v:Nat,u<H→v<W→u*W+v<n:=fun u v h1 h2=>by
  have h3:=Nat.mul_le_mul_right W (show u+1≤H by omega);rw[Nat.add_mul,Nat.one_mul,Nat.mul_comm H W,←hnW]at h3;omega
 have Inn:=Lib.hid inn;have hn1k:n≤1024:=by rw[hnW];exact Nat.mul_le_mul hW32 hH32
 have Pin:=Lib.hid (fun(u v:Nat) (h1:u<H) (h2:v<W)=>pat_in (p:=p) (x:=v) (y:=u) (by rw[hW];omega) (by rw[hH];omega) hW);have HW:=Lib.hid hW;clear hlen hnW hside hside2 hW hH inn;have HN:=Lib.hid hn;have HV:=Lib.hid hv;obtain⟨E,hE⟩:∃ E,E=edg p (x:Int) (y:Int) top:=⟨_,rfl⟩;rw[←hE]at L fu fl ra rl rc⊢;have HE:=Lib.hid hE;clear hn hv hE;have a2:=Ext.alloc (w.alloc (.cells #[.int .i64 p.w,.int .i64 p.h,.slice a n c] 25)) (.cells (edC ed0) 106);have a3:=Ext.alloc ((w.alloc (.cells #[.int .i64 p.w,.int .i64 p.h,.slice a n c] 25)).alloc (.cells (edC ed0) 106)) (.cells (edC ⟨z4,z4,128,true,false⟩) 106);have b0:=a3.blk (a2.blk (blk_new w (.cells #[.int .i64 p.w,.int .i64 p.h,.slice a n c] 25)));have b1:=(EB.new (w.alloc (.cells #[.int .i64 p.w,.int .i64 p.h,.slice a n c] 25)) ed0).ext a3;have b2:=EB.new ((w.alloc (.cells #[.int .i64 p.w,.int .i64 p.h,.slice a n c] 25)).alloc (.cells (edC ed0) 106)) ⟨z4,z4,128,true,false⟩;have E1:=((Ext.alloc w (.cells #[.int .i64 p.w,.int .i64 p.h,.slice a n c] 25)).trans a2).trans a3;simp only[World.size_alloc]at b1 b2;have eK:=Lib.hid (edK_zero E);rw[fu,fl]at eK;have FU:=Lib.hid fu;have FL:=Lib.hid fl;clear a2 a3 fu fl;go_enter Tryz.func140,Tryz.ntmps140
 go_wp2_with fail
 try simp only[World.size_alloc]
 obtain⟨B,hB⟩:∃ B,B=w.heap.size:=⟨_,rfl⟩;rw[←hB]at b0 b1 b2⊢;have hwB:w.heap.size≤B:=by omega
 have HB:=Lib.hid hB;clear hB;go_loopw [10] (fun i wr=>∃ k:Nat,k≤4∧i= .int .i64 k∧Ext w wr∧Hid (wr.heap[B]?=some (.cells #[.int .i64 p.w,.int .i64 p.h,.slice a n c] 25 (0,0)))∧EB wr (B+1) ed0∧EB wr (B+1+1) (edK E k)) (fun i _=>4-(intOf i).toNat)
 case atStart=>exact⟨0,by omega,rfl,E1,Lib.hid b0,b1,by rw[eK.out];exact b2⟩
 case round =>
  obtain⟨k,hk,rfl,E4,X4,r1,r2⟩:=hrel;clear b0 b1 b2 E1
  by_cases hlt:k<4
  ·have hd:decide ((k:Int)<4)=true:=by simp;omega
   have c0:=r2.ab (edK_ln L.out k) hlt;have f0:=r2.frozen k;go_upto_region 6 with fail
   have s1:=r2.first L.out hlt 128
   have E5:=sC _ _ k (.int .i64 128) (by omega:w.heap.size≤B+1+1) E4;have X5:=blk_set_other (c:=B+1+1) (i:=k) (v := .int .i64 128) X4.out (by omega);have t1:=r1.set_other (c:=B+1+1) (i:=k) (v := .int .i64 128) (by omega);clear r2 E4 X4 r1 c0 f0;generalize wr.setCell ⟨B+1+1,k,none⟩ (.int .i64 128)=wq at *;have c1:=s1.lf ⟨by show(List.set _ _ _).length=4;rw[List.length_set];exact mixI_len _ _ _ 4 L.out.ab rfl,mixI_len _ _ _ 4 L.out.lf rfl⟩ hlt;have f1:=s1.frozen (4+k);go_upto_region 7 with fail
   have s2:=s1.second L.out hlt 128;have E5':=sC _ _ (4+k) (.int .i64 128) (by omega:w.heap.size≤B+1+1) E5;have X5':=blk_set_other (c:=B+1+1) (i:=4+k) (v := .int .i64 128) X5 (by omega);have t1':=t1.set_other (c:=B+1+1) (i:=4+k) (v := .int .i64 128) (by omega);clear s1 E5 X5 t1 c1 f1;have E5:=E5';have X5:=X5';have t1:=t1';clear E5' X5' t1';generalize wq.setCell ⟨B+1+1,4+k,none⟩ (.int .i64 128)=w5 at *;have cu:=s2.up (edS_ln L.out k _ _);have cl:=s2.le (edS_ln L.out k _ _);rw[show(edS E k 128 128).up=true from FU.out]at cu;rw[show(edS E k 128 128).le=false from FL.out]at cl;obtain⟨-,k0,k1,k2,-⟩:=bx3 X5;have hy1:1≤y:=by omega
   obtain⟨Y1,hY1⟩:∃ Y1:Nat,y=Y1+1:=⟨y-1,by omega⟩;obtain⟨q,hq⟩:∃ q:Nat,q=Y1*W+(x+k):=⟨_,rfl⟩;have hqn:q<n:=by rw[hq];exact Inn.out Y1 (x+k) (by omega) (by omega)
   have hpv:=Pin.out Y1 (x+k) (by omega) (by omega);rw[←hq]at hpv;obtain⟨va,hva⟩:∃ va,va=pat p ((x:Int)+(k:Int)) ((y:Int)-1):=⟨_,rfl⟩;have hcell:∃ b off,a=some ⟨b,off,none⟩∧w5.cell? ⟨b,off+q,none⟩=some (.int .i64 va):=by
    obtain⟨b,off,h1,h2⟩:=(r.ext E5).int hqn;refine⟨b,off,h1,?_⟩;rw[h2,hva,show(x:Int)+(k:Int)=((x+k:Nat):Int) by omega,show(y:Int)-1=(Y1:Int) by omega,hpv]
   have hm1:((y:Int)-1)*(W:Int)=((Y1*W:Nat):Int):=by rw[Int.natCast_mul,show(y:Int)-1=(Y1:Int) by omega]
   have hmq:Y1*W≤q:=by rw[hq];omega
   have hq2:((y:Int)-1)*(W:Int)+(x:Int)+(k:Int)=(q:Int):=by rw[hm1,hq];omega
   have hmb:0≤((y:Int)-1)*(W:Int)∧((y:Int)-1)*(W:Int)≤1024:=by rw[hm1];omega
   have Hva:=Lib.hid hva;have c0:=s2.ab (edS_ln L.out k _ _) hlt;have f0:=s2.frozen k;obtain⟨b,off,rfl,hcell⟩:=hcell;rw[HW.out]at k0;clear hq hpv hva hm1 hmq hY1;go_upto_region 9 with fail
   have s3:=s2.s_up L.out hlt va;have E6:=sC _ _ k (.int .i64 va) (by omega:w.heap.size≤B+1+1) E5;have X6:=blk_set_other (c:=B+1+1) (i:=k) (v := .int .i64 va) X5 (by omega);have t2:=t1.set_other (c:=B+1+1) (i:=k) (v := .int .i64 va) (by omega);clear s2 E5 X5 t1 c0 f0 cu cl k0 k1 k2 hcell hq2 hmb;have s2:=s3;have E5:=E6;have X5:=X6;have t1:=t2;clear s3 E6 X6 t2;generalize w5.setCell ⟨B+1+1,k,none⟩ (.int .i64 va)=w7 at *;have cl:=s2.le (edS_ln L.out k _ _);rw[show(edS E k va 128).le=false from FL.out]at cl;obtain⟨-,k0,k1,k2,-⟩:=bx3 X5;have hnx:=edS_next L.out hlt (u:=va) (v:=128) (by rw[ra.out k hlt];exact Hva.out.symm) (by rw[rl.out k hlt]);rw[hnx]at s2;clear hnx;go_wp2;go_roundw
   case rel=>exact⟨k+1,by omega,by go_num,E5,Lib.hid X5,t1,s2⟩
   case measure=>simp[intOf];omega
  ·obtain rfl:k=4:=by omega
   have cu:=r2.up (edK_ln L.out 4);have cl:=r2.le (edK_ln L.out 4);rw[show(edK E 4).up=true from FU.out]at cu;rw[show(edK E 4).le=false from FL.out]at cl;obtain⟨-,k0,k1,k2,-⟩:=bx3 X4.out;go_upto_region 13 with fail
   rw[edK_four L.out]at r2;have hfin:({ E with co:=128 } : Ed)=E:=by rw[←rc.out]
   rw[hfin]at r2;clear hfin;go_wp2_with (first|(refine wpList_cload 106 _ rfl rfl r2 rfl _ Tryz.underlying106 rfl 11 size_Edges (edC_size L.out) ?_)|(refine wpList_cstore 106 _ _ rfl rfl r1 rfl _ rfl (edC_one E) 11 size_Edges (edC_size L.out) (edC_size ed0_ln) ?_;intro w8 p8 g8;refine Hid.out ?_))
   have E8:Ext w w8:=Ext.grown E4 g8 (fun q hq=>by cases hq;omega);refine Lib.hid ?_;go_wp2;exact bodyPost_ret (v := .agg (edC E)) (results_cell_row rfl _ _ (B+1) 106 (edC E) (0,0) _ rfl p8 Tryz.underlying106 rfl (by rw[edC_size L.out];exact size_Edges)) rfl ⟨rfl,E8⟩
theorem l6Edges_nl (p:Pic) (x y W H:Nat) (top:Int) (a:Option Addr) (c n:Nat) (w:World) (hv:p.valid) (hn:n=p.px.length) (r:Sl w a n (p.px.map (Value.int .i64))) (hW:p.w=W) (hH:p.h=H) (x2:x+3<W) (y2:y+3<H) (t0:0≤top) (hu : ¬ top<(y:Int)) (hl:0<(x:Int)) :
 Calls Tryz.prog 140 #[.agg #[.int .i64 p.w,.int .i64 p.h,.slice a n c],.int .i64 (x:Nat),.int .i64 (y:Nat),.int .i64 top] w fun e w'=>e= .returned (.agg (edC (edg p (x:Int) (y:Int) top)))∧Ext w w':=by
 have d1:decide (top<(y:Int))=false:=by simpa using hu
 have d2:decide (0<x)=true:=by simp;omega
 have L:=Lib.hid (edg_ln p (x:Int) (y:Int) top);have fu:(edg p (x:Int) (y:Int) top).up=false:=d1;have fl:(edg p (x:Int) (y:Int) top).le=true:=(show decide (0<(x:Int))=true by simpa using hl);have ra:=Lib.hid (fun(k:Nat) (hk:k<4)=>show nth (edg p (x:Int) (y:Int) top).ab k=128 by rw[edg_ab _ _ _ _ hk,if_neg hu]);have rl:=Lib.hid (fun(k:Nat) (hk:k<4)=>show nth (edg p (x:Int) (y:Int) top).lf k=pat p ((x:Int)-1) ((y:Int)+(k:Int)) by rw[edg_lf _ _ _ _ hk,if_pos hl]);have rc:=Lib.hid (show(edg p (x:Int) (y:Int) top).co=128 by unfold edg;simp only;rw[if_neg (fun h=>hu h.1)]);have hlen:=hv.2.2.1;rw[hW,hH,←Int.natCast_mul]at hlen;have hnW:n=W*H:=by rw[hn];exact Int.ofNat.inj hlen
 have hside:=hv.1;rw[hW]at hside;have hside2:=hv.2.1;rw[hH]at hside2;have hW32:W≤32:=by have:=hside.2.1;omega
 have hH32:H≤32:=by have:=hside2.2.1;omega
 have inn:∀ u v:Nat,u<H→v<W→u*W+v<n:=fun u v h1 h2=>by
  have h3:=Nat.mul_le_mul_right W (show u+1≤H by omega);rw[Nat.add_mul,Nat.one_mul,Nat.mul_comm H W,←hnW]at h3;omega
 have Inn:=Lib.hid inn;have hn1k:n≤1024:=by rw[hnW];exact Nat.mul_le_mul hW32 hH32
 have Pin:=Lib.hid (fun(u v:Nat) (h1:u<H) (h2:v<W)=>pat_in (p:=p) (x:=v) (y:=u) (by rw[hW];omega) (by rw[hH];omega) hW);have HW:=Lib.hid hW;clear hlen hnW hside hside2 hW hH inn;have HN:=Lib.hid hn;have HV:=Lib.hid hv;obtain⟨E,hE⟩:∃ E,E=edg p (x:Int) (y:Int) top:=⟨_,rfl⟩;rw[←hE]at L fu fl ra rl rc⊢;have HE:=Lib.hid hE;clear hn hv hE;have a2:=Ext.alloc (w.alloc (.cells #[.int .i64 p.w,.int .i64 p.h,.slice a n c] 25)) (.cells (edC ed0) 106);have a3:=Ext.alloc ((w.alloc (.cells #[.int .i64 p.w,.int .i64 p.h,.slice a n c] 25)).alloc (.cells (edC ed0) 106)) (.cells (edC ⟨z4,z4,128,false,true⟩) 106);have b0:=a3.blk (a2.blk (blk_new w (.cells #[.int .i64 p.w,.int .i64 p.h,.slice a n c] 25)));have b1:=(EB.new (w.alloc (.cells #[.int .i64 p.w,.int .i64 p.h,.slice a n c] 25)) ed0).ext a3;have b2:=EB.new ((w.alloc (.cells #[.int .i64 p.w,.int .i64 p.h,.slice a n c] 25)).alloc (.cells (edC ed0) 106)) ⟨z4,z4,128,false,true⟩;have E1:=((Ext.alloc w (.cells #[.int .i64 p.w,.int .i64 p.h,.slice a n c] 25)).trans a2).trans a3;simp only[World.size_alloc]at b1 b2;have eK:=Lib.hid (edK_zero E);rw[fu,fl]at eK;have FU:=Lib.hid fu;have FL:=Lib.hid fl;clear a2 a3 fu fl;go_enter Tryz.func140,Tryz.ntmps140
 go_wp2_with fail
 try simp only[World.size_alloc]
 obtain⟨B,hB⟩:∃ B,B=w.heap.size:=⟨_,rfl⟩;rw[←hB]at b0 b1 b2⊢;have hwB:w.heap.size≤B:=by omega
 have HB:=Lib.hid hB;clear hB;go_loopw [10] (fun i wr=>∃ k:Nat,k≤4∧i= .int .i64 k∧Ext w wr∧Hid (wr.heap[B]?=some (.cells #[.int .i64 p.w,.int .i64 p.h,.slice a n c] 25 (0,0)))∧EB wr (B+1) ed0∧EB wr (B+1+1) (edK E k)) (fun i _=>4-(intOf i).toNat)
 case atStart=>exact⟨0,by omega,rfl,E1,Lib.hid b0,b1,by rw[eK.out];exact b2⟩
 case round =>
  obtain⟨k,hk,rfl,E4,X4,r1,r2⟩:=hrel;clear b0 b1 b2 E1
  by_cases hlt:k<4
  ·have hd:decide ((k:Int)<4)=true:=by simp;omega
   have c0:=r2.ab (edK_ln L.out k) hlt;have f0:=r2.frozen k;go_upto_region 6 with fail
   have s1:=r2.first L.out hlt 128
   have E5:=sC _ _ k (.int .i64 128) (by omega:w.heap.size≤B+1+1) E4;have X5:=blk_set_other (c:=B+1+1) (i:=k) (v := .int .i64 128) X4.out (by omega);have t1:=r1.set_other (c:=B+1+1) (i:=k) (v := .int .i64 128) (by omega);clear r2 E4 X4 r1 c0 f0;generalize wr.setCell ⟨B+1+1,k,none⟩ (.int .i64 128)=wq at *;have c1:=s1.lf ⟨by show(List.set _ _ _).length=4;rw[List.length_set];exact mixI_len _ _ _ 4 L.out.ab rfl,mixI_len _ _ _ 4 L.out.lf rfl⟩ hlt;have f1:=s1.frozen (4+k);go_upto_region 7 with fail
   have s2:=s1.second L.out hlt 128;have E5':=sC _ _ (4+k) (.int .i64 128) (by omega:w.heap.size≤B+1+1) E5;have X5':=blk_set_other (c:=B+1+1) (i:=4+k) (v := .int .i64 128) X5 (by omega);have t1':=t1.set_other (c:=B+1+1) (i:=4+k) (v := .int .i64 128) (by omega);clear s1 E5 X5 t1 c1 f1;have E5:=E5';have X5:=X5';have t1:=t1';clear E5' X5' t1';generalize wq.setCell ⟨B+1+1,4+k,none⟩ (.int .i64 128)=w5 at *;have cu:=s2.up (edS_ln L.out k _ _);have cl:=s2.le (edS_ln L.out k _ _);rw[show(edS E k 128 128).up=false from FU.out]at cu;rw[show(edS E k 128 128).le=true from FL.out]at cl;obtain⟨-,k0,k1,k2,-⟩:=bx3 X5;obtain⟨X1,hX1⟩:∃ X1:Nat,x=X1+1:=⟨x-1,by omega⟩;obtain⟨q,hq⟩:∃ q:Nat,q=(y+k)*W+X1:=⟨_,rfl⟩;have hqn:q<n:=by rw[hq];exact Inn.out (y+k) X1 (by omega) (by omega)
   have hpv:=Pin.out (y+k) X1 (by omega) (by omega);rw[←hq]at hpv;obtain⟨vl,hvl⟩:∃ vl,vl=pat p ((x:Int)-1) ((y:Int)+(k:Int)):=⟨_,rfl⟩;have hcell:∃ bb oo,a=some ⟨bb,oo,none⟩∧w5.cell? ⟨bb,oo+q,none⟩=some (.int .i64 vl):=by
    obtain⟨bb,oo,h1,h2⟩:=(r.ext E5).int hqn;refine⟨bb,oo,h1,?_⟩;rw[h2,hvl,show(x:Int)-1=(X1:Int) by omega,show(y:Int)+(k:Int)=((y+k:Nat):Int) by omega,hpv]
   have hm1:((y:Int)+(k:Int))*(W:Int)=(((y+k)*W:Nat):Int):=by rw[Int.natCast_mul,show(y:Int)+(k:Int)=((y+k:Nat):Int) by omega]
   have hmq:(y+k)*W≤q:=by rw[hq];omega
   have hq2:((y:Int)+(k:Int))*(W:Int)+(x:Int)-1=(q:Int):=by rw[hm1,hq];omega
   have hmb:0≤((y:Int)+(k:Int))*(W:Int)∧((y:Int)+(k:Int))*(W:Int)≤1024:=by rw[hm1];omega
   have Hvl:=Lib.hid hvl;have c0:=s2.lf (edS_ln L.out k _ _) hlt;have f0:=s2.frozen (4+k);obtain⟨b,off,rfl,hcell⟩:=hcell;rw[HW.out]at k0;clear hq hpv hvl hm1 hmq hX1;go_wp2;have s3:=s2.s_lf L.out hlt vl;have E6:=sC _ _ (4+k) (.int .i64 vl) (by omega:w.heap.size≤B+1+1) E5;have X6:=blk_set_other (c:=B+1+1) (i:=4+k) (v := .int .i64 vl) X5 (by omega);have t2:=t1.set_other (c:=B+1+1) (i:=4+k) (v := .int .i64 vl) (by omega);clear s2 E5 X5 t1 c0 f0 cl k0 k1 k2 hcell hq2 hmb cu;have s2:=s3;have E5:=E6;have X5:=X6;have t1:=t2;clear s3 E6 X6 t2;have hnx:=edS_next L.out hlt (u:=128) (v:=vl) (by rw[ra.out k hlt]) (by rw[rl.out k hlt];exact Hvl.out.symm);rw[hnx]at s2;clear hnx;go_roundw
   case rel=>exact⟨k+1,by omega,by go_num,E5,Lib.hid X5,t1,s2⟩
   case measure=>simp[intOf];omega
  ·obtain rfl:k=4:=by omega
   have cu:=r2.up (edK_ln L.out 4);have cl:=r2.le (edK_ln L.out 4);rw[show(edK E 4).up=false from FU.out]at cu;rw[show(edK E 4).le=true from FL.out]at cl;obtain⟨-,k0,k1,k2,-⟩:=bx3 X4.out;go_upto_region 13 with fail
   rw[edK_four L.out]at r2;have hfin:({ E with co:=128 } : Ed)=E:=by rw[←rc.out]
   rw[hfin]at r2;clear hfin;go_wp2_with (first|(refine wpList_cload 106 _ rfl rfl r2 rfl _ Tryz.underlying106 rfl 11 size_Edges (edC_size L.out) ?_)|(refine wpList_cstore 106 _ _ rfl rfl r1 rfl _ rfl (edC_one E) 11 size_Edges (edC_size L.out) (edC_size ed0_ln) ?_;intro w8 p8 g8;refine Hid.out ?_))
   have E8:Ext w w8:=Ext.grown E4 g8 (fun q hq=>by cases hq;omega);refine Lib.hid ?_;go_wp2;exact bodyPost_ret (v := .agg (edC E)) (results_cell_row rfl _ _ (B+1) 106 (edC E) (0,0) _ rfl p8 Tryz.underlying106 rfl (by rw[edC_size L.out];exact size_Edges)) rfl ⟨rfl,E8⟩
theorem l6Edges_nn (p:Pic) (x y W H:Nat) (top:Int) (a:Option Addr) (c n:Nat) (w:World) (hv:p.valid) (hn:n=p.px.length) (r:Sl w a n (p.px.map (Value.int .i64))) (hW:p.w=W) (hH:p.h=H) (x2:x+3<W) (y2:y+3<H) (t0:0≤top) (hu : ¬ top<(y:Int)) (hl : ¬ 0<(x:Int)) :
 Calls Tryz.prog 140 #[.agg #[.int .i64 p.w,.int .i64 p.h,.slice a n c],.int .i64 (x:Nat),.int .i64 (y:Nat),.int .i64 top] w fun e w'=>e= .returned (.agg (edC (edg p (x:Int) (y:Int) top)))∧Ext w w':=by
 have d1:decide (top<(y:Int))=false:=by simpa using hu
 have d2:decide (0<x)=false:=by simp;omega
 have L:=Lib.hid (edg_ln p (x:Int) (y:Int) top);have fu:(edg p (x:Int) (y:Int) top).up=false:=d1;have fl:(edg p (x:Int) (y:Int) top).le=false:=(show decide (0<(x:Int))=false by simpa using hl);have ra:=Lib.hid (fun(k:Nat) (hk:k<4)=>show nth (edg p (x:Int) (y:Int) top).ab k=128 by rw[edg_ab _ _ _ _ hk,if_neg hu]);have rl:=Lib.hid (fun(k:Nat) (hk:k<4)=>show nth (edg p (x:Int) (y:Int) top).lf k=128 by rw[edg_lf _ _ _ _ hk,if_neg hl]);have rc:=Lib.hid (show(edg p (x:Int) (y:Int) top).co=128 by unfold edg;simp only;rw[if_neg (fun h=>hu h.1)]);have hlen:=hv.2.2.1;rw[hW,hH,←Int.natCast_mul]at hlen;have hnW:n=W*H:=by rw[hn];exact Int.ofNat.inj hlen
 have hside:=hv.1;rw[hW]at hside;have hside2:=hv.2.1;rw[hH]at hside2;have hW32:W≤32:=by have:=hside.2.1;omega
 have hH32:H≤32:=by have:=hside2.2.1;omega
 have inn:∀ u v:Nat,u<H→v<W→u*W+v<n:=fun u v h1 h2=>by
  have h3:=Nat.mul_le_mul_right W (show u+1≤H by omega);rw[Nat.add_mul,Nat.one_mul,Nat.mul_comm H W,←hnW]at h3;omega
 have Inn:=Lib.hid inn;have hn1k:n≤1024:=by rw[hnW];exact Nat.mul_le_mul hW32 hH32
 have Pin:=Lib.hid (fun(u v:Nat) (h1:u<H) (h2:v<W)=>pat_in (p:=p) (x:=v) (y:=u) (by rw[hW];omega) (by rw[hH];omega) hW);have HW:=Lib.hid hW;clear hlen hnW hside hside2 hW hH inn;have HN:=Lib.hid hn;have HV:=Lib.hid hv;obtain⟨E,hE⟩:∃ E,E=edg p (x:Int) (y:Int) top:=⟨_,rfl⟩;rw[←hE]at L fu fl ra rl rc⊢;have HE:=Lib.hid hE;clear hn hv hE;have a2:=Ext.alloc (w.alloc (.cells #[.int .i64 p.w,.int .i64 p.h,.slice a n c] 25)) (.cells (edC ed0) 106);have a3:=Ext.alloc ((w.alloc (.cells #[.int .i64 p.w,.int .i64 p.h,.slice a n c] 25)).alloc (.cells (edC ed0) 106)) (.cells (edC ⟨z4,z4,128,false,false⟩) 106);have b0:=a3.blk (a2.blk (blk_new w (.cells #[.int .i64 p.w,.int .i64 p.h,.slice a n c] 25)));have b1:=(EB.new (w.alloc (.cells #[.int .i64 p.w,.int .i64 p.h,.slice a n c] 25)) ed0).ext a3;have b2:=EB.new ((w.alloc (.cells #[.int .i64 p.w,.int .i64 p.h,.slice a n c] 25)).alloc (.cells (edC ed0) 106)) ⟨z4,z4,128,false,false⟩;have E1:=((Ext.alloc w (.cells #[.int .i64 p.w,.int .i64 p.h,.slice a n c] 25)).trans a2).trans a3;simp only[World.size_alloc]at b1 b2;have eK:=Lib.hid (edK_zero E);rw[fu,fl]at eK;have FU:=Lib.hid fu;have FL:=Lib.hid fl;clear a2 a3 fu fl;go_enter Tryz.func140,Tryz.ntmps140
 go_wp2_with fail
 try simp only[World.size_alloc]
 obtain⟨B,hB⟩:∃ B,B=w.heap.size:=⟨_,rfl⟩;rw[←hB]at b0 b1 b2⊢;have hwB:w.heap.size≤B:=by omega
 have HB:=Lib.hid hB;clear hB;go_loopw [10] (fun i wr=>∃ k:Nat,k≤4∧i= .int .i64 k∧Ext w wr∧Hid (wr.heap[B]?=some (.cells #[.int .i64 p.w,.int .i64 p.h,.slice a n c] 25 (0,0)))∧EB wr (B+1) ed0∧EB wr (B+1+1) (edK E k)) (fun i _=>4-(intOf i).toNat)
 case atStart=>exact⟨0,by omega,rfl,E1,Lib.hid b0,b1,by rw[eK.out];exact b2⟩
 case round =>
  obtain⟨k,hk,rfl,E4,X4,r1,r2⟩:=hrel;clear b0 b1 b2 E1
  by_cases hlt:k<4
  ·have hd:decide ((k:Int)<4)=true:=by simp;omega
   have c0:=r2.ab (edK_ln L.out k) hlt;have f0:=r2.frozen k;go_upto_region 6 with fail
   have s1:=r2.first L.out hlt 128
   have E5:=sC _ _ k (.int .i64 128) (by omega:w.heap.size≤B+1+1) E4;have X5:=blk_set_other (c:=B+1+1) (i:=k) (v := .int .i64 128) X4.out (by omega);have t1:=r1.set_other (c:=B+1+1) (i:=k) (v := .int .i64 128) (by omega);clear r2 E4 X4 r1 c0 f0;generalize wr.setCell ⟨B+1+1,k,none⟩ (.int .i64 128)=wq at *;have c1:=s1.lf ⟨by show(List.set _ _ _).length=4;rw[List.length_set];exact mixI_len _ _ _ 4 L.out.ab rfl,mixI_len _ _ _ 4 L.out.lf rfl⟩ hlt;have f1:=s1.frozen (4+k);go_upto_region 7 with fail
   have s2:=s1.second L.out hlt 128;have E5':=sC _ _ (4+k) (.int .i64 128) (by omega:w.heap.size≤B+1+1) E5;have X5':=blk_set_other (c:=B+1+1) (i:=4+k) (v := .int .i64 128) X5 (by omega);have t1':=t1.set_other (c:=B+1+1) (i:=4+k) (v := .int .i64 128) (by omega);clear s1 E5 X5 t1 c1 f1;have E5:=E5';have X5:=X5';have t1:=t1';clear E5' X5' t1';generalize wq.setCell ⟨B+1+1,4+k,none⟩ (.int .i64 128)=w5 at *;have cu:=s2.up (edS_ln L.out k _ _);have cl:=s2.le (edS_ln L.out k _ _);rw[show(edS E k 128 128).up=false from FU.out]at cu;rw[show(edS E k 128 128).le=false from FL.out]at cl;obtain⟨-,k0,k1,k2,-⟩:=bx3 X5;have hnx:=edS_next L.out hlt (u:=128) (v:=128) (by rw[ra.out k hlt]) (by rw[rl.out k hlt]);rw[hnx]at s2;clear hnx;go_wp2;go_roundw
   case rel=>exact⟨k+1,by omega,by go_num,E5,Lib.hid X5,t1,s2⟩
   case measure=>simp[intOf];omega
  ·obtain rfl:k=4:=by omega
   have cu:=r2.up (edK_ln L.out 4);have cl:=r2.le (edK_ln L.out 4);rw[show(edK E 4).up=false from FU.out]at cu;rw[show(edK E 4).le=false from FL.out]at cl;obtain⟨-,k0,k1,k2,-⟩:=bx3 X4.out;go_upto_region 13 with fail
   rw[edK_four L.out]at r2;have hfin:({ E with co:=128 } : Ed)=E:=by rw[←rc.out]
   rw[hfin]at r2;clear hfin;go_wp2_with (first|(refine wpList_cload 106 _ rfl rfl r2 rfl _ Tryz.underlying106 rfl 11 size_Edges (edC_size L.out) ?_)|(refine wpList_cstore 106 _ _ rfl rfl r1 rfl _ rfl (edC_one E) 11 size_Edges (edC_size L.out) (edC_size ed0_ln) ?_;intro w8 p8 g8;refine Hid.out ?_))
   have E8:Ext w w8:=Ext.grown E4 g8 (fun q hq=>by cases hq;omega);refine Lib.hid ?_;go_wp2;exact bodyPost_ret (v := .agg (edC E)) (results_cell_row rfl _ _ (B+1) 106 (edC E) (0,0) _ rfl p8 Tryz.underlying106 rfl (by rw[edC_size L.out];exact size_Edges)) rfl ⟨rfl,E8⟩
theorem l6Edges_any (p:Pic) (x y W H:Nat) (top:Int) (a:Option Addr) (c n:Nat) (w:World) (hv:p.valid) (hn:n=p.px.length) (r:Sl w a n (p.px.map (Value.int .i64))) (hW:p.w=W) (hH:p.h=H) (x2:x+3<W) (y2:y+3<H) (t0:0≤top) :
 Calls Tryz.prog 140 #[.agg #[.int .i64 p.w,.int .i64 p.h,.slice a n c],.int .i64 (x:Nat),.int .i64 (y:Nat),.int .i64 top] w fun e w'=>e= .returned (.agg (edC (edg p (x:Int) (y:Int) top)))∧Ext w w':=by
 by_cases hu:top<(y:Int)
 ·by_cases hl:0<(x:Int)
  ·exact l6Edges_ul p x y W H top a c n w hv hn r hW hH x2 y2 t0 hu hl
  ·exact l6Edges_un p x y W H top a c n w hv hn r hW hH x2 y2 t0 hu hl
 ·by_cases hl:0<(x:Int)
  ·exact l6Edges_nl p x y W H top a c n w hv hn r hW hH x2 y2 t0 hu hl
  ·exact l6Edges_nn p x y W H top a c n w hv hn r hW hH x2 y2 t0 hu hl
end Go.Proofs.YtbnhaegidfbgbaaGreatDoor
